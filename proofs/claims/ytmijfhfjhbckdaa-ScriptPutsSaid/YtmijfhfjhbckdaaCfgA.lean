import Derived.Test.YtmijfhfjhbckdaaTun
/- The reading of a configuration and a store. -/
namespace Go.Proofs.Ytmijfhfjhbckdaa
set_option maxRecDepth 100000
open Go.RowKit
structure CfgP where
  self : List UInt8
  tun : TunP
  mtu : Nat
  ents : Nat
  byts : Nat
  life : Nat
def cfgP (l : List UInt8) : CfgP := ⟨(l.drop 8).take 4, tunP l, bv ((l.drop 12).take 2), bv ((l.drop 14).take 1), bv ((l.drop 15).take 4), bv ((l.drop 19).take 1)⟩
def cfgC (c : CfgP) : Array Value := #[.string (bs c.self), .int .i64 (c.tun.mode : Nat), .bool (c.tun.bits % 2 == 1), .bool (c.tun.bits / 2 % 2 == 1), .int .u32 (c.tun.value : Nat), .bool (c.tun.bits / 4 % 2 == 1), .int .i64 (c.tun.ttl : Nat), .int .i64 (c.tun.tos : Nat), .int .i64 (c.mtu : Nat)]
def stoC (c : CfgP) : Array Value := #[.int .i64 (c.ents : Nat), .int .i64 (c.byts : Nat), .int .i64 (c.life : Nat)]
/-- the three that are captured, zero at first -/
structure CapSt (b CB SB RB : Nat) (w0 : World) (C S T : Array Value) (w : World) : Prop where
  hC : w.heap[CB]? = some (.cells C 27 (0, 0))
  hS : w.heap[SB]? = some (.cells S 29 (0, 0))
  hR : w.heap[RB]? = some (.cells T 9 (0, 0))
  ne : CB ≠ b ∧ SB ≠ b ∧ RB ≠ b ∧ CB ≠ SB ∧ CB ≠ RB ∧ SB ≠ RB
  sv : Save [b, CB, SB, RB] w0 w
theorem CapSt.but {b CB SB RB : Nat} {w0 w w' : World} {C S T : Array Value} (h : CapSt b CB SB RB w0 C S T w) (hb : But b w w') : CapSt b CB SB RB w0 C S T w' :=
  ⟨(hb.block _ (heap_lt h.hC) h.ne.1).trans h.hC, (hb.block _ (heap_lt h.hS) h.ne.2.1).trans h.hS, (hb.block _ (heap_lt h.hR) h.ne.2.2.1).trans h.hR, h.ne, h.sv.trans (hb.save (by simp))⟩
theorem heap_off (k X : Nat) (h : k ≠ X) (w : World) (i : Nat) (v : Value) : (w.setCell ⟨X, i, none⟩ v).heap[k]? = w.heap[k]? := Below.heap_setCell _ _ _ _ h
theorem set9 {w : World} {g : Nat} {a0 a1 a2 a3 a4 a5 a6 a7 a8 b0 b1 b2 b3 b4 b5 b6 b7 b8 : Value} {t : TypeId} (h : w.heap[g]? = some (.cells #[a0, a1, a2, a3, a4, a5, a6, a7, a8] t (0, 0))) :
    (((((((((w.setCell ⟨g, 0, none⟩ b0).setCell ⟨g, 1, none⟩ b1).setCell ⟨g, 2, none⟩ b2).setCell ⟨g, 3, none⟩ b3).setCell ⟨g, 4, none⟩ b4).setCell ⟨g, 5, none⟩ b5).setCell ⟨g, 6, none⟩ b6).setCell ⟨g, 7, none⟩ b7).setCell ⟨g, 8, none⟩ b8).heap[g]? = some (.cells #[b0, b1, b2, b3, b4, b5, b6, b7, b8] t (0, 0)) := by
  simp [World.setCell, Array.getElem?_modify, h]
theorem set3 {w : World} {g : Nat} {a0 a1 a2 b0 b1 b2 : Value} {t : TypeId} (h : w.heap[g]? = some (.cells #[a0, a1, a2] t (0, 0))) :
    (((w.setCell ⟨g, 0, none⟩ b0).setCell ⟨g, 1, none⟩ b1).setCell ⟨g, 2, none⟩ b2).heap[g]? = some (.cells #[b0, b1, b2] t (0, 0)) := by
  simp [World.setCell, Array.getElem?_modify, h]
def CfgPost (b CB SB RB : Nat) (l : List UInt8) (w : World) (e : Ending) (w' : World) : Prop :=
  (20 ≤ l.length ∧ e = .returned (.tuple #[]) ∧ CapSt b CB SB RB w (cfgC (cfgP l)) (stoC (cfgP l)) #[.string (bs (l.drop 20))] w') ∨ (l.length < 20 ∧ e = .panicked (stopped 2) ∧ Save [b, CB, SB, RB] w w')
set_option maxHeartbeats 4000000 in
theorem cfg1_any (b CB SB RB : Nat) (s : ByteArray) (l : List UInt8) (w : World) (h : Rl b s l w) (hs : s.size ≤ MX)
    (hc : CapSt b CB SB RB w #[.string ⟨#[]⟩, .int .i64 0, .bool false, .bool false, .int .u32 0, .bool false, .int .i64 0, .int .i64 0, .int .i64 0] #[.int .i64 0, .int .i64 0, .int .i64 0] #[.string ⟨#[]⟩] w) :
    Calls Try.prog 20 #[.pointer (some ⟨b, 0, none⟩), .pointer (some ⟨CB, 0, none⟩), .pointer (some ⟨SB, 0, none⟩), .pointer (some ⟨RB, 0, none⟩)] w (CfgPost b CB SB RB l w) := by
  have CS := Lib.hid hc
  have GT := Lib.hid (gtun_any b s l w h hs)
  clear h hc
  go_enter Try.func20, Try.ntmps20
  go_wp2_with (fail)
  refine GT.out.mono ?_
  rintro e w1 (⟨h8, rfl, hr1, hb1⟩ | ⟨h8, rfl, hb1⟩)
  · have CS1 := Lib.hid (CS.out.but hb1)
    clear hb1
    by_cases h12 : 12 ≤ l.length
    · obtain ⟨sf, hsf⟩ : ∃ x, x = bs ((l.drop 8).take 4) := ⟨_, rfl⟩
      have U : Hid (Calls Try.prog 22 #[.pointer (some ⟨b, 0, none⟩), .int .i64 4] w1 fun e w' => e = .returned (.string sf) ∧ Rl b s ((l.drop 8).drop 4) w' ∧ But b w1 w') := by
        show Calls _ _ _ _ _; rw [hsf]; exact take_l b 4 s _ w1 hr1 (by simp only [List.length_drop]; omega) hs
      have HSF := Lib.hid hsf
      clear hsf hr1
      unfold tunV
      go_wp2_with (fail)
      refine U.out.mono ?_
      clear U
      rintro e w2 ⟨rfl, hr2, hb2⟩
      have CS2 := Lib.hid (CS1.out.but hb2)
      clear hb2
      by_cases h14 : 14 ≤ l.length
      · obtain ⟨mt, hmt⟩ : ∃ x, x = bv (((l.drop 8).drop 4).take 2) := ⟨_, rfl⟩
        have U : Hid (Calls Try.prog 23 #[.pointer (some ⟨b, 0, none⟩)] w2 fun e w' => e = .returned (.int .i64 (mt : Nat)) ∧ Rl b s (((l.drop 8).drop 4).drop 2) w' ∧ But b w2 w') := by
          show Calls _ _ _ _ _; rw [hmt]; exact u16_l b s _ w2 hr2 (by simp only [List.length_drop]; omega) hs
        have HMT := Lib.hid hmt
        clear hmt hr2
        go_wp2_with (fail)
        refine U.out.mono ?_
        clear U
        rintro e w3 ⟨rfl, hr3, hb3⟩
        have CS3 := Lib.hid (CS2.out.but hb3)
        have HR3 := Lib.hid hr3
        clear hb3 hr3
        have k0 := cellAt (i := 0) (v := .string ⟨#[]⟩) CS3.out.hC rfl
        have k1 := cellAt (i := 1) (v := .int .i64 0) CS3.out.hC rfl
        have k2 := cellAt (i := 2) (v := .bool false) CS3.out.hC rfl
        have k3 := cellAt (i := 3) (v := .bool false) CS3.out.hC rfl
        have k4 := cellAt (i := 4) (v := .int .u32 0) CS3.out.hC rfl
        have k5 := cellAt (i := 5) (v := .bool false) CS3.out.hC rfl
        have k6 := cellAt (i := 6) (v := .int .i64 0) CS3.out.hC rfl
        have k7 := cellAt (i := 7) (v := .int .i64 0) CS3.out.hC rfl
        have k8 := cellAt (i := 8) (v := .int .i64 0) CS3.out.hC rfl
        have f0 := Lib.frozen_of_heap CS3.out.hC 0
        have f1 := Lib.frozen_of_heap CS3.out.hC 1
        have f2 := Lib.frozen_of_heap CS3.out.hC 2
        have f3 := Lib.frozen_of_heap CS3.out.hC 3
        have f4 := Lib.frozen_of_heap CS3.out.hC 4
        have f5 := Lib.frozen_of_heap CS3.out.hC 5
        have f6 := Lib.frozen_of_heap CS3.out.hC 6
        have f7 := Lib.frozen_of_heap CS3.out.hC 7
        have f8 := Lib.frozen_of_heap CS3.out.hC 8
        obtain ⟨W4, hW4⟩ : ∃ V, V = (((((((((w3.setCell ⟨CB, 0, none⟩ (.string sf)).setCell ⟨CB, 1, none⟩ (.int .i64 ((tunP l).mode : Nat))).setCell ⟨CB, 2, none⟩ (.bool ((tunP l).bits % 2 == 1))).setCell ⟨CB, 3, none⟩ (.bool ((tunP l).bits / 2 % 2 == 1))).setCell ⟨CB, 4, none⟩ (.int .u32 ((tunP l).value : Nat))).setCell ⟨CB, 5, none⟩ (.bool ((tunP l).bits / 4 % 2 == 1))).setCell ⟨CB, 6, none⟩ (.int .i64 ((tunP l).ttl : Nat))).setCell ⟨CB, 7, none⟩ (.int .i64 ((tunP l).tos : Nat))).setCell ⟨CB, 8, none⟩ (.int .i64 (mt : Nat))) := ⟨_, rfl⟩
        have CS4 : Hid (CapSt b CB SB RB w #[.string sf, .int .i64 ((tunP l).mode : Nat), .bool ((tunP l).bits % 2 == 1), .bool ((tunP l).bits / 2 % 2 == 1), .int .u32 ((tunP l).value : Nat), .bool ((tunP l).bits / 4 % 2 == 1), .int .i64 ((tunP l).ttl : Nat), .int .i64 ((tunP l).tos : Nat), .int .i64 (mt : Nat)] #[.int .i64 0, .int .i64 0, .int .i64 0] #[.string ⟨#[]⟩] W4) := by
          obtain ⟨c1, c2, c3, c4, c5, c6⟩ := CS3.out.ne
          refine ⟨by rw [hW4]; exact set9 CS3.out.hC, by rw [hW4]; simp only [heap_off SB CB (fun e => c4 e.symm)]; exact CS3.out.hS, by rw [hW4]; simp only [heap_off RB CB (fun e => c5 e.symm)]; exact CS3.out.hR, CS3.out.ne, ?_⟩
          rw [hW4]
          exact ((((((((CS3.out.sv.set (.inl (by simp)) _).set (.inl (by simp)) _).set (.inl (by simp)) _).set (.inl (by simp)) _).set (.inl (by simp)) _).set (.inl (by simp)) _).set (.inl (by simp)) _).set (.inl (by simp)) _).set (.inl (by simp)) _
        have HR4 : Hid (Rl b s (((l.drop 8).drop 4).drop 2) W4) := by
          have c1 := CS3.out.ne.1
          refine HR3.out.same ?_
          rw [hW4]
          simp only [heap_off b CB (fun e => c1 e.symm)]
        go_upto_region 1 with (fail)
        rw [← hW4]
        clear hW4 k0 f0 k1 f1 k2 f2 k3 f3 k4 f4 k5 f5 k6 f6 k7 f7 k8 f8
        by_cases h15 : 15 ≤ l.length
        · obtain ⟨en, hen⟩ : ∃ x, x = bv ((((l.drop 8).drop 4).drop 2).take 1) := ⟨_, rfl⟩
          have U : Hid (Calls Try.prog 24 #[.pointer (some ⟨b, 0, none⟩)] W4 fun e w' => e = .returned (.int .i64 (en : Nat)) ∧ Rl b s ((((l.drop 8).drop 4).drop 2).drop 1) w' ∧ But b W4 w') := by
            show Calls _ _ _ _ _; rw [hen]; exact u8_l b s _ W4 HR4.out (by simp only [List.length_drop]; omega) hs
          have HEN := Lib.hid hen
          clear hen
          go_wp2_with (fail)
          refine U.out.mono ?_
          clear U
          rintro e w5 ⟨rfl, hr5, hb5⟩
          have CS5 := Lib.hid (CS4.out.but hb5)
          clear hb5
          by_cases h19 : 19 ≤ l.length
          · obtain ⟨by', hby⟩ : ∃ x, x = bv (((((l.drop 8).drop 4).drop 2).drop 1).take 4) := ⟨_, rfl⟩
            have hby9 : by' < 4294967296 := by
              rw [hby]
              have h := bv_lt (((((l.drop 8).drop 4).drop 2).drop 1).take 4)
              have h2 : 256 ^ (((((l.drop 8).drop 4).drop 2).drop 1).take 4).length ≤ 256 ^ 4 := Nat.pow_le_pow_right (by decide) (by rw [List.length_take]; omega)
              omega
            have U : Hid (Calls Try.prog 25 #[.pointer (some ⟨b, 0, none⟩)] w5 fun e w' => e = .returned (.int .u32 (by' : Nat)) ∧ Rl b s (((((l.drop 8).drop 4).drop 2).drop 1).drop 4) w' ∧ But b w5 w') := by
              show Calls _ _ _ _ _; rw [hby]; exact u32_l b s _ w5 hr5 (by simp only [List.length_drop]; omega) hs
            have HBY := Lib.hid hby
            have hwb : IntKind.i64.wrap (by' : Int) = (by' : Int) := IntWalk.i64_in _ (by omega)
            clear hby hr5
            go_wp2_with (fail)
            refine U.out.mono ?_
            clear U
            rintro e w6 ⟨rfl, hr6, hb6⟩
            have CS6 := Lib.hid (CS5.out.but hb6)
            clear hb6
            by_cases h20 : 20 ≤ l.length
            · obtain ⟨lf, hlf⟩ : ∃ x, x = bv ((((((l.drop 8).drop 4).drop 2).drop 1).drop 4).take 1) := ⟨_, rfl⟩
              have U : Hid (Calls Try.prog 24 #[.pointer (some ⟨b, 0, none⟩)] w6 fun e w' => e = .returned (.int .i64 (lf : Nat)) ∧ Rl b s ((((((l.drop 8).drop 4).drop 2).drop 1).drop 4).drop 1) w' ∧ But b w6 w') := by
                show Calls _ _ _ _ _; rw [hlf]; exact u8_l b s _ w6 hr6 (by simp only [List.length_drop]; omega) hs
              have HLF := Lib.hid hlf
              clear hlf hr6
              go_wp2_with (fail)
              refine U.out.mono ?_
              clear U
              rintro e w7 ⟨rfl, hr7, hb7⟩
              have CS7 := Lib.hid (CS6.out.but hb7)
              have HR7 := Lib.hid hr7
              clear hb7 hr7
              have k0 := cellAt (i := 0) (v := .int .i64 0) CS7.out.hS rfl
              have k1 := cellAt (i := 1) (v := .int .i64 0) CS7.out.hS rfl
              have k2 := cellAt (i := 2) (v := .int .i64 0) CS7.out.hS rfl
              have f0 := Lib.frozen_of_heap CS7.out.hS 0
              have f1 := Lib.frozen_of_heap CS7.out.hS 1
              have f2 := Lib.frozen_of_heap CS7.out.hS 2
              obtain ⟨W8, hW8⟩ : ∃ V, V = (((w7.setCell ⟨SB, 0, none⟩ (.int .i64 (en : Nat))).setCell ⟨SB, 1, none⟩ (.int .i64 (by' : Nat))).setCell ⟨SB, 2, none⟩ (.int .i64 (lf : Nat))) := ⟨_, rfl⟩
              have CS8 : Hid (CapSt b CB SB RB w #[.string sf, .int .i64 ((tunP l).mode : Nat), .bool ((tunP l).bits % 2 == 1), .bool ((tunP l).bits / 2 % 2 == 1), .int .u32 ((tunP l).value : Nat), .bool ((tunP l).bits / 4 % 2 == 1), .int .i64 ((tunP l).ttl : Nat), .int .i64 ((tunP l).tos : Nat), .int .i64 (mt : Nat)] #[.int .i64 (en : Nat), .int .i64 (by' : Nat), .int .i64 (lf : Nat)] #[.string ⟨#[]⟩] W8) := by
                obtain ⟨c1, c2, c3, c4, c5, c6⟩ := CS7.out.ne
                refine ⟨by rw [hW8]; simp only [heap_off CB SB (fun e => c4 e)]; exact CS7.out.hC, by rw [hW8]; exact set3 CS7.out.hS, by rw [hW8]; simp only [heap_off RB SB (fun e => c6 e.symm)]; exact CS7.out.hR, CS7.out.ne, ?_⟩
                rw [hW8]
                exact ((CS7.out.sv.set (.inl (by simp)) _).set (.inl (by simp)) _).set (.inl (by simp)) _
              have HR8 : Hid (Rl b s ((((((l.drop 8).drop 4).drop 2).drop 1).drop 4).drop 1) W8) := by
                have c1 := CS7.out.ne.2.1
                refine HR7.out.same ?_
                rw [hW8]
                simp only [heap_off b SB (fun e => c1 e.symm)]
              go_upto_region 2 with (fail)
              rw [← hW8]
              clear hW8 k0 k1 k2 f0 f1 f2
              obtain ⟨rs, hrs⟩ : ∃ x, x = bs ((((((l.drop 8).drop 4).drop 2).drop 1).drop 4).drop 1) := ⟨_, rfl⟩
              have U : Hid (Calls Try.prog 26 #[.pointer (some ⟨b, 0, none⟩)] W8 fun e w' => e = .returned (.string rs) ∧ Rl b s [] w' ∧ But b W8 w') := by
                show Calls _ _ _ _ _; rw [hrs]; exact rest_l b s _ W8 HR8.out hs
              have HRS := Lib.hid hrs
              clear hrs
              go_wp2_with (fail)
              refine U.out.mono ?_
              clear U
              rintro e w9 ⟨rfl, hr9, hb9⟩
              have CS9 := Lib.hid (CS8.out.but hb9)
              clear hr9 hb9
              have k0 := cellAt (i := 0) (v := .string ⟨#[]⟩) CS9.out.hR rfl
              have f0 := Lib.frozen_of_heap CS9.out.hR 0
              have HFIN : Hid (CapSt b CB SB RB w #[.string sf, .int .i64 ((tunP l).mode : Nat), .bool ((tunP l).bits % 2 == 1), .bool ((tunP l).bits / 2 % 2 == 1), .int .u32 ((tunP l).value : Nat), .bool ((tunP l).bits / 4 % 2 == 1), .int .i64 ((tunP l).ttl : Nat), .int .i64 ((tunP l).tos : Nat), .int .i64 (mt : Nat)] #[.int .i64 (en : Nat), .int .i64 (by' : Nat), .int .i64 (lf : Nat)] #[.string rs] (w9.setCell ⟨RB, 0, none⟩ (.string rs))) := by
                obtain ⟨c1, c2, c3, c4, c5, c6⟩ := CS9.out.ne
                exact ⟨by rw [heap_off CB RB (fun e => c5 e)]; exact CS9.out.hC, by rw [heap_off SB RB (fun e => c6 e)]; exact CS9.out.hS, heap_set CS9.out.hR (i := 0) (by simp) _, CS9.out.ne, CS9.out.sv.set (.inl (by simp)) _⟩
              go_wp2_with (fail)
              go_end0
              refine .inl ⟨h20, rfl, ?_⟩
              have e1 : #[.string sf, .int .i64 ((tunP l).mode : Nat), .bool ((tunP l).bits % 2 == 1), .bool ((tunP l).bits / 2 % 2 == 1), .int .u32 ((tunP l).value : Nat), .bool ((tunP l).bits / 4 % 2 == 1), .int .i64 ((tunP l).ttl : Nat), .int .i64 ((tunP l).tos : Nat), .int .i64 (mt : Nat)] = cfgC (cfgP l) := by
                have h1 := HSF.out
                have h2 := HMT.out
                simp only [List.drop_drop] at h2
                rw [h1, h2]; rfl
              have e2 : #[.int .i64 (en : Nat), .int .i64 (by' : Nat), .int .i64 (lf : Nat)] = stoC (cfgP l) := by
                have h1 := HEN.out
                have h2 := HBY.out
                have h3 := HLF.out
                simp only [List.drop_drop] at h1 h2 h3
                rw [h1, h2, h3]; rfl
              have e3 : rs = bs (l.drop 20) := by
                have h1 := HRS.out
                simp only [List.drop_drop] at h1
                rw [h1]
              rw [← e1, ← e2, ← e3]
              exact HFIN.out
            · have U : Hid (Calls Try.prog 24 #[.pointer (some ⟨b, 0, none⟩)] w6 fun e w' => e = .panicked (stopped 2) ∧ Rl b s _ w' ∧ But b w6 w') := u8_l_no b s _ w6 hr6 (by simp only [List.length_drop]; omega) hs
              go_wp2_with (fail)
              refine U.out.mono ?_
              rintro e v ⟨rfl, hr, hb⟩
              exact ⟨rfl, .inr ⟨by omega, rfl, (CS6.out.but hb).sv⟩⟩
          · have U : Hid (Calls Try.prog 25 #[.pointer (some ⟨b, 0, none⟩)] w5 fun e w' => e = .panicked (stopped 2) ∧ Rl b s _ w' ∧ But b w5 w') := u32_l_no b s _ w5 hr5 (by simp only [List.length_drop]; omega) hs
            go_wp2_with (fail)
            refine U.out.mono ?_
            rintro e v ⟨rfl, hr, hb⟩
            exact ⟨rfl, .inr ⟨by omega, rfl, (CS5.out.but hb).sv⟩⟩
        · have U : Hid (Calls Try.prog 24 #[.pointer (some ⟨b, 0, none⟩)] W4 fun e w' => e = .panicked (stopped 2) ∧ Rl b s _ w' ∧ But b W4 w') := u8_l_no b s _ W4 HR4.out (by simp only [List.length_drop]; omega) hs
          go_wp2_with (fail)
          refine U.out.mono ?_
          rintro e v ⟨rfl, hr, hb⟩
          exact ⟨rfl, .inr ⟨by omega, rfl, (CS4.out.but hb).sv⟩⟩
      · have U : Hid (Calls Try.prog 23 #[.pointer (some ⟨b, 0, none⟩)] w2 fun e w' => e = .panicked (stopped 2) ∧ Rl b s _ w' ∧ But b w2 w') := u16_l_no b s _ w2 hr2 (by simp only [List.length_drop]; omega) hs
        go_wp2_with (fail)
        refine U.out.mono ?_
        rintro e v ⟨rfl, hr, hb⟩
        exact ⟨rfl, .inr ⟨by omega, rfl, (CS2.out.but hb).sv⟩⟩
    · unfold tunV
      have U : Hid (Calls Try.prog 22 #[.pointer (some ⟨b, 0, none⟩), .int .i64 4] w1 fun e w' => e = .panicked (stopped 2) ∧ Rl b s _ w' ∧ But b w1 w') := take_l_no b 4 s _ w1 hr1 (by simp only [List.length_drop]; omega) hs
      go_wp2_with (fail)
      refine U.out.mono ?_
      rintro e v ⟨rfl, hr, hb⟩
      exact ⟨rfl, .inr ⟨by omega, rfl, (CS1.out.but hb).sv⟩⟩
  · exact ⟨rfl, .inr ⟨by omega, rfl, hb1.save (by simp)⟩⟩
end Go.Proofs.Ytmijfhfjhbckdaa
