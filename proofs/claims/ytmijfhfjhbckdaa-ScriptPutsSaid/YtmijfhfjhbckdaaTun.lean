import Derived.Test.YtmijfhfjhbckdaaSav
/- getTunnel. -/
namespace Go.Proofs.Ytmijfhfjhbckdaa
set_option maxRecDepth 100000
open Go.RowKit
def zT : Array Value := #[.int .i64 0, .bool false, .bool false, .int .u32 0, .bool false, .int .i64 0, .int .i64 0]
/-- a tunnel's value -/
def tunV (t : TunP) : Value := .agg #[.int .i64 (t.mode : Nat), .bool (t.bits % 2 == 1), .bool (t.bits / 2 % 2 == 1), .int .u32 (t.value : Nat), .bool (t.bits / 4 % 2 == 1), .int .i64 (t.ttl : Nat), .int .i64 (t.tos : Nat)]
structure TSt (b T0 T1 : Nat) (w0 : World) (s : ByteArray) (l : List UInt8) (C : Array Value) (w : World) : Prop where
  rd : Rl b s l w
  h0 : w.heap[T0]? = some (.cells #[.int .i64 0, .bool false, .bool false, .int .u32 0, .bool false, .int .i64 0, .int .i64 0] 25 (0, 0))
  h1 : w.heap[T1]? = some (.cells C 25 (0, 0))
  ne : T0 ≠ b ∧ T1 ≠ b ∧ T0 ≠ T1
  lo : w0.heap.size ≤ T0 ∧ w0.heap.size ≤ T1
  sv : Save [b] w0 w
section
variable {b T0 T1 : Nat} {w0 w w' : World} {s : ByteArray} {l l' : List UInt8} {C : Array Value}
theorem TSt.but (h : TSt b T0 T1 w0 s l C w) (hr : Rl b s l' w') (hb : But b w w') : TSt b T0 T1 w0 s l' C w' :=
  ⟨hr, (hb.block _ (heap_lt h.h0) h.ne.1).trans h.h0, (hb.block _ (heap_lt h.h1) h.ne.2.1).trans h.h1, h.ne, h.lo, h.sv.trans (hb.save (by simp))⟩
theorem TSt.set (h : TSt b T0 T1 w0 s l C w) {i : Nat} (hi : i < C.size) (v : Value) : TSt b T0 T1 w0 s l (C.set i v) (w.setCell ⟨T1, i, none⟩ v) :=
  ⟨h.rd.same (Below.heap_setCell _ _ _ _ (fun e => h.ne.2.1 e.symm)), (Below.heap_setCell _ _ _ _ h.ne.2.2).trans h.h0, heap_set h.h1 hi v, h.ne, h.lo, h.sv.set (.inr h.lo.2) v⟩
end
theorem and_bit (x k : Nat) (hx : x < 256) (hk : k = 1 ∨ k = 2 ∨ k = 4) : (bits .and .i64 (x : Int) (k : Int) != 0) = (x / k % 2 == 1) := by
  have : ∀ x : Nat, x < 256 → (bits .and .i64 (x : Int) 1 != 0) = (x / 1 % 2 == 1) ∧ (bits .and .i64 (x : Int) 2 != 0) = (x / 2 % 2 == 1) ∧ (bits .and .i64 (x : Int) 4 != 0) = (x / 4 % 2 == 1) := by decide +kernel
  obtain ⟨h1, h2, h3⟩ := this x hx
  rcases hk with rfl | rfl | rfl
  · exact h1
  · exact h2
  · exact h3
theorem bv_u8 (l : List UInt8) : bv (l.take 1) < 256 := by
  have h := bv_lt (l.take 1)
  have h2 : 256 ^ (l.take 1).length ≤ 256 ^ 1 := Nat.pow_le_pow_right (by decide) (by rw [List.length_take]; omega)
  omega
theorem set7 {w : World} {g : Nat} {a0 a1 a2 a3 a4 a5 a6 b0 b1 b2 b3 b4 b5 b6 : Value} {t : TypeId} (h : w.heap[g]? = some (.cells #[a0, a1, a2, a3, a4, a5, a6] t (0, 0))) :
    (((((((w.setCell ⟨g, 0, none⟩ b0).setCell ⟨g, 1, none⟩ b1).setCell ⟨g, 2, none⟩ b2).setCell ⟨g, 3, none⟩ b3).setCell ⟨g, 4, none⟩ b4).setCell ⟨g, 5, none⟩ b5).setCell ⟨g, 6, none⟩ b6).heap[g]? = some (.cells #[b0, b1, b2, b3, b4, b5, b6] t (0, 0)) := by
  simp [World.setCell, Array.getElem?_modify, h]
def TunPost (b : Nat) (s : ByteArray) (l : List UInt8) (w : World) (e : Ending) (w' : World) : Prop :=
  (8 ≤ l.length ∧ e = .returned (tunV (tunP l)) ∧ Rl b s (l.drop 8) w' ∧ But b w w') ∨ (l.length < 8 ∧ e = .panicked (stopped 2) ∧ But b w w')
theorem Save.but {b : Nat} {w w' : World} (h : Save [b] w w') : But b w w' := ⟨h.os, h.tape, h.output, h.size, fun k hk hn => h.block k hk (by simpa using hn)⟩
set_option maxHeartbeats 4000000 in
theorem gtun_any (b : Nat) (s : ByteArray) (l : List UInt8) (w : World) (h : Rl b s l w) (hs : s.size ≤ MX) : Calls Try.prog 21 #[.pointer (some ⟨b, 0, none⟩)] w (TunPost b s l w) := by
  obtain ⟨W, hW⟩ : ∃ W, W = w.alloc (.cells #[.int .i64 0, .bool false, .bool false, .int .u32 0, .bool false, .int .i64 0, .int .i64 0] 25) := ⟨_, rfl⟩
  have hal := (Below.refl w.heap.size w).alloc (Nat.le_refl _) (.cells #[.int .i64 0, .bool false, .bool false, .int .u32 0, .bool false, .int .i64 0, .int .i64 0] 25)
  rw [← hW] at hal
  have hRW : Rl b s l W := h.same (hal.block b h.lt)
  have h0 : W.heap[w.heap.size]? = some (.cells #[.int .i64 0, .bool false, .bool false, .int .u32 0, .bool false, .int .i64 0, .int .i64 0] 25 (0, 0)) := by rw [hW]; exact alloc_new _ _
  have hbl := h.lt
  have SV := Lib.hid (Save.of_below (l := [b]) hal)
  have H0 := Lib.hid h0
  have HRW := Lib.hid hRW
  have HBL := Lib.hid hbl
  have HWs : Hid (W.heap.size = w.heap.size + 1) := by show _ = _; rw [hW]; simp
  clear hal h0 hRW h hbl
  go_enter Try.func21, Try.ntmps21
  go_upto_region 1 with (fail)
  rw [← hW]
  clear hW
  by_cases n1 : 1 ≤ l.length
  · have U1 : Hid (Calls Try.prog 24 #[.pointer (some ⟨b, 0, none⟩)] W fun e w' => e = .returned (.int .i64 (bv (l.take 1) : Nat)) ∧ Rl b s (l.drop 1) w' ∧ But b W w') := u8_l b s l W HRW.out n1 hs
    obtain ⟨m, hm⟩ : ∃ m, m = bv (l.take 1) := ⟨_, rfl⟩
    have HM := Lib.hid hm
    have U1 : Hid (Calls Try.prog 24 #[.pointer (some ⟨b, 0, none⟩)] W fun e w' => e = .returned (.int .i64 (m : Nat)) ∧ Rl b s (l.drop 1) w' ∧ But b W w') := by show Calls _ _ _ _ _; rw [hm]; exact U1.out
    clear hm
    go_wp2_with (fail)
    refine U1.out.mono ?_
    clear U1
    rintro e w1 ⟨rfl, hr1, hb1⟩
    obtain ⟨T1, hT1⟩ : ∃ T, T = w1.heap.size := ⟨_, rfl⟩
    obtain ⟨W2, hW2⟩ : ∃ V, V = w1.alloc (.cells #[.int .i64 (m : Nat), .bool false, .bool false, .int .u32 0, .bool false, .int .i64 0, .int .i64 0] 25) := ⟨_, rfl⟩
    have hal2 := (Below.refl w1.heap.size w1).alloc (Nat.le_refl _) (.cells #[.int .i64 (m : Nat), .bool false, .bool false, .int .u32 0, .bool false, .int .i64 0, .int .i64 0] 25)
    rw [← hW2] at hal2
    have TS2 : Hid (TSt b w.heap.size T1 w s (l.drop 1) #[.int .i64 (m : Nat), .bool false, .bool false, .int .u32 0, .bool false, .int .i64 0, .int .i64 0] W2) := by
      have q1 := HBL.out
      have q2 := hb1.size
      have q3 := HWs.out
      have q4 : w.heap.size ≠ b := by omega
      refine ⟨hr1.same (hal2.block b hr1.lt), (hal2.block _ (by omega)).trans ((hb1.block _ (heap_lt H0.out) q4).trans H0.out), by rw [hW2, hT1]; exact alloc_new _ _, ?_, ?_, SV.out.trans ((hb1.save (by simp)).trans (Save.of_below hal2))⟩
      · rw [hT1]; omega
      · rw [hT1]; omega
    go_upto_region 2 with (fail)
    rw [← hW2, ← hT1]
    clear hW2 hT1 hal2 hr1 hb1
    by_cases n2 : 2 ≤ l.length
    · obtain ⟨x, hx⟩ : ∃ m, m = bv ((l.drop 1).take 1) := ⟨_, rfl⟩
      have U2 : Hid (Calls Try.prog 24 #[.pointer (some ⟨b, 0, none⟩)] W2 fun e w' => e = .returned (.int .i64 (x : Nat)) ∧ Rl b s ((l.drop 1).drop 1) w' ∧ But b W2 w') := by show Calls _ _ _ _ _; rw [hx]; exact u8_l b s _ W2 TS2.out.rd (by simp only [List.length_drop]; omega) hs
      have HX := Lib.hid hx
      have hx9 := bv_u8 (l.drop 1)
      rw [← hx] at hx9
      clear hx
      go_wp2_with (fail)
      refine U2.out.mono ?_
      clear U2
      rintro e w3 ⟨rfl, hr3, hb3⟩
      have TS3 := Lib.hid (TS2.out.but hr3 hb3)
      have a1 : (bits .and .i64 (x : Int) 1 != 0) = (x / 1 % 2 == 1) := and_bit x 1 hx9 (by simp)
      have a2 : (bits .and .i64 (x : Int) 2 != 0) = (x / 2 % 2 == 1) := and_bit x 2 hx9 (by simp)
      have a4 : (bits .and .i64 (x : Int) 4 != 0) = (x / 4 % 2 == 1) := and_bit x 4 hx9 (by simp)
      obtain ⟨B1, hB1⟩ : ∃ B, B = (x / 1 % 2 == 1) := ⟨_, rfl⟩
      obtain ⟨B2, hB2⟩ : ∃ B, B = (x / 2 % 2 == 1) := ⟨_, rfl⟩
      obtain ⟨B4, hB4⟩ : ∃ B, B = (x / 4 % 2 == 1) := ⟨_, rfl⟩
      rw [← hB1] at a1
      rw [← hB2] at a2
      rw [← hB4] at a4
      have HB1 := Lib.hid hB1
      have HB2 := Lib.hid hB2
      have HB4 := Lib.hid hB4
      have c1 := cellAt (i := 1) (v := .bool false) TS3.out.h1 rfl
      have c2 := cellAt (i := 2) (v := .bool false) TS3.out.h1 rfl
      have c4 := cellAt (i := 4) (v := .bool false) TS3.out.h1 rfl
      have f1 := Lib.frozen_of_heap TS3.out.h1 1
      have f2 := Lib.frozen_of_heap TS3.out.h1 2
      have f4 := Lib.frozen_of_heap TS3.out.h1 4
      have TS4 := Lib.hid (((TS3.out.set (i := 1) (by simp) (.bool B1)).set (i := 2) (by simp) (.bool B2)).set (i := 4) (by simp) (.bool B4))
      obtain ⟨W4, hW4⟩ : ∃ V, V = (((w3.setCell ⟨T1, 1, none⟩ (.bool B1)).setCell ⟨T1, 2, none⟩ (.bool B2)).setCell ⟨T1, 4, none⟩ (.bool B4)) := ⟨_, rfl⟩
      rw [← hW4] at TS4
      clear hB1 hB2 hB4 hr3 hb3 hx9
      go_upto_region 4 with (fail)
      rw [← hW4]
      clear hW4 c1 c2 c4 f1 f2 f4 a1 a2 a4
      have TS4 : Hid (TSt b w.heap.size T1 w s ((l.drop 1).drop 1) #[.int .i64 (m : Nat), .bool B1, .bool B2, .int .u32 0, .bool B4, .int .i64 0, .int .i64 0] W4) := TS4.out
      by_cases n6 : 6 ≤ l.length
      · obtain ⟨va, hva⟩ : ∃ m, m = bv (((l.drop 1).drop 1).take 4) := ⟨_, rfl⟩
        have U4 : Hid (Calls Try.prog 25 #[.pointer (some ⟨b, 0, none⟩)] W4 fun e w' => e = .returned (.int .u32 (va : Nat)) ∧ Rl b s (((l.drop 1).drop 1).drop 4) w' ∧ But b W4 w') := by show Calls _ _ _ _ _; rw [hva]; exact u32_l b s _ W4 TS4.out.rd (by simp only [List.length_drop]; omega) hs
        have HVA := Lib.hid hva
        clear hva
        go_wp2_with (fail)
        refine U4.out.mono ?_
        clear U4
        rintro e w5 ⟨rfl, hr5, hb5⟩
        have TS5 := Lib.hid (TS4.out.but hr5 hb5)
        clear hr5 hb5
        by_cases n7 : 7 ≤ l.length
        · obtain ⟨tt, htt⟩ : ∃ m, m = bv ((((l.drop 1).drop 1).drop 4).take 1) := ⟨_, rfl⟩
          have U5 : Hid (Calls Try.prog 24 #[.pointer (some ⟨b, 0, none⟩)] w5 fun e w' => e = .returned (.int .i64 (tt : Nat)) ∧ Rl b s ((((l.drop 1).drop 1).drop 4).drop 1) w' ∧ But b w5 w') := by show Calls _ _ _ _ _; rw [htt]; exact u8_l b s _ w5 TS5.out.rd (by simp only [List.length_drop]; omega) hs
          have HTT := Lib.hid htt
          clear htt
          go_wp2_with (fail)
          refine U5.out.mono ?_
          clear U5
          rintro e w6 ⟨rfl, hr6, hb6⟩
          have TS6 := Lib.hid (TS5.out.but hr6 hb6)
          clear hr6 hb6
          by_cases n8 : 8 ≤ l.length
          · obtain ⟨tz, hto⟩ : ∃ m, m = bv (((((l.drop 1).drop 1).drop 4).drop 1).take 1) := ⟨_, rfl⟩
            have U6 : Hid (Calls Try.prog 24 #[.pointer (some ⟨b, 0, none⟩)] w6 fun e w' => e = .returned (.int .i64 (tz : Nat)) ∧ Rl b s (((((l.drop 1).drop 1).drop 4).drop 1).drop 1) w' ∧ But b w6 w') := by show Calls _ _ _ _ _; rw [hto]; exact u8_l b s _ w6 TS6.out.rd (by simp only [List.length_drop]; omega) hs
            have HTO := Lib.hid hto
            clear hto
            go_wp2_with (fail)
            refine U6.out.mono ?_
            clear U6
            rintro e w7 ⟨rfl, hr7, hb7⟩
            have TS7 := Lib.hid (TS6.out.but hr7 hb7)
            clear hr7 hb7
            have c0 := cellAt (i := 0) (v := .int .i64 (m : Nat)) TS7.out.h1 rfl
            have c1 := cellAt (i := 1) (v := .bool B1) TS7.out.h1 rfl
            have c2 := cellAt (i := 2) (v := .bool B2) TS7.out.h1 rfl
            have c3 := cellAt (i := 3) (v := .int .u32 0) TS7.out.h1 rfl
            have c4 := cellAt (i := 4) (v := .bool B4) TS7.out.h1 rfl
            have c5 := cellAt (i := 5) (v := .int .i64 0) TS7.out.h1 rfl
            have c6 := cellAt (i := 6) (v := .int .i64 0) TS7.out.h1 rfl
            have f3 := Lib.frozen_of_heap TS7.out.h1 3
            have f5 := Lib.frozen_of_heap TS7.out.h1 5
            have f6 := Lib.frozen_of_heap TS7.out.h1 6
            have TS8 := Lib.hid (((TS7.out.set (i := 3) (by simp) (.int .u32 (va : Nat))).set (i := 5) (by simp) (.int .i64 (tt : Nat))).set (i := 6) (by simp) (.int .i64 (tz : Nat)))
            obtain ⟨W8, hW8⟩ : ∃ V, V = (((w7.setCell ⟨T1, 3, none⟩ (.int .u32 (va : Nat))).setCell ⟨T1, 5, none⟩ (.int .i64 (tt : Nat))).setCell ⟨T1, 6, none⟩ (.int .i64 (tz : Nat))) := ⟨_, rfl⟩
            rw [← hW8] at TS8
            go_upto_region 5 with (fail)
            rw [← hW8]
            clear hW8 c0 c1 c2 c3 c4 c5 c6 f3 f5 f6
            have TS8 : Hid (TSt b w.heap.size T1 w s (((((l.drop 1).drop 1).drop 4).drop 1).drop 1) #[.int .i64 (m : Nat), .bool B1, .bool B2, .int .u32 (va : Nat), .bool B4, .int .i64 (tt : Nat), .int .i64 (tz : Nat)] W8) := TS8.out
            have c0 := cellAt (i := 0) (v := .int .i64 (m : Nat)) TS8.out.h1 rfl
            have c1 := cellAt (i := 1) (v := .bool B1) TS8.out.h1 rfl
            have c2 := cellAt (i := 2) (v := .bool B2) TS8.out.h1 rfl
            have c3 := cellAt (i := 3) (v := .int .u32 (va : Nat)) TS8.out.h1 rfl
            have c4 := cellAt (i := 4) (v := .bool B4) TS8.out.h1 rfl
            have c5 := cellAt (i := 5) (v := .int .i64 (tt : Nat)) TS8.out.h1 rfl
            have c6 := cellAt (i := 6) (v := .int .i64 (tz : Nat)) TS8.out.h1 rfl
            have d0 := cellAt (i := 0) (v := .int .i64 0) TS8.out.h0 rfl
            have d1 := cellAt (i := 1) (v := .bool false) TS8.out.h0 rfl
            have d2 := cellAt (i := 2) (v := .bool false) TS8.out.h0 rfl
            have d3 := cellAt (i := 3) (v := .int .u32 0) TS8.out.h0 rfl
            have d4 := cellAt (i := 4) (v := .bool false) TS8.out.h0 rfl
            have d5 := cellAt (i := 5) (v := .int .i64 0) TS8.out.h0 rfl
            have d6 := cellAt (i := 6) (v := .int .i64 0) TS8.out.h0 rfl
            have f0 := Lib.frozen_of_heap TS8.out.h0 0
            have f1 := Lib.frozen_of_heap TS8.out.h0 1
            have f2 := Lib.frozen_of_heap TS8.out.h0 2
            have f3 := Lib.frozen_of_heap TS8.out.h0 3
            have f4 := Lib.frozen_of_heap TS8.out.h0 4
            have f5 := Lib.frozen_of_heap TS8.out.h0 5
            have f6 := Lib.frozen_of_heap TS8.out.h0 6
            go_wp2_with (fail)
            refine bodyPost_ret (v := .agg #[.int .i64 (m : Nat), .bool B1, .bool B2, .int .u32 (va : Nat), .bool B4, .int .i64 (tt : Nat), .int .i64 (tz : Nat)]) (results_cell_row Try.results21 _ _ w.heap.size 25 _ (0, 0) _ rfl (set7 TS8.out.h0) Try.underlying25 rfl (by kernel_rfl)) rfl (.inl ⟨by omega, ?_, ?_, ?_⟩)
            · have e1 : (x % 2 == 1) = B1 := by rw [HB1.out, Nat.div_one]
              show _ = Ending.returned (tunV (tunP l))
              unfold tunV tunP
              simp only [List.drop_drop] at HX HVA HTT HTO
              rw [← HX.out, ← HM.out, e1, ← HB2.out, ← HB4.out, ← HVA.out, ← HTT.out, ← HTO.out]
            · have h := TS8.out.rd
              simp only [List.drop_drop] at h
              refine h.same ?_
              have q := TS8.out.ne.1
              rw [Below.heap_setCell _ _ _ _ (fun e => q e.symm), Below.heap_setCell _ _ _ _ (fun e => q e.symm), Below.heap_setCell _ _ _ _ (fun e => q e.symm), Below.heap_setCell _ _ _ _ (fun e => q e.symm), Below.heap_setCell _ _ _ _ (fun e => q e.symm), Below.heap_setCell _ _ _ _ (fun e => q e.symm), Below.heap_setCell _ _ _ _ (fun e => q e.symm)]
            · exact (((((((TS8.out.sv.set (p := ⟨w.heap.size, 0, none⟩) (.inr (Nat.le_refl _)) _).set (p := ⟨w.heap.size, 1, none⟩) (.inr (Nat.le_refl _)) _).set (p := ⟨w.heap.size, 2, none⟩) (.inr (Nat.le_refl _)) _).set (p := ⟨w.heap.size, 3, none⟩) (.inr (Nat.le_refl _)) _).set (p := ⟨w.heap.size, 4, none⟩) (.inr (Nat.le_refl _)) _).set (p := ⟨w.heap.size, 5, none⟩) (.inr (Nat.le_refl _)) _).set (p := ⟨w.heap.size, 6, none⟩) (.inr (Nat.le_refl _)) _).but
          · have U : Hid (Calls Try.prog 24 #[.pointer (some ⟨b, 0, none⟩)] w6 fun e w' => e = .panicked (stopped 2) ∧ Rl b s ((((l.drop 1).drop 1).drop 4).drop 1) w' ∧ But b w6 w') := u8_l_no b s _ w6 TS6.out.rd (by simp only [List.length_drop]; omega) hs
            go_wp2_with (fail)
            refine U.out.mono ?_
            rintro e v ⟨rfl, hr, hb⟩
            exact ⟨rfl, .inr ⟨by omega, rfl, (TS6.out.sv.trans (hb.save (by simp))).but⟩⟩
        · have U : Hid (Calls Try.prog 24 #[.pointer (some ⟨b, 0, none⟩)] w5 fun e w' => e = .panicked (stopped 2) ∧ Rl b s (((l.drop 1).drop 1).drop 4) w' ∧ But b w5 w') := u8_l_no b s _ w5 TS5.out.rd (by simp only [List.length_drop]; omega) hs
          go_wp2_with (fail)
          refine U.out.mono ?_
          rintro e v ⟨rfl, hr, hb⟩
          exact ⟨rfl, .inr ⟨by omega, rfl, (TS5.out.sv.trans (hb.save (by simp))).but⟩⟩
      · have U : Hid (Calls Try.prog 25 #[.pointer (some ⟨b, 0, none⟩)] W4 fun e w' => e = .panicked (stopped 2) ∧ Rl b s ((l.drop 1).drop 1) w' ∧ But b W4 w') := u32_l_no b s _ W4 TS4.out.rd (by simp only [List.length_drop]; omega) hs
        go_wp2_with (fail)
        refine U.out.mono ?_
        rintro e v ⟨rfl, hr, hb⟩
        exact ⟨rfl, .inr ⟨by omega, rfl, (TS4.out.sv.trans (hb.save (by simp))).but⟩⟩
    · have U : Hid (Calls Try.prog 24 #[.pointer (some ⟨b, 0, none⟩)] W2 fun e w' => e = .panicked (stopped 2) ∧ Rl b s (l.drop 1) w' ∧ But b W2 w') := u8_l_no b s _ W2 TS2.out.rd (by simp only [List.length_drop]; omega) hs
      go_wp2_with (fail)
      refine U.out.mono ?_
      rintro e v ⟨rfl, hr, hb⟩
      exact ⟨rfl, .inr ⟨by omega, rfl, (TS2.out.sv.trans (hb.save (by simp))).but⟩⟩
  · have U1 : Hid (Calls Try.prog 24 #[.pointer (some ⟨b, 0, none⟩)] W fun e w' => e = .panicked (stopped 2) ∧ Rl b s l w' ∧ But b W w') := u8_l_no b s l W HRW.out (by omega) hs
    go_wp2_with (fail)
    refine U1.out.mono ?_
    rintro e w1 ⟨rfl, hr, hb⟩
    exact ⟨rfl, .inr ⟨by omega, rfl, (SV.out.trans (hb.save (by simp))).but⟩⟩
end Go.Proofs.Ytmijfhfjhbckdaa
