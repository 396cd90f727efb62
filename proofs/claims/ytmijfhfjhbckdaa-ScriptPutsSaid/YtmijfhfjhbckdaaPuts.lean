import Derived.Test.YtmijfhfjhbckdaaRByt
/- ScriptPuts, walked. -/
namespace Go.Proofs.Ytmijfhfjhbckdaa
set_option maxRecDepth 100000
open Go.RowKit
set_option maxHeartbeats 16000000 in
theorem puts_walk (w : World) (q : ActL) (hq : q.came) (y0 : ByteArray) (y1 : Int) (y2 y3 : Bool) (y4 : Nat) (y5 : Bool) (y6 y7 y8 : Int) (z0 z1 z2 : Int) (l : List RepL) (a : Option Addr) (cap : Nat) (hin : RepIn w a l) (h4 : y4 < 4294967296) (i1 : inI y1) (i6 : inI y6) (i7 : inI y7) (j0 : inI z0) (j2 : inI z2) :
    Calls Try.prog 5 #[.agg q.C, .agg #[.string y0, .int .i64 y1, .bool y2, .bool y3, .int .u32 (y4 : Nat), .bool y5, .int .i64 y6, .int .i64 y7, .int .i64 y8], .agg #[.int .i64 z0, .int .i64 z1, .int .i64 z2], .slice a l.length cap] w fun e w' => e = .returned (.bool true) ∧ Below w.heap.size w w' := by
  have AW := Lib.hid awake_any
  have FW0 := Lib.hid (fun V => few_any q V)
  have PU0 := Lib.hid (fun (h : q.ok) V => put_any q h V)
  have RU0 := Lib.hid (fun (h : q.ok) V => rput_any q h V)
  have PF0 := Lib.hid (fun (h : q.ok) => put_form q h)
  obtain ⟨k, p, id, ad, wt, md, sm, ky, va, df, tl, ts, nn, d⟩ := q
  unfold ActL.C
  unfold ActL.C at FW0 PU0 RU0
  simp only at FW0 PU0 RU0 ⊢
  obtain ⟨W0, hW0⟩ : ∃ V, V = w.alloc (.cells #[.int .i64 k, .string p, .int .i64 id, .string ad, .float .f64 wt, .int .i64 md, .bool sm, .bool ky, .int .u32 (va : Nat), .bool df, .int .i64 tl, .int .i64 ts, .int .i64 nn, .int .i64 d] 47) := ⟨_, rfl⟩
  obtain ⟨P, hP⟩ : ∃ A, A = w.heap.size := ⟨_, rfl⟩
  obtain ⟨A, hA⟩ : ∃ A, A = W0.heap.size := ⟨_, rfl⟩
  obtain ⟨B, hB⟩ : ∃ B, B = W0.heap.size + 1 := ⟨_, rfl⟩
  obtain ⟨W, hW⟩ : ∃ V, V = (W0.alloc (.cells #[.string y0, .int .i64 y1, .bool y2, .bool y3, .int .u32 (y4 : Nat), .bool y5, .int .i64 y6, .int .i64 y7, .int .i64 y8] 27)).alloc (.cells #[.int .i64 z0, .int .i64 z1, .int .i64 z2] 29) := ⟨_, rfl⟩
  have X0 := XS.lay w #[.int .i64 k, .string p, .int .i64 id, .string ad, .float .f64 wt, .int .i64 md, .bool sm, .bool ky, .int .u32 (va : Nat), .bool df, .int .i64 tl, .int .i64 ts, .int .i64 nn, .int .i64 d] 47
  rw [← hP, ← hW0] at X0
  have T0 := Two.lay (C := #[.string y0, .int .i64 y1, .bool y2, .bool y3, .int .u32 (y4 : Nat), .bool y5, .int .i64 y6, .int .i64 y7, .int .i64 y8]) (S := #[.int .i64 z0, .int .i64 z1, .int .i64 z2]) X0.bl
  have X1 : XS P #[.int .i64 k, .string p, .int .i64 id, .string ad, .float .f64 wt, .int .i64 md, .bool sm, .bool ky, .int .u32 (va : Nat), .bool df, .int .i64 tl, .int .i64 ts, .int .i64 nn, .int .i64 d] 47 w W := by rw [hW]; exact X0.below (((Below.refl _ _).alloc (Nat.le_refl _) _).alloc (by simp) _)
  rw [← hB, ← hA, ← hW] at T0
  have HV : Hid (∀ V, Below W.heap.size W V → XS P #[.int .i64 k, .string p, .int .i64 id, .string ad, .float .f64 wt, .int .i64 md, .bool sm, .bool ky, .int .u32 (va : Nat), .bool df, .int .i64 tl, .int .i64 ts, .int .i64 nn, .int .i64 d] 47 w V ∧ Two A B #[.string y0, .int .i64 y1, .bool y2, .bool y3, .int .u32 (y4 : Nat), .bool y5, .int .i64 y6, .int .i64 y7, .int .i64 y8] #[.int .i64 z0, .int .i64 z1, .int .i64 z2] w V ∧ RepIn V a l) := fun V hV => by
    have h := T0.below hV
    exact ⟨X1.below hV, h, hin.below h.bl⟩
  obtain ⟨n, hn⟩ : ∃ n, n = l.length := ⟨_, rfl⟩
  rw [← hn]
  have HN := Lib.hid hn
  have HY : Hid (y4 < 4294967296 ∧ inI y1 ∧ inI y6 ∧ inI y7 ∧ inI z0 ∧ inI z2) := ⟨h4, i1, i6, i7, j0, j2⟩
  have HQ := Lib.hid hq
  obtain ⟨F, hF⟩ : ∃ F, F = (decide (p.size ≤ 70000) && decide (ad.size ≤ 300)) := ⟨_, rfl⟩
  have FW : Hid (∀ V, Calls Try.prog 12 #[.agg #[.int .i64 k, .string p, .int .i64 id, .string ad, .float .f64 wt, .int .i64 md, .bool sm, .bool ky, .int .u32 (va : Nat), .bool df, .int .i64 tl, .int .i64 ts, .int .i64 nn, .int .i64 d]] V fun e w' => e = .returned (.bool F) ∧ Below V.heap.size V w') := fun V => by rw [hF]; exact FW0.out V
  have HF := Lib.hid hF
  have hw0 : W0.heap.size = w.heap.size + 1 := by rw [hW0]; simp
  have hA2 : A = w.heap.size + 1 := by rw [hA, hw0]
  have hB2 : B = w.heap.size + 1 + 1 := by rw [hB, hw0]
  clear hin h4 i1 i6 i7 j0 j2 hn hq hF FW0 T0 X0 X1
  go_enter Try.func5, Try.ntmps5
  go_upto_region 1 with (fail)
  rw [← hW0, ← hW, ← hB2, ← hA2, ← hP]
  clear hW0 hP hA hB hW hw0 hA2 hB2
  go_wp2_with (fail)
  (with_reducible refine (AW.out _).mono ?_)
  rintro e w1 ⟨rfl, hb1⟩
  have BL1 := Lib.hid hb1
  have X1 := (HV.out _ hb1).1
  have q0 := cellAt (i := 0) (v := .int .i64 k) X1.hX rfl
  have q1 := cellAt (i := 1) (v := .string p) X1.hX rfl
  have q2 := cellAt (i := 2) (v := .int .i64 id) X1.hX rfl
  have q3 := cellAt (i := 3) (v := .string ad) X1.hX rfl
  have q4 := cellAt (i := 4) (v := .float .f64 wt) X1.hX rfl
  have q5 := cellAt (i := 5) (v := .int .i64 md) X1.hX rfl
  have q6 := cellAt (i := 6) (v := .bool sm) X1.hX rfl
  have q7 := cellAt (i := 7) (v := .bool ky) X1.hX rfl
  have q8 := cellAt (i := 8) (v := .int .u32 (va : Nat)) X1.hX rfl
  have q9 := cellAt (i := 9) (v := .bool df) X1.hX rfl
  have q10 := cellAt (i := 10) (v := .int .i64 tl) X1.hX rfl
  have q11 := cellAt (i := 11) (v := .int .i64 ts) X1.hX rfl
  have q12 := cellAt (i := 12) (v := .int .i64 nn) X1.hX rfl
  have q13 := cellAt (i := 13) (v := .int .i64 d) X1.hX rfl
  clear hb1 X1 AW
  go_wp2_with (fail)
  (with_reducible refine (FW.out _).mono ?_)
  clear FW q0 q1 q2 q3 q4 q5 q6 q7 q8 q9 q10 q11 q12 q13
  rintro e w2 ⟨rfl, hb2⟩
  have BL2 := Lib.hid (BL1.out.trans (hb2.mono BL1.out.size))
  clear hb2 BL1
  have T2 := (HV.out _ BL2.out).2.1
  have a0 := cellAt (i := 0) (v := .string y0) T2.hA rfl
  have BW := Lib.hid T2.bl
  clear T2
  cases F with
  | false =>
    go_wp2_with (fail)
    go_ret
    exact ⟨rfl, BW.out⟩
  | true =>
    by_cases h3 : 300 < y0.size
    · have d3 : decide ((300 : Int) < (y0.size : Int)) = true := decide_eq_true (by omega)
      have d3' : decide (300 < y0.size) = true := decide_eq_true h3
      go_wp2_with (fail)
      go_ret
      exact ⟨rfl, BW.out⟩
    · have d3 : decide ((300 : Int) < (y0.size : Int)) = false := decide_eq_false (by omega)
      have d3' : decide (300 < y0.size) = false := decide_eq_false h3
      by_cases h40 : 40 < n
      · have d4 : decide ((40 : Int) < (n : Int)) = true := decide_eq_true (by omega)
        have d4' : decide (40 < n) = true := decide_eq_true h40
        go_wp2_with (fail)
        go_ret
        exact ⟨rfl, BW.out⟩
      · have d4 : decide ((40 : Int) < (n : Int)) = false := decide_eq_false (by omega)
        have d4' : decide (40 < n) = false := decide_eq_false h40
        have fw : p.size ≤ 70000 ∧ ad.size ≤ 300 := by
          have h := HF.out.symm
          simp only [Bool.and_eq_true, decide_eq_true_eq] at h
          exact h
        have aok : ActL.ok ⟨k, p, id, ad, wt, md, sm, ky, va, df, tl, ts, nn, d⟩ := ⟨HQ.out.wt, HQ.out.va, HQ.out.md, HQ.out.tl, HQ.out.ts, by show p.size ≤ 1000000; omega, by show ad.size ≤ 1000000; omega⟩
        obtain ⟨T, c, hpf, _⟩ := PF0.out aok
        have PU : Hid (∀ V, Calls Try.prog 13 #[.agg #[.int .i64 k, .string p, .int .i64 id, .string ad, .float .f64 wt, .int .i64 md, .bool sm, .bool ky, .int .u32 (va : Nat), .bool df, .int .i64 tl, .int .i64 ts, .int .i64 nn, .int .i64 d]] V fun e w' => e = .returned (.tuple #[.string T, .int .i64 c]) ∧ Below V.heap.size V w') := fun V => by rw [← hpf]; exact PU0.out aok V
        have RU : Hid (∀ V, Calls Try.prog 15 #[.agg #[.int .i64 k, .string p, .int .i64 id, .string ad, .float .f64 wt, .int .i64 md, .bool sm, .bool ky, .int .u32 (va : Nat), .bool df, .int .i64 tl, .int .i64 ts, .int .i64 nn, .int .i64 d]] V fun e w' => e = .returned (.tuple #[.string T, .int .i64 c]) ∧ Below V.heap.size V w') := fun V => by rw [← hpf]; exact RU0.out aok V
        obtain ⟨U, g, hcf⟩ : ∃ (U : ByteArray) (g : Int), cfgR (cfgOk y0 y1 y2 y3 y4 y5 y6 y7 y8 z0 z1 z2) (cfgB y0 y1 y2 y3 y4 y5 y6 y7 y8 z0 z1 z2) = .tuple #[.string U, .int .i64 g] := by
          unfold cfgR
          split
          · exact ⟨_, _, rfl⟩
          · exact ⟨_, _, rfl⟩
        have PC : Hid (∀ V, Calls Try.prog 14 #[.agg #[.string y0, .int .i64 y1, .bool y2, .bool y3, .int .u32 (y4 : Nat), .bool y5, .int .i64 y6, .int .i64 y7, .int .i64 y8], .agg #[.int .i64 z0, .int .i64 z1, .int .i64 z2]] V fun e w' => e = .returned (.tuple #[.string U, .int .i64 g]) ∧ Below V.heap.size V w') := fun V => by rw [← hcf]; exact putcfg_any y0 y1 y2 y3 y4 y5 y6 y7 y8 z0 z1 z2 V (by omega) HY.out.1 HY.out.2.1 HY.out.2.2.1 HY.out.2.2.2.1 HY.out.2.2.2.2.1 HY.out.2.2.2.2.2
        have RC : Hid (∀ V, Calls Try.prog 16 #[.agg #[.string y0, .int .i64 y1, .bool y2, .bool y3, .int .u32 (y4 : Nat), .bool y5, .int .i64 y6, .int .i64 y7, .int .i64 y8], .agg #[.int .i64 z0, .int .i64 z1, .int .i64 z2]] V fun e w' => e = .returned (.tuple #[.string U, .int .i64 g]) ∧ Below V.heap.size V w') := fun V => by rw [← hcf]; exact rputcfg_any y0 y1 y2 y3 y4 y5 y6 y7 y8 z0 z1 z2 V (by omega) HY.out.1
        have RI : Hid (RepIn w2 a l) := (HV.out _ BL2.out).2.2
        clear fw aok hpf hcf PU0 RU0 PF0 h3 HY HF HQ
        go_wp2_with (fail)
        clear a0
        go_loop [9] (fun t => ∃ j : Nat, j ≤ n ∧ t = .int .i64 j ∧ Hid (∀ r ∈ l.take j, r.few)) (fun t => n - (intOf t).toNat)
        case atStart => exact ⟨0, by omega, rfl, by show ∀ r ∈ l.take 0, r.few; intro r hr; simp at hr⟩
        case round =>
          obtain ⟨j, hj, rfl, hfew⟩ := hrel
          by_cases hlt : j < n
          · have hlt' : (j : Int) < (n : Int) := by omega
            have hjl : j < l.length := by rw [← HN.out]; exact hlt
            obtain ⟨x, hx, at0⟩ := RI.out j hjl
            obtain ⟨y, hy⟩ : ∃ y, y = x.add (j * 4) := ⟨_, rfl⟩
            rw [← hy] at at0
            have hy' := hy.symm
            obtain ⟨r, hr⟩ : ∃ r, r = l[j] := ⟨_, rfl⟩
            rw [← hr] at at0
            have htk : l.take (j + 1) = l.take j ++ [r] := by rw [List.take_succ_eq_append_getElem hjl, hr]
            obtain ⟨e, rn, cs, ca, cc, os, oa, oc⟩ := r
            obtain ⟨mc, hmc⟩ : ∃ m, m = cs.length := ⟨_, rfl⟩
            obtain ⟨mo, hmo⟩ : ∃ m, m = os.length := ⟨_, rfl⟩
            have c2 := at0.c2
            have c3 := at0.c3
            have oi := at0.oi
            simp only at c2 c3 oi
            rw [← hmc] at c2
            rw [← hmo] at c3
            rw [hx]
            have HFEW := Lib.hid hfew.out
            have HTK := Lib.hid htk
            have HMC := Lib.hid hmc
            have HMO := Lib.hid hmo
            have OI := Lib.hid oi
            clear hfew htk hmc hmo at0 hr hy hx hjl oi
            by_cases h6 : 600 < mc
            · have d6 : decide ((600 : Int) < (mc : Int)) = true := decide_eq_true (by omega)
              have d6' : decide (600 < mc) = true := decide_eq_true h6
              go_wp2_with (fail)
              go_ret
              exact ⟨rfl, BW.out⟩
            · have d6 : decide ((600 : Int) < (mc : Int)) = false := decide_eq_false (by omega)
              have d6' : decide (600 < mc) = false := decide_eq_false h6
              by_cases h7 : 60 < mo
              · have d7 : decide ((60 : Int) < (mo : Int)) = true := decide_eq_true (by omega)
                have d7' : decide (60 < mo) = true := decide_eq_true h7
                go_wp2_with (fail)
                go_ret
                exact ⟨rfl, BW.out⟩
              · have d7 : decide ((60 : Int) < (mo : Int)) = false := decide_eq_false (by omega)
                have d7' : decide (60 < mo) = false := decide_eq_false h7
                go_wp2_with (fail)
                go_loop [10] (fun t => ∃ i : Nat, i ≤ mo ∧ t = .int .i64 i ∧ Hid (∀ x ∈ os.take i, x.size ≤ 70000)) (fun t => mo - (intOf t).toNat)
                case atStart => exact ⟨0, by omega, rfl, by show ∀ x ∈ os.take 0, x.size ≤ 70000; intro r hr; simp at hr⟩
                case round =>
                  obtain ⟨i, hi, rfl, hsm⟩ := hrel
                  by_cases hli : i < mo
                  · have hli' : (i : Int) < (mo : Int) := by omega
                    have hil : i < os.length := by rw [← HMO.out]; exact hli
                    obtain ⟨z, hz, cz⟩ := OI.out i hil
                    obtain ⟨s, hs⟩ : ∃ c, c = os[i] := ⟨_, rfl⟩
                    rw [← hs] at cz
                    have htk2 : os.take (i + 1) = os.take i ++ [s] := by rw [List.take_succ_eq_append_getElem hil, hs]
                    have HSM := Lib.hid hsm.out
                    have HTK2 := Lib.hid htk2
                    subst hz
                    clear hsm htk2 hs hil
                    by_cases h8 : 70000 < s.size
                    · have d8 : decide ((70000 : Int) < (s.size : Int)) = true := decide_eq_true (by omega)
                      have d8' : decide (70000 < s.size) = true := decide_eq_true h8
                      go_wp2_with (fail)
                      go_ret
                      exact ⟨rfl, BW.out⟩
                    · have d8 : decide ((70000 : Int) < (s.size : Int)) = false := decide_eq_false (by omega)
                      have d8' : decide (70000 < s.size) = false := decide_eq_false h8
                      go_wp2_with (fail)
                      refine ⟨⟨i + 1, by omega, by go_num, ?_⟩, by simp [intOf] <;> omega⟩
                      show ∀ x ∈ os.take (i + 1), x.size ≤ 70000
                      rw [HTK2.out]
                      intro x hx
                      rcases List.mem_append.1 hx with h | h
                      · exact HSM.out x h
                      · simp at h; subst h; omega
                  · have hie : mo = i := by omega
                    subst hie
                    have HALL : Hid (∀ x ∈ os, x.size ≤ 70000) := by
                      have h := hsm.out
                      rw [HMO.out, List.take_length] at h
                      exact h
                    clear hsm hli
                    go_wp2_with (fail)
                    refine ⟨⟨j + 1, by omega, by go_num, ?_⟩, by simp [intOf] <;> omega⟩
                    show ∀ r ∈ l.take (j + 1), r.few
                    rw [HTK.out]
                    intro r hr
                    rcases List.mem_append.1 hr with h | h
                    · exact HFEW.out r h
                    · simp at h
                      subst h
                      exact ⟨by show cs.length ≤ 600; rw [← HMC.out]; omega, by show os.length ≤ 60; rw [← HMO.out]; omega, HALL.out⟩
          · obtain rfl : j = n := by omega
            have hall : ∀ r ∈ l, r.few := by
              have h := hfew.out
              rw [HN.out, List.take_length] at h
              exact h
            have hl40 : l.length ≤ 40 := by have := HN.out; omega
            obtain ⟨Z, hZ⟩ : ∃ Z, Z = bs (repsB l) := ⟨_, rfl⟩
            have BY : Hid (∀ V, Below W.heap.size W V → Calls Try.prog 17 #[.slice a j cap] V fun e w' => e = .returned (.string Z) ∧ Below V.heap.size V w') := fun V hV => by
              rw [hZ, HN.out]
              exact bytes_any l a cap V (HV.out V hV).2.2 hall hl40
            have RY : Hid (∀ V, Below W.heap.size W V → Calls Try.prog 18 #[.slice a j cap] V fun e w' => e = .returned (.string Z) ∧ Below V.heap.size V w') := fun V hV => by
              rw [hZ, HN.out]
              exact repbytes_any l a cap V (HV.out V hV).2.2 hall hl40
            have X2 := (HV.out _ BL2.out).1
            have q0 := cellAt (i := 0) (v := .int .i64 k) X2.hX rfl
            have q1 := cellAt (i := 1) (v := .string p) X2.hX rfl
            have q2 := cellAt (i := 2) (v := .int .i64 id) X2.hX rfl
            have q3 := cellAt (i := 3) (v := .string ad) X2.hX rfl
            have q4 := cellAt (i := 4) (v := .float .f64 wt) X2.hX rfl
            have q5 := cellAt (i := 5) (v := .int .i64 md) X2.hX rfl
            have q6 := cellAt (i := 6) (v := .bool sm) X2.hX rfl
            have q7 := cellAt (i := 7) (v := .bool ky) X2.hX rfl
            have q8 := cellAt (i := 8) (v := .int .u32 (va : Nat)) X2.hX rfl
            have q9 := cellAt (i := 9) (v := .bool df) X2.hX rfl
            have q10 := cellAt (i := 10) (v := .int .i64 tl) X2.hX rfl
            have q11 := cellAt (i := 11) (v := .int .i64 ts) X2.hX rfl
            have q12 := cellAt (i := 12) (v := .int .i64 nn) X2.hX rfl
            have q13 := cellAt (i := 13) (v := .int .i64 d) X2.hX rfl
            clear hfew hall hl40 hZ X2 RI
            go_wp2_with (fail)
            (with_reducible refine (PU.out _).mono ?_)
            clear PU q0 q1 q2 q3 q4 q5 q6 q7 q8 q9 q10 q11 q12 q13
            rintro e w3 ⟨rfl, hb3⟩
            have BL3 := Lib.hid (BL2.out.trans (hb3.mono BL2.out.size))
            clear hb3 BL2
            have X3 := (HV.out _ BL3.out).1
            have q0 := cellAt (i := 0) (v := .int .i64 k) X3.hX rfl
            have q1 := cellAt (i := 1) (v := .string p) X3.hX rfl
            have q2 := cellAt (i := 2) (v := .int .i64 id) X3.hX rfl
            have q3 := cellAt (i := 3) (v := .string ad) X3.hX rfl
            have q4 := cellAt (i := 4) (v := .float .f64 wt) X3.hX rfl
            have q5 := cellAt (i := 5) (v := .int .i64 md) X3.hX rfl
            have q6 := cellAt (i := 6) (v := .bool sm) X3.hX rfl
            have q7 := cellAt (i := 7) (v := .bool ky) X3.hX rfl
            have q8 := cellAt (i := 8) (v := .int .u32 (va : Nat)) X3.hX rfl
            have q9 := cellAt (i := 9) (v := .bool df) X3.hX rfl
            have q10 := cellAt (i := 10) (v := .int .i64 tl) X3.hX rfl
            have q11 := cellAt (i := 11) (v := .int .i64 ts) X3.hX rfl
            have q12 := cellAt (i := 12) (v := .int .i64 nn) X3.hX rfl
            have q13 := cellAt (i := 13) (v := .int .i64 d) X3.hX rfl
            clear X3
            go_wp2_with (fail)
            (with_reducible refine (RU.out _).mono ?_)
            clear RU q0 q1 q2 q3 q4 q5 q6 q7 q8 q9 q10 q11 q12 q13
            rintro e w4 ⟨rfl, hb4⟩
            have BL4 := Lib.hid (BL3.out.trans (hb4.mono BL3.out.size))
            clear hb4 BL3
            have T4 := (HV.out _ BL4.out).2.1
            have a0 := cellAt (i := 0) (v := .string y0) T4.hA rfl
            have a1 := cellAt (i := 1) (v := .int .i64 y1) T4.hA rfl
            have a2 := cellAt (i := 2) (v := .bool y2) T4.hA rfl
            have a3 := cellAt (i := 3) (v := .bool y3) T4.hA rfl
            have a4 := cellAt (i := 4) (v := .int .u32 (y4 : Nat)) T4.hA rfl
            have a5 := cellAt (i := 5) (v := .bool y5) T4.hA rfl
            have a6 := cellAt (i := 6) (v := .int .i64 y6) T4.hA rfl
            have a7 := cellAt (i := 7) (v := .int .i64 y7) T4.hA rfl
            have a8 := cellAt (i := 8) (v := .int .i64 y8) T4.hA rfl
            have b0 := cellAt (i := 0) (v := .int .i64 z0) T4.hB rfl
            have b1 := cellAt (i := 1) (v := .int .i64 z1) T4.hB rfl
            have b2 := cellAt (i := 2) (v := .int .i64 z2) T4.hB rfl
            clear T4
            go_wp2_with (fail)
            (with_reducible refine (PC.out _).mono ?_)
            clear PC a0 a1 a2 a3 a4 a5 a6 a7 a8 b0 b1 b2
            rintro e w5 ⟨rfl, hb5⟩
            have BL5 := Lib.hid (BL4.out.trans (hb5.mono BL4.out.size))
            clear hb5 BL4
            have T5 := (HV.out _ BL5.out).2.1
            have a0 := cellAt (i := 0) (v := .string y0) T5.hA rfl
            have a1 := cellAt (i := 1) (v := .int .i64 y1) T5.hA rfl
            have a2 := cellAt (i := 2) (v := .bool y2) T5.hA rfl
            have a3 := cellAt (i := 3) (v := .bool y3) T5.hA rfl
            have a4 := cellAt (i := 4) (v := .int .u32 (y4 : Nat)) T5.hA rfl
            have a5 := cellAt (i := 5) (v := .bool y5) T5.hA rfl
            have a6 := cellAt (i := 6) (v := .int .i64 y6) T5.hA rfl
            have a7 := cellAt (i := 7) (v := .int .i64 y7) T5.hA rfl
            have a8 := cellAt (i := 8) (v := .int .i64 y8) T5.hA rfl
            have b0 := cellAt (i := 0) (v := .int .i64 z0) T5.hB rfl
            have b1 := cellAt (i := 1) (v := .int .i64 z1) T5.hB rfl
            have b2 := cellAt (i := 2) (v := .int .i64 z2) T5.hB rfl
            clear T5
            go_wp2_with (fail)
            (with_reducible refine (RC.out _).mono ?_)
            clear RC a0 a1 a2 a3 a4 a5 a6 a7 a8 b0 b1 b2
            rintro e w6 ⟨rfl, hb6⟩
            have BL6 := Lib.hid (BL5.out.trans (hb6.mono BL5.out.size))
            clear hb6 BL5
            go_wp2_with (fail)
            (with_reducible refine (BY.out _ BL6.out).mono ?_)
            clear BY
            rintro e w7 ⟨rfl, hb7⟩
            have BL7 := Lib.hid (BL6.out.trans (hb7.mono BL6.out.size))
            clear hb7 BL6
            go_wp2_with (fail)
            (with_reducible refine (RY.out _ BL7.out).mono ?_)
            clear RY
            rintro e w8 ⟨rfl, hb8⟩
            have BL8 := Lib.hid ((HV.out _ (BL7.out.trans (hb8.mono BL7.out.size))).1.bl)
            clear hb8 BL7
            go_wp2_with (fail)
            go_ret
            exact ⟨rfl, BL8.out⟩
end Go.Proofs.Ytmijfhfjhbckdaa
