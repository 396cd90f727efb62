import Derived.Test.YtmijfhfjhbckdaaRTun
import Derived.Deep.CutBlock
/- The document's rest. -/
namespace Go.Proofs.Ytmijfhfjhbckdaa
set_option maxRecDepth 100000
open Go.RowKit
/-- an act without what its kind has -/
def ActL.bare (a : ActL) : ActL :=
  if a.k = 0 ∨ a.k = 9 then { a with p := ⟨#[]⟩ }
  else if a.k = 1 then { a with id := 0, ad := ⟨#[]⟩, wt := 0 }
  else if a.k = 4 then { a with md := 0, sm := false, ky := false, va := 0, df := false, tl := 0, ts := 0 }
  else if a.k = 8 then { a with n := 0, d := 0 }
  else if a.k = 10 then a
  else { a with n := 0 }
def tunZ (a : ActL) : Bool := ((a.md == 0) && ((a.sm == false) && ((a.ky == false) && ((((a.va : Nat) : Int) == 0) && ((a.df == false) && ((a.tl == 0) && ((a.ts == 0) && true)))))))
def restB (a : ActL) : Bool := (a.p.toList == (⟨#[]⟩ : ByteArray).toList) && ((a.id == 0) && ((a.ad.toList == (⟨#[]⟩ : ByteArray).toList) && ((a.wt == 0) && (tunZ a && ((a.n == 0) && (a.d == 0))))))
theorem zB_rest (a : ActL) : (zB a.p a.id a.ad a.md a.sm a.ky a.va a.df a.tl a.ts a.n a.d && (a.wt == 0)) = restB a := by
  unfold zB restB tunZ
  rw [Bool.eq_iff_iff]
  simp only [Bool.and_eq_true, feq00, beq_self_eq_true, true_and, and_true]
  constructor
  · rintro ⟨⟨h1, ⟨h2, h3⟩, ⟨h5, h6, h7, h8, h9, h10, h11⟩, h12, h13⟩, h14⟩
    exact ⟨h1, h2, h3, h14, ⟨h5, h6, h7, h8, h9, h10, h11⟩, h12, h13⟩
  · rintro ⟨h1, h2, h3, h14, ⟨h5, h6, h7, h8, h9, h10, h11⟩, h12, h13⟩
    exact ⟨⟨h1, ⟨h2, h3⟩, ⟨h5, h6, h7, h8, h9, h10, h11⟩, h12, h13⟩, h14⟩
theorem rest_eq (a : ActL) : a.rest = restB a.bare := by
  unfold ActL.rest ActL.bare
  by_cases h0 : a.k = 0 ∨ a.k = 9
  · rw [if_pos h0, if_pos h0, ← zB_rest]
  · rw [if_neg h0, if_neg h0]
    by_cases h1 : a.k = 1
    · rw [if_pos h1, if_pos h1, ← zB_rest]
    · rw [if_neg h1, if_neg h1]
      by_cases h4 : a.k = 4
      · rw [if_pos h4, if_pos h4, ← zB_rest]; rfl
      · rw [if_neg h4, if_neg h4]
        by_cases h8 : a.k = 8
        · rw [if_pos h8, if_pos h8, ← zB_rest]
        · rw [if_neg h8, if_neg h8]
          by_cases h10 : a.k = 10
          · rw [if_pos h10, if_pos h10, ← zB_rest]
          · rw [if_neg h10, if_neg h10, ← zB_rest]
set_option maxHeartbeats 8000000 in
theorem rrest_any (a : ActL) (w : World) (hk : 0 ≤ a.k ∧ a.k ≤ 10) : Calls Try.prog 43 #[.agg a.C] w fun e w' => e = .returned (.bool a.rest) ∧ Below w.heap.size w w' := by
  rw [rest_eq]
  obtain ⟨k, p, id, ad, wt, md, sm, ky, va, df, tl, ts, n, d⟩ := a
  have S0 := XS.lay w (ActL.C ⟨k, p, id, ad, wt, md, sm, ky, va, df, tl, ts, n, d⟩) 47
  unfold ActL.C
  unfold ActL.C at S0
  simp only at S0 hk ⊢
  obtain ⟨X, hX⟩ : ∃ X, X = w.heap.size := ⟨_, rfl⟩
  obtain ⟨W, hW⟩ : ∃ W, W = w.alloc (.cells #[.int .i64 k, .string p, .int .i64 id, .string ad, .float .f64 wt, .int .i64 md, .bool sm, .bool ky, .int .u32 (va : Nat), .bool df, .int .i64 tl, .int .i64 ts, .int .i64 n, .int .i64 d] 47) := ⟨_, rfl⟩
  rw [← hX, ← hW] at S0
  have hXw : w.heap.size ≤ X := by omega
  have a0 := cellAt (i := 0) (v := .int .i64 k) S0.hX rfl
  have sf := store_float
  have br := bits_run
  have PS := Lib.hid S0
  obtain ⟨b, hb⟩ : ∃ b, b = ActL.bare ⟨k, p, id, ad, wt, md, sm, ky, va, df, tl, ts, n, d⟩ := ⟨_, rfl⟩
  rw [← hb]
  have HB := Lib.hid hb
  clear hb
  go_enter Try.func43, Try.ntmps43
  go_upto_region 1 with (fail)
  rw [← hW, ← hX]
  clear hW hX
  go_upto_block 0 with (fail)
  go_cut [] (fun wx => XS X b.C 47 w wx)
  case first =>
    clear S0
    have : k = 0 ∨ k = 1 ∨ k = 2 ∨ k = 3 ∨ k = 4 ∨ k = 5 ∨ k = 6 ∨ k = 7 ∨ k = 8 ∨ k = 9 ∨ k = 10 := by omega
    rcases this with rfl | rfl | rfl | rfl | rfl | rfl | rfl | rfl | rfl | rfl | rfl
    · skip
      have k1 := cellAt (i := 1) (v := .string p) PS.out.hX rfl
      have f1 := Lib.frozen_of_heap PS.out.hX 1
      go_wp2_with (fail)
      go_meet
      exact ⟨by rw [HB.out]; exact (heap_set PS.out.hX (i := 1) (by simp) _), (PS.out.bl.setCell (p := ⟨X, 1, none⟩) hXw _)⟩
    · skip
      have k2 := cellAt (i := 2) (v := .int .i64 id) PS.out.hX rfl
      have f2 := Lib.frozen_of_heap PS.out.hX 2
      have k3 := cellAt (i := 3) (v := .string ad) PS.out.hX rfl
      have f3 := Lib.frozen_of_heap PS.out.hX 3
      have k4 := cellAt (i := 4) (v := .float .f64 wt) PS.out.hX rfl
      have f4 := Lib.frozen_of_heap PS.out.hX 4
      go_wp2_with (fail)
      go_meet
      exact ⟨by rw [HB.out]; exact (heap_set (heap_set (heap_set PS.out.hX (i := 2) (by simp) _) (i := 3) (by simp) _) (i := 4) (by simp) _), (((PS.out.bl.setCell (p := ⟨X, 2, none⟩) hXw _).setCell (p := ⟨X, 3, none⟩) hXw _).setCell (p := ⟨X, 4, none⟩) hXw _)⟩
    · skip
      have k12 := cellAt (i := 12) (v := .int .i64 n) PS.out.hX rfl
      have f12 := Lib.frozen_of_heap PS.out.hX 12
      go_wp2_with (fail)
      go_meet
      exact ⟨by rw [HB.out]; exact (heap_set PS.out.hX (i := 12) (by simp) _), (PS.out.bl.setCell (p := ⟨X, 12, none⟩) hXw _)⟩
    · skip
      have k12 := cellAt (i := 12) (v := .int .i64 n) PS.out.hX rfl
      have f12 := Lib.frozen_of_heap PS.out.hX 12
      go_wp2_with (fail)
      go_meet
      exact ⟨by rw [HB.out]; exact (heap_set PS.out.hX (i := 12) (by simp) _), (PS.out.bl.setCell (p := ⟨X, 12, none⟩) hXw _)⟩
    · skip
      have k5 := cellAt (i := 5) (v := .int .i64 md) PS.out.hX rfl
      have f5 := Lib.frozen_of_heap PS.out.hX 5
      have k6 := cellAt (i := 6) (v := .bool sm) PS.out.hX rfl
      have f6 := Lib.frozen_of_heap PS.out.hX 6
      have k7 := cellAt (i := 7) (v := .bool ky) PS.out.hX rfl
      have f7 := Lib.frozen_of_heap PS.out.hX 7
      have k8 := cellAt (i := 8) (v := .int .u32 (va : Nat)) PS.out.hX rfl
      have f8 := Lib.frozen_of_heap PS.out.hX 8
      have k9 := cellAt (i := 9) (v := .bool df) PS.out.hX rfl
      have f9 := Lib.frozen_of_heap PS.out.hX 9
      have k10 := cellAt (i := 10) (v := .int .i64 tl) PS.out.hX rfl
      have f10 := Lib.frozen_of_heap PS.out.hX 10
      have k11 := cellAt (i := 11) (v := .int .i64 ts) PS.out.hX rfl
      have f11 := Lib.frozen_of_heap PS.out.hX 11
      go_wp2_with (fail)
      go_meet
      exact ⟨by rw [HB.out]; exact (heap_set (heap_set (heap_set (heap_set (heap_set (heap_set (heap_set PS.out.hX (i := 5) (by simp) _) (i := 6) (by simp) _) (i := 7) (by simp) _) (i := 8) (by simp) _) (i := 9) (by simp) _) (i := 10) (by simp) _) (i := 11) (by simp) _), (((((((PS.out.bl.setCell (p := ⟨X, 5, none⟩) hXw _).setCell (p := ⟨X, 6, none⟩) hXw _).setCell (p := ⟨X, 7, none⟩) hXw _).setCell (p := ⟨X, 8, none⟩) hXw _).setCell (p := ⟨X, 9, none⟩) hXw _).setCell (p := ⟨X, 10, none⟩) hXw _).setCell (p := ⟨X, 11, none⟩) hXw _)⟩
    · skip
      have k12 := cellAt (i := 12) (v := .int .i64 n) PS.out.hX rfl
      have f12 := Lib.frozen_of_heap PS.out.hX 12
      go_wp2_with (fail)
      go_meet
      exact ⟨by rw [HB.out]; exact (heap_set PS.out.hX (i := 12) (by simp) _), (PS.out.bl.setCell (p := ⟨X, 12, none⟩) hXw _)⟩
    · skip
      have k12 := cellAt (i := 12) (v := .int .i64 n) PS.out.hX rfl
      have f12 := Lib.frozen_of_heap PS.out.hX 12
      go_wp2_with (fail)
      go_meet
      exact ⟨by rw [HB.out]; exact (heap_set PS.out.hX (i := 12) (by simp) _), (PS.out.bl.setCell (p := ⟨X, 12, none⟩) hXw _)⟩
    · skip
      have k12 := cellAt (i := 12) (v := .int .i64 n) PS.out.hX rfl
      have f12 := Lib.frozen_of_heap PS.out.hX 12
      go_wp2_with (fail)
      go_meet
      exact ⟨by rw [HB.out]; exact (heap_set PS.out.hX (i := 12) (by simp) _), (PS.out.bl.setCell (p := ⟨X, 12, none⟩) hXw _)⟩
    · skip
      have k12 := cellAt (i := 12) (v := .int .i64 n) PS.out.hX rfl
      have f12 := Lib.frozen_of_heap PS.out.hX 12
      have k13 := cellAt (i := 13) (v := .int .i64 d) PS.out.hX rfl
      have f13 := Lib.frozen_of_heap PS.out.hX 13
      go_wp2_with (fail)
      go_meet
      exact ⟨by rw [HB.out]; exact (heap_set (heap_set PS.out.hX (i := 12) (by simp) _) (i := 13) (by simp) _), ((PS.out.bl.setCell (p := ⟨X, 12, none⟩) hXw _).setCell (p := ⟨X, 13, none⟩) hXw _)⟩
    · skip
      have k1 := cellAt (i := 1) (v := .string p) PS.out.hX rfl
      have f1 := Lib.frozen_of_heap PS.out.hX 1
      go_wp2_with (fail)
      go_meet
      exact ⟨by rw [HB.out]; exact (heap_set PS.out.hX (i := 1) (by simp) _), (PS.out.bl.setCell (p := ⟨X, 1, none⟩) hXw _)⟩
    · skip
      go_wp2_with (fail)
      go_meet
      exact ⟨by rw [HB.out]; exact PS.out.hX, PS.out.bl⟩
  case rest =>
  clear S0 a0 PS HB
  obtain ⟨k2, p2, id2, ad2, wt2, md2, sm2, ky2, va2, df2, tl2, ts2, n2, d2⟩ := b
  unfold ActL.C at hcut
  simp only at hcut
  have b1 := cellAt (i := 1) (v := .string p2) hcut.hX rfl
  have b2 := cellAt (i := 2) (v := .int .i64 id2) hcut.hX rfl
  have b3 := cellAt (i := 3) (v := .string ad2) hcut.hX rfl
  have b4 := cellAt (i := 4) (v := .float .f64 wt2) hcut.hX rfl
  have b5 := cellAt (i := 5) (v := .int .i64 md2) hcut.hX rfl
  have b6 := cellAt (i := 6) (v := .bool sm2) hcut.hX rfl
  have b7 := cellAt (i := 7) (v := .bool ky2) hcut.hX rfl
  have b8 := cellAt (i := 8) (v := .int .u32 (va2 : Nat)) hcut.hX rfl
  have b9 := cellAt (i := 9) (v := .bool df2) hcut.hX rfl
  have b10 := cellAt (i := 10) (v := .int .i64 tl2) hcut.hX rfl
  have b11 := cellAt (i := 11) (v := .int .i64 ts2) hcut.hX rfl
  have b12 := cellAt (i := 12) (v := .int .i64 n2) hcut.hX rfl
  have b13 := cellAt (i := 13) (v := .int .i64 d2) hcut.hX rfl
  have BL := Lib.hid hcut.bl
  obtain ⟨T, hT⟩ : ∃ T, T = tunZ ⟨k2, p2, id2, ad2, wt2, md2, sm2, ky2, va2, df2, tl2, ts2, n2, d2⟩ := ⟨_, rfl⟩
  have e25 : ∀ V, (binOp .eql 25 (.agg #[.int .i64 md2, .bool sm2, .bool ky2, .int .u32 (va2 : Nat), .bool df2, .int .i64 tl2, .int .i64 ts2]) (.agg #[.int .i64 0, .bool false, .bool false, .int .u32 0, .bool false, .int .i64 0, .int .i64 0])).run Try.prog V = .ok (.bool T) V := fun V => by rw [hT]; exact eql25 md2 sm2 ky2 va2 df2 tl2 ts2 0 false false 0 false 0 0 V
  have g25 := guard25
  have emp : ∀ x : ByteArray, (x.toList == (⟨#[]⟩ : ByteArray).toList) = x.toList.isEmpty := fun x => by
    have e : (⟨#[]⟩ : ByteArray).toList = [] := by rw [ByteArray.toList_eq]
    rw [e]
    cases x.toList <;> rfl
  have HR : Hid (restB ⟨k2, p2, id2, ad2, wt2, md2, sm2, ky2, va2, df2, tl2, ts2, n2, d2⟩ = (p2.toList.isEmpty && ((id2 == 0) && (ad2.toList.isEmpty && ((wt2 == 0) && (T && ((n2 == 0) && (d2 == 0)))))))) := by
    show _ = _
    unfold restB
    simp only [emp, hT]
  obtain ⟨P, hP⟩ : ∃ P, p2.toList.isEmpty = P := ⟨_, rfl⟩
  obtain ⟨I, hI⟩ : ∃ P, (id2 == 0) = P := ⟨_, rfl⟩
  obtain ⟨A, hA⟩ : ∃ P, ad2.toList.isEmpty = P := ⟨_, rfl⟩
  obtain ⟨Wt, hWt⟩ : ∃ P, (wt2 == 0) = P := ⟨_, rfl⟩
  have hWt2 : ((wt2 : Int) == 0) = Wt := by rw [← hWt, Bool.eq_iff_iff]; simp
  obtain ⟨N, hN⟩ : ∃ P, (n2 == 0) = P := ⟨_, rfl⟩
  obtain ⟨D, hD⟩ : ∃ P, (d2 == 0) = P := ⟨_, rfl⟩
  have HR2 : Hid (restB ⟨k2, p2, id2, ad2, wt2, md2, sm2, ky2, va2, df2, tl2, ts2, n2, d2⟩ = (P && (I && (A && (Wt && (T && (N && D))))))) := by
    show _ = _
    rw [HR.out, hP, hI, hA, hWt, hN, hD]
  clear hT emp HR
  cases P with
  | false =>
    go_wp2_with (fail)
    go_ret
    exact ⟨by rw [HR2.out]; rfl, BL.out⟩
  | true =>
    cases I with
    | false =>
      go_wp2_with (fail)
      go_ret
      exact ⟨by rw [HR2.out]; rfl, BL.out⟩
    | true =>
      cases A with
      | false =>
        go_wp2_with (fail)
        go_ret
        exact ⟨by rw [HR2.out]; rfl, BL.out⟩
      | true =>
        cases Wt with
        | false =>
          go_wp2_with (fail)
          go_ret
          exact ⟨by rw [HR2.out]; rfl, BL.out⟩
        | true =>
          cases T with
          | false =>
            go_wp2_with (fail)
            go_ret
            exact ⟨by rw [HR2.out]; rfl, BL.out⟩
          | true =>
            cases N with
            | false =>
              go_wp2_with (fail)
              go_ret
              exact ⟨by rw [HR2.out]; rfl, BL.out⟩
            | true =>
              cases D with
              | false =>
                go_wp2_with (fail)
                go_ret
                exact ⟨by rw [HR2.out]; rfl, BL.out⟩
              | true =>
                go_wp2_with (fail)
                go_ret
                exact ⟨by rw [HR2.out]; rfl, BL.out⟩
end Go.Proofs.Ytmijfhfjhbckdaa
