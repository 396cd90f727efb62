import Derived.Test.YthdkbocokefdhaaStr
import Derived.Test.YthdkbocokefdhaaPut
/- A piece: its end, whether it is the last, whether it may be. -/
namespace Go.Proofs.Ythdkbocokefdhaa
set_option maxRecDepth 100000
open Go.RowKit

/-- a piece of which no sum goes astray -/
structure Psm (p : Pc) : Prop where
  off : 0 ≤ p.h.off ∧ p.h.off ≤ 8191
  len : p.s.length ≤ 65535
set_option maxHeartbeats 2000000 in
theorem end_c (a0 a1 a2 a3 a4 : Int) (a5 a6 : Bool) (a7 a8 a9 sa : ByteArray) (al e : Nat) (he : e = al + sa.size) (hl : e ≤ 1000000000) (w : World) :
    Calls Try.prog 61 #[.agg #[.int .i64 a0, .int .i64 a1, .int .i64 a2, .int .i64 a3, .int .i64 a4, .bool a5, .bool a6, .string a7, .string a8, .string a9, .int .i64 (al : Nat), .string sa]] w fun e' w' => e' = .returned (.int .i64 (e : Nat)) ∧ Below w.heap.size w w' := by
  have h1 : (al : Int) + (sa.size : Int) = (e : Int) := by omega
  have HE := Lib.hid he
  clear he
  go_enter Try.func61, Try.ntmps61
  go_wp2_with (fail)
  go_ret
  exact ⟨rfl, (Below.refl _ _).alloc (Nat.le_refl _) _⟩
set_option maxHeartbeats 2000000 in
theorem last_c (a0 a1 a2 a3 a4 : Int) (a5 a6 : Bool) (a7 a8 a9 sa : ByteArray) (al : Nat) (w : World) :
    Calls Try.prog 62 #[.agg #[.int .i64 a0, .int .i64 a1, .int .i64 a2, .int .i64 a3, .int .i64 a4, .bool a5, .bool a6, .string a7, .string a8, .string a9, .int .i64 (al : Nat), .string sa]] w fun e' w' => e' = .returned (.bool (!a6)) ∧ Below w.heap.size w w' := by
  go_enter Try.func62, Try.ntmps62
  go_wp2_with (fail)
  go_ret
  exact ⟨rfl, (Below.refl _ _).alloc (Nat.le_refl _) _⟩
end Go.Proofs.Ythdkbocokefdhaa
/- Whether a piece may be: odd. -/
namespace Go.Proofs.Ythdkbocokefdhaa
set_option maxRecDepth 100000
open Go.RowKit

theorem odd_r (big mf o8 em fr : Bool) : (big || (mf && (o8 || em)) || (fr && em)) = (if big then true else if mf then (if o8 then true else em) else if fr then em else false) := by cases big <;> cases mf <;> cases o8 <;> cases em <;> cases fr <;> rfl
set_option maxHeartbeats 8000000 in
theorem odd_c (a0 a1 a2 a3 a4 : Int) (a5 a6 : Bool) (a7 a8 a9 sa : ByteArray) (al e : Nat) (he : e = al + sa.size) (hl : e ≤ 1000000000) (w : World) :
    Calls Try.prog 30 #[.agg #[.int .i64 a0, .int .i64 a1, .int .i64 a2, .int .i64 a3, .int .i64 a4, .bool a5, .bool a6, .string a7, .string a8, .string a9, .int .i64 (al : Nat), .string sa]] w fun e' w' => e' = .returned (.bool (decide (65515 < e) || (a6 && (decide (sa.size % 8 ≠ 0) || decide (sa.size = 0))) || (decide (0 < al) && decide (sa.size = 0)))) ∧ Below w.heap.size w w' := by
  obtain ⟨r, hr⟩ : ∃ r, r = (decide (65515 < e) || (a6 && (decide (sa.size % 8 ≠ 0) || decide (sa.size = 0))) || (decide (0 < al) && decide (sa.size = 0))) := ⟨_, rfl⟩
  rw [← hr]
  have hr2 := hr
  rw [odd_r] at hr2
  clear hr
  have CE : Hid (∀ V, Calls Try.prog 61 #[.agg #[.int .i64 a0, .int .i64 a1, .int .i64 a2, .int .i64 a3, .int .i64 a4, .bool a5, .bool a6, .string a7, .string a8, .string a9, .int .i64 (al : Nat), .string sa]] V fun e' w' => e' = .returned (.int .i64 (e : Nat)) ∧ Below V.heap.size V w') := Lib.hid (fun V => end_c a0 a1 a2 a3 a4 a5 a6 a7 a8 a9 sa al e he hl V)
  have CL : Hid (∀ V, Calls Try.prog 62 #[.agg #[.int .i64 a0, .int .i64 a1, .int .i64 a2, .int .i64 a3, .int .i64 a4, .bool a5, .bool a6, .string a7, .string a8, .string a9, .int .i64 (al : Nat), .string sa]] V fun e' w' => e' = .returned (.bool (!a6)) ∧ Below V.heap.size V w') := Lib.hid (fun V => last_c a0 a1 a2 a3 a4 a5 a6 a7 a8 a9 sa al V)
  have HW : Hid (Below w.heap.size w (w.alloc (.cells #[.int .i64 a0, .int .i64 a1, .int .i64 a2, .int .i64 a3, .int .i64 a4, .bool a5, .bool a6, .string a7, .string a8, .string a9, .int .i64 (al : Nat), .string sa] 74))) := Lib.hid ((Below.refl _ _).alloc (Nat.le_refl _) _)
  have HA1 : Hid (∀ w1, Below (w.alloc (.cells #[.int .i64 a0, .int .i64 a1, .int .i64 a2, .int .i64 a3, .int .i64 a4, .bool a5, .bool a6, .string a7, .string a8, .string a9, .int .i64 (al : Nat), .string sa] 74)).heap.size (w.alloc (.cells #[.int .i64 a0, .int .i64 a1, .int .i64 a2, .int .i64 a3, .int .i64 a4, .bool a5, .bool a6, .string a7, .string a8, .string a9, .int .i64 (al : Nat), .string sa] 74)) w1 → w1.heap[w.heap.size]? = some (.cells #[.int .i64 a0, .int .i64 a1, .int .i64 a2, .int .i64 a3, .int .i64 a4, .bool a5, .bool a6, .string a7, .string a8, .string a9, .int .i64 (al : Nat), .string sa] 74 (0, 0))) := Lib.hid (fun w1 h => (h.block _ (by simp)).trans (alloc_new _ _))
  have HA2 : Hid (∀ w1 w2, Below (w.alloc (.cells #[.int .i64 a0, .int .i64 a1, .int .i64 a2, .int .i64 a3, .int .i64 a4, .bool a5, .bool a6, .string a7, .string a8, .string a9, .int .i64 (al : Nat), .string sa] 74)).heap.size (w.alloc (.cells #[.int .i64 a0, .int .i64 a1, .int .i64 a2, .int .i64 a3, .int .i64 a4, .bool a5, .bool a6, .string a7, .string a8, .string a9, .int .i64 (al : Nat), .string sa] 74)) w1 → Below w1.heap.size w1 w2 → w2.heap[w.heap.size]? = some (.cells #[.int .i64 a0, .int .i64 a1, .int .i64 a2, .int .i64 a3, .int .i64 a4, .bool a5, .bool a6, .string a7, .string a8, .string a9, .int .i64 (al : Nat), .string sa] 74 (0, 0))) := Lib.hid (fun w1 w2 h h2 => (h2.block _ (heap_lt ((h.block w.heap.size (by simp)).trans (alloc_new _ _)))).trans ((h.block w.heap.size (by simp)).trans (alloc_new _ _)))
  clear he hl
  have he0 : ∀ x : ByteArray, x.toList.isEmpty = decide (x.size = 0) := fun x => by
    rw [Bool.eq_iff_iff, List.isEmpty_iff, decide_eq_true_eq, ByteArray.toList_eq]
    constructor
    · intro h; have := congrArg List.length h; simpa using this
    · intro h; exact List.eq_nil_of_length_eq_zero (by simpa using h)
  by_cases p1 : 65515 < e
  · have HR : Hid (r = true) := Lib.hid (by rw [hr2, if_pos (by simpa using p1)])
    have q1 : (65515 : Int) < (e : Int) := by omega
    have q1d : decide ((65515 : Int) < (e : Int)) = true := decide_eq_true q1
    clear hr2
    go_enter Try.func30, Try.ntmps30
    go_wp2_with (first | (go_at_call 61; (with_reducible refine (CE.out _).mono ?_); rintro e w1 ⟨rfl, hb1⟩; have HB1 := Lib.hid hb1; clear hb1; have d0 := cellAt (i := 6) (v := .bool a6) (HA1.out w1 HB1.out) rfl; have d1 := cellAt (i := 11) (v := .string sa) (HA1.out w1 HB1.out) rfl; have d2 := cellAt (i := 10) (v := .int .i64 (al : Nat)) (HA1.out w1 HB1.out) rfl; have l0 := cellAt (i := 0) (v := .int .i64 a0) (HA1.out w1 HB1.out) rfl; have l1 := cellAt (i := 1) (v := .int .i64 a1) (HA1.out w1 HB1.out) rfl; have l2 := cellAt (i := 2) (v := .int .i64 a2) (HA1.out w1 HB1.out) rfl; have l3 := cellAt (i := 3) (v := .int .i64 a3) (HA1.out w1 HB1.out) rfl; have l4 := cellAt (i := 4) (v := .int .i64 a4) (HA1.out w1 HB1.out) rfl; have l5 := cellAt (i := 5) (v := .bool a5) (HA1.out w1 HB1.out) rfl; have l7 := cellAt (i := 7) (v := .string a7) (HA1.out w1 HB1.out) rfl; have l8 := cellAt (i := 8) (v := .string a8) (HA1.out w1 HB1.out) rfl; have l9 := cellAt (i := 9) (v := .string a9) (HA1.out w1 HB1.out) rfl) | (go_at_call 62; (with_reducible refine (CL.out _).mono ?_); rintro e w2 ⟨rfl, hb2⟩; have HB2 := Lib.hid hb2; clear hb2; have g1 := cellAt (i := 11) (v := .string sa) (HA2.out w1 w2 HB1.out HB2.out) rfl; have g2 := cellAt (i := 10) (v := .int .i64 (al : Nat)) (HA2.out w1 w2 HB1.out HB2.out) rfl))
    go_ret
    exact ⟨by first | (rw [HR.out]; rfl) | (rw [HR.out, q1d]; rfl) | (rw [HR.out]; simp only [q1d, q4, Bool.or_self, Bool.and_false, Bool.or_false, Bool.false_and]; rfl), by first | exact HW.out.trans (HB1.out.mono HW.out.size) | exact (HW.out.trans (HB1.out.mono HW.out.size)).trans (HB2.out.mono (Nat.le_trans HW.out.size HB1.out.size))⟩
  have q1 : ¬ (65515 : Int) < (e : Int) := by omega
  have q1d : decide ((65515 : Int) < (e : Int)) = false := decide_eq_false q1
  rw [if_neg (by simpa using p1)] at hr2
  cases a6 with
  | true =>
    by_cases p2 : sa.size % 8 = 0
    · have q2 : ¬ ((sa.size : Int) % 8 ≠ 0) := by omega
      have q3 : (((sa.size : Int) % 8) != 0) = false := by rw [bne_eq_false_iff_eq]; omega
      by_cases p3 : sa.size = 0
      · have HR : Hid (r = true) := Lib.hid (by rw [hr2, if_pos rfl, if_neg (by simp [p2]), decide_eq_true p3])
        have q4 : sa.toList.isEmpty = true := by rw [he0, decide_eq_true p3]
        clear hr2 he0
        go_enter Try.func30, Try.ntmps30
        go_wp2_with (first | (go_at_call 61; (with_reducible refine (CE.out _).mono ?_); rintro e w1 ⟨rfl, hb1⟩; have HB1 := Lib.hid hb1; clear hb1; have d0 := cellAt (i := 6) (v := .bool true) (HA1.out w1 HB1.out) rfl; have d1 := cellAt (i := 11) (v := .string sa) (HA1.out w1 HB1.out) rfl; have d2 := cellAt (i := 10) (v := .int .i64 (al : Nat)) (HA1.out w1 HB1.out) rfl; have l0 := cellAt (i := 0) (v := .int .i64 a0) (HA1.out w1 HB1.out) rfl; have l1 := cellAt (i := 1) (v := .int .i64 a1) (HA1.out w1 HB1.out) rfl; have l2 := cellAt (i := 2) (v := .int .i64 a2) (HA1.out w1 HB1.out) rfl; have l3 := cellAt (i := 3) (v := .int .i64 a3) (HA1.out w1 HB1.out) rfl; have l4 := cellAt (i := 4) (v := .int .i64 a4) (HA1.out w1 HB1.out) rfl; have l5 := cellAt (i := 5) (v := .bool a5) (HA1.out w1 HB1.out) rfl; have l7 := cellAt (i := 7) (v := .string a7) (HA1.out w1 HB1.out) rfl; have l8 := cellAt (i := 8) (v := .string a8) (HA1.out w1 HB1.out) rfl; have l9 := cellAt (i := 9) (v := .string a9) (HA1.out w1 HB1.out) rfl) | (go_at_call 62; (with_reducible refine (CL.out _).mono ?_); rintro e w2 ⟨rfl, hb2⟩; have HB2 := Lib.hid hb2; clear hb2; have g1 := cellAt (i := 11) (v := .string sa) (HA2.out w1 w2 HB1.out HB2.out) rfl; have g2 := cellAt (i := 10) (v := .int .i64 (al : Nat)) (HA2.out w1 w2 HB1.out HB2.out) rfl))
        go_ret
        exact ⟨by first | (rw [HR.out]; rfl) | (rw [HR.out, q1d]; rfl) | (rw [HR.out]; simp only [q1d, q4, Bool.or_self, Bool.and_false, Bool.or_false, Bool.false_and]; rfl), by first | exact HW.out.trans (HB1.out.mono HW.out.size) | exact (HW.out.trans (HB1.out.mono HW.out.size)).trans (HB2.out.mono (Nat.le_trans HW.out.size HB1.out.size))⟩
      · have HR : Hid (r = false) := Lib.hid (by rw [hr2, if_pos rfl, if_neg (by simp [p2]), decide_eq_false p3])
        have q4 : sa.toList.isEmpty = false := by rw [he0, decide_eq_false p3]
        clear hr2 he0
        by_cases p4 : 0 < al
        · have q5 : (0 : Int) < (al : Int) := by omega
          go_enter Try.func30, Try.ntmps30
          go_wp2_with (first | (go_at_call 61; (with_reducible refine (CE.out _).mono ?_); rintro e w1 ⟨rfl, hb1⟩; have HB1 := Lib.hid hb1; clear hb1; have d0 := cellAt (i := 6) (v := .bool true) (HA1.out w1 HB1.out) rfl; have d1 := cellAt (i := 11) (v := .string sa) (HA1.out w1 HB1.out) rfl; have d2 := cellAt (i := 10) (v := .int .i64 (al : Nat)) (HA1.out w1 HB1.out) rfl; have l0 := cellAt (i := 0) (v := .int .i64 a0) (HA1.out w1 HB1.out) rfl; have l1 := cellAt (i := 1) (v := .int .i64 a1) (HA1.out w1 HB1.out) rfl; have l2 := cellAt (i := 2) (v := .int .i64 a2) (HA1.out w1 HB1.out) rfl; have l3 := cellAt (i := 3) (v := .int .i64 a3) (HA1.out w1 HB1.out) rfl; have l4 := cellAt (i := 4) (v := .int .i64 a4) (HA1.out w1 HB1.out) rfl; have l5 := cellAt (i := 5) (v := .bool a5) (HA1.out w1 HB1.out) rfl; have l7 := cellAt (i := 7) (v := .string a7) (HA1.out w1 HB1.out) rfl; have l8 := cellAt (i := 8) (v := .string a8) (HA1.out w1 HB1.out) rfl; have l9 := cellAt (i := 9) (v := .string a9) (HA1.out w1 HB1.out) rfl) | (go_at_call 62; (with_reducible refine (CL.out _).mono ?_); rintro e w2 ⟨rfl, hb2⟩; have HB2 := Lib.hid hb2; clear hb2; have g1 := cellAt (i := 11) (v := .string sa) (HA2.out w1 w2 HB1.out HB2.out) rfl; have g2 := cellAt (i := 10) (v := .int .i64 (al : Nat)) (HA2.out w1 w2 HB1.out HB2.out) rfl))
          go_ret
          exact ⟨by first | (rw [HR.out]; rfl) | (rw [HR.out, q1d]; rfl) | (rw [HR.out]; simp only [q1d, q4, Bool.or_self, Bool.and_false, Bool.or_false, Bool.false_and]; rfl), by first | exact HW.out.trans (HB1.out.mono HW.out.size) | exact (HW.out.trans (HB1.out.mono HW.out.size)).trans (HB2.out.mono (Nat.le_trans HW.out.size HB1.out.size))⟩
        · have q5 : ¬ (0 : Int) < (al : Int) := by omega
          go_enter Try.func30, Try.ntmps30
          go_wp2_with (first | (go_at_call 61; (with_reducible refine (CE.out _).mono ?_); rintro e w1 ⟨rfl, hb1⟩; have HB1 := Lib.hid hb1; clear hb1; have d0 := cellAt (i := 6) (v := .bool true) (HA1.out w1 HB1.out) rfl; have d1 := cellAt (i := 11) (v := .string sa) (HA1.out w1 HB1.out) rfl; have d2 := cellAt (i := 10) (v := .int .i64 (al : Nat)) (HA1.out w1 HB1.out) rfl; have l0 := cellAt (i := 0) (v := .int .i64 a0) (HA1.out w1 HB1.out) rfl; have l1 := cellAt (i := 1) (v := .int .i64 a1) (HA1.out w1 HB1.out) rfl; have l2 := cellAt (i := 2) (v := .int .i64 a2) (HA1.out w1 HB1.out) rfl; have l3 := cellAt (i := 3) (v := .int .i64 a3) (HA1.out w1 HB1.out) rfl; have l4 := cellAt (i := 4) (v := .int .i64 a4) (HA1.out w1 HB1.out) rfl; have l5 := cellAt (i := 5) (v := .bool a5) (HA1.out w1 HB1.out) rfl; have l7 := cellAt (i := 7) (v := .string a7) (HA1.out w1 HB1.out) rfl; have l8 := cellAt (i := 8) (v := .string a8) (HA1.out w1 HB1.out) rfl; have l9 := cellAt (i := 9) (v := .string a9) (HA1.out w1 HB1.out) rfl) | (go_at_call 62; (with_reducible refine (CL.out _).mono ?_); rintro e w2 ⟨rfl, hb2⟩; have HB2 := Lib.hid hb2; clear hb2; have g1 := cellAt (i := 11) (v := .string sa) (HA2.out w1 w2 HB1.out HB2.out) rfl; have g2 := cellAt (i := 10) (v := .int .i64 (al : Nat)) (HA2.out w1 w2 HB1.out HB2.out) rfl))
          go_ret
          exact ⟨by first | (rw [HR.out]; rfl) | (rw [HR.out, q1d]; rfl) | (rw [HR.out]; simp only [q1d, q4, Bool.or_self, Bool.and_false, Bool.or_false, Bool.false_and]; rfl), by first | exact HW.out.trans (HB1.out.mono HW.out.size) | exact (HW.out.trans (HB1.out.mono HW.out.size)).trans (HB2.out.mono (Nat.le_trans HW.out.size HB1.out.size))⟩
    · have q2 : ((sa.size : Int) % 8 ≠ 0) := by omega
      have q3 : (((sa.size : Int) % 8) != 0) = true := by rw [bne_iff_ne]; omega
      have HR : Hid (r = true) := Lib.hid (by rw [hr2, if_pos rfl, if_pos (by simpa using p2)])
      clear hr2 he0
      go_enter Try.func30, Try.ntmps30
      go_wp2_with (first | (go_at_call 61; (with_reducible refine (CE.out _).mono ?_); rintro e w1 ⟨rfl, hb1⟩; have HB1 := Lib.hid hb1; clear hb1; have d0 := cellAt (i := 6) (v := .bool true) (HA1.out w1 HB1.out) rfl; have d1 := cellAt (i := 11) (v := .string sa) (HA1.out w1 HB1.out) rfl; have d2 := cellAt (i := 10) (v := .int .i64 (al : Nat)) (HA1.out w1 HB1.out) rfl; have l0 := cellAt (i := 0) (v := .int .i64 a0) (HA1.out w1 HB1.out) rfl; have l1 := cellAt (i := 1) (v := .int .i64 a1) (HA1.out w1 HB1.out) rfl; have l2 := cellAt (i := 2) (v := .int .i64 a2) (HA1.out w1 HB1.out) rfl; have l3 := cellAt (i := 3) (v := .int .i64 a3) (HA1.out w1 HB1.out) rfl; have l4 := cellAt (i := 4) (v := .int .i64 a4) (HA1.out w1 HB1.out) rfl; have l5 := cellAt (i := 5) (v := .bool a5) (HA1.out w1 HB1.out) rfl; have l7 := cellAt (i := 7) (v := .string a7) (HA1.out w1 HB1.out) rfl; have l8 := cellAt (i := 8) (v := .string a8) (HA1.out w1 HB1.out) rfl; have l9 := cellAt (i := 9) (v := .string a9) (HA1.out w1 HB1.out) rfl) | (go_at_call 62; (with_reducible refine (CL.out _).mono ?_); rintro e w2 ⟨rfl, hb2⟩; have HB2 := Lib.hid hb2; clear hb2; have g1 := cellAt (i := 11) (v := .string sa) (HA2.out w1 w2 HB1.out HB2.out) rfl; have g2 := cellAt (i := 10) (v := .int .i64 (al : Nat)) (HA2.out w1 w2 HB1.out HB2.out) rfl))
      go_ret
      exact ⟨by first | (rw [HR.out]; rfl) | (rw [HR.out, q1d]; rfl) | (rw [HR.out]; simp only [q1d, q4, Bool.or_self, Bool.and_false, Bool.or_false, Bool.false_and]; rfl), by first | exact HW.out.trans (HB1.out.mono HW.out.size) | exact (HW.out.trans (HB1.out.mono HW.out.size)).trans (HB2.out.mono (Nat.le_trans HW.out.size HB1.out.size))⟩
  | false =>
    by_cases p4 : 0 < al
    · have q5 : (0 : Int) < (al : Int) := by omega
      by_cases p3 : sa.size = 0
      · have HR : Hid (r = true) := Lib.hid (by rw [hr2, if_neg (by simp), if_pos (by simpa using p4), decide_eq_true p3])
        have q4 : sa.toList.isEmpty = true := by rw [he0, decide_eq_true p3]
        clear hr2 he0
        go_enter Try.func30, Try.ntmps30
        go_wp2_with (first | (go_at_call 61; (with_reducible refine (CE.out _).mono ?_); rintro e w1 ⟨rfl, hb1⟩; have HB1 := Lib.hid hb1; clear hb1; have d0 := cellAt (i := 6) (v := .bool false) (HA1.out w1 HB1.out) rfl; have d1 := cellAt (i := 11) (v := .string sa) (HA1.out w1 HB1.out) rfl; have d2 := cellAt (i := 10) (v := .int .i64 (al : Nat)) (HA1.out w1 HB1.out) rfl; have l0 := cellAt (i := 0) (v := .int .i64 a0) (HA1.out w1 HB1.out) rfl; have l1 := cellAt (i := 1) (v := .int .i64 a1) (HA1.out w1 HB1.out) rfl; have l2 := cellAt (i := 2) (v := .int .i64 a2) (HA1.out w1 HB1.out) rfl; have l3 := cellAt (i := 3) (v := .int .i64 a3) (HA1.out w1 HB1.out) rfl; have l4 := cellAt (i := 4) (v := .int .i64 a4) (HA1.out w1 HB1.out) rfl; have l5 := cellAt (i := 5) (v := .bool a5) (HA1.out w1 HB1.out) rfl; have l7 := cellAt (i := 7) (v := .string a7) (HA1.out w1 HB1.out) rfl; have l8 := cellAt (i := 8) (v := .string a8) (HA1.out w1 HB1.out) rfl; have l9 := cellAt (i := 9) (v := .string a9) (HA1.out w1 HB1.out) rfl) | (go_at_call 62; (with_reducible refine (CL.out _).mono ?_); rintro e w2 ⟨rfl, hb2⟩; have HB2 := Lib.hid hb2; clear hb2; have g1 := cellAt (i := 11) (v := .string sa) (HA2.out w1 w2 HB1.out HB2.out) rfl; have g2 := cellAt (i := 10) (v := .int .i64 (al : Nat)) (HA2.out w1 w2 HB1.out HB2.out) rfl))
        go_ret
        exact ⟨by first | (rw [HR.out]; rfl) | (rw [HR.out, q1d]; rfl) | (rw [HR.out]; simp only [q1d, q4, Bool.or_self, Bool.and_false, Bool.or_false, Bool.false_and]; rfl), by first | exact HW.out.trans (HB1.out.mono HW.out.size) | exact (HW.out.trans (HB1.out.mono HW.out.size)).trans (HB2.out.mono (Nat.le_trans HW.out.size HB1.out.size))⟩
      · have HR : Hid (r = false) := Lib.hid (by rw [hr2, if_neg (by simp), if_pos (by simpa using p4), decide_eq_false p3])
        have q4 : sa.toList.isEmpty = false := by rw [he0, decide_eq_false p3]
        clear hr2 he0
        go_enter Try.func30, Try.ntmps30
        go_wp2_with (first | (go_at_call 61; (with_reducible refine (CE.out _).mono ?_); rintro e w1 ⟨rfl, hb1⟩; have HB1 := Lib.hid hb1; clear hb1; have d0 := cellAt (i := 6) (v := .bool false) (HA1.out w1 HB1.out) rfl; have d1 := cellAt (i := 11) (v := .string sa) (HA1.out w1 HB1.out) rfl; have d2 := cellAt (i := 10) (v := .int .i64 (al : Nat)) (HA1.out w1 HB1.out) rfl; have l0 := cellAt (i := 0) (v := .int .i64 a0) (HA1.out w1 HB1.out) rfl; have l1 := cellAt (i := 1) (v := .int .i64 a1) (HA1.out w1 HB1.out) rfl; have l2 := cellAt (i := 2) (v := .int .i64 a2) (HA1.out w1 HB1.out) rfl; have l3 := cellAt (i := 3) (v := .int .i64 a3) (HA1.out w1 HB1.out) rfl; have l4 := cellAt (i := 4) (v := .int .i64 a4) (HA1.out w1 HB1.out) rfl; have l5 := cellAt (i := 5) (v := .bool a5) (HA1.out w1 HB1.out) rfl; have l7 := cellAt (i := 7) (v := .string a7) (HA1.out w1 HB1.out) rfl; have l8 := cellAt (i := 8) (v := .string a8) (HA1.out w1 HB1.out) rfl; have l9 := cellAt (i := 9) (v := .string a9) (HA1.out w1 HB1.out) rfl) | (go_at_call 62; (with_reducible refine (CL.out _).mono ?_); rintro e w2 ⟨rfl, hb2⟩; have HB2 := Lib.hid hb2; clear hb2; have g1 := cellAt (i := 11) (v := .string sa) (HA2.out w1 w2 HB1.out HB2.out) rfl; have g2 := cellAt (i := 10) (v := .int .i64 (al : Nat)) (HA2.out w1 w2 HB1.out HB2.out) rfl))
        go_ret
        exact ⟨by first | (rw [HR.out]; rfl) | (rw [HR.out, q1d]; rfl) | (rw [HR.out]; simp only [q1d, q4, Bool.or_self, Bool.and_false, Bool.or_false, Bool.false_and]; rfl), by first | exact HW.out.trans (HB1.out.mono HW.out.size) | exact (HW.out.trans (HB1.out.mono HW.out.size)).trans (HB2.out.mono (Nat.le_trans HW.out.size HB1.out.size))⟩
    · have q5 : ¬ (0 : Int) < (al : Int) := by omega
      have HR : Hid (r = false) := Lib.hid (by rw [hr2, if_neg (by simp), if_neg (by simpa using p4)])
      clear hr2 he0
      go_enter Try.func30, Try.ntmps30
      go_wp2_with (first | (go_at_call 61; (with_reducible refine (CE.out _).mono ?_); rintro e w1 ⟨rfl, hb1⟩; have HB1 := Lib.hid hb1; clear hb1; have d0 := cellAt (i := 6) (v := .bool false) (HA1.out w1 HB1.out) rfl; have d1 := cellAt (i := 11) (v := .string sa) (HA1.out w1 HB1.out) rfl; have d2 := cellAt (i := 10) (v := .int .i64 (al : Nat)) (HA1.out w1 HB1.out) rfl; have l0 := cellAt (i := 0) (v := .int .i64 a0) (HA1.out w1 HB1.out) rfl; have l1 := cellAt (i := 1) (v := .int .i64 a1) (HA1.out w1 HB1.out) rfl; have l2 := cellAt (i := 2) (v := .int .i64 a2) (HA1.out w1 HB1.out) rfl; have l3 := cellAt (i := 3) (v := .int .i64 a3) (HA1.out w1 HB1.out) rfl; have l4 := cellAt (i := 4) (v := .int .i64 a4) (HA1.out w1 HB1.out) rfl; have l5 := cellAt (i := 5) (v := .bool a5) (HA1.out w1 HB1.out) rfl; have l7 := cellAt (i := 7) (v := .string a7) (HA1.out w1 HB1.out) rfl; have l8 := cellAt (i := 8) (v := .string a8) (HA1.out w1 HB1.out) rfl; have l9 := cellAt (i := 9) (v := .string a9) (HA1.out w1 HB1.out) rfl) | (go_at_call 62; (with_reducible refine (CL.out _).mono ?_); rintro e w2 ⟨rfl, hb2⟩; have HB2 := Lib.hid hb2; clear hb2; have g1 := cellAt (i := 11) (v := .string sa) (HA2.out w1 w2 HB1.out HB2.out) rfl; have g2 := cellAt (i := 10) (v := .int .i64 (al : Nat)) (HA2.out w1 w2 HB1.out HB2.out) rfl))
      go_ret
      exact ⟨by first | (rw [HR.out]; rfl) | (rw [HR.out, q1d]; rfl) | (rw [HR.out]; simp only [q1d, q4, Bool.or_self, Bool.and_false, Bool.or_false, Bool.false_and]; rfl), by first | exact HW.out.trans (HB1.out.mono HW.out.size) | exact (HW.out.trans (HB1.out.mono HW.out.size)).trans (HB2.out.mono (Nat.le_trans HW.out.size HB1.out.size))⟩
end Go.Proofs.Ythdkbocokefdhaa
