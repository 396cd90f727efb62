/- The law WeightOrders returns true for every input. -/
import Derived.Test.YtdhgmpggophcmaaRows
import Derived.WalkKit
import Derived.ProofKit
import Derived.OpenShut
import Derived.ShutString
import Derived.Test.YtdhgmpggophcmaaWalkD
namespace Go.Proofs.Ytdhgmpggophcmaa.weightOrders
open Go.ChangeShapes Go.WideShapes Go.ChangeAt Go.RowKit
open Go.ChangeMaps (open_string shut_string)
set_option linter.unusedVariables false      -- a walk need not use every 'w<i>' (that an integer argument fits its kind)

theorem own : ownKnob Try.prog.godebug = none := by kernel_rfl

theorem u64_nat {a : Int} (h : (Lit.int .u64 a).wf = true) : ∃ b : Nat, a = b ∧ b < W64 := by
  have hmin : IntKind.u64.min = 0 := rfl
  have hmax : IntKind.u64.max = 18446744073709551615 := rfl
  simp only [Lit.wf, Bool.and_eq_true, decide_eq_true_eq] at h
  exact ⟨a.toNat, by omega, by unfold W64; omega⟩
set_option maxRecDepth 100000 in
set_option maxHeartbeats 1600000 in
theorem ord_mm (a b c : Nat) (w : World) (ha : a < W64) (hb : b < W64) (hp : cmpW a b = -1) (hq : cmpW b c = -1) (hr : cmpW a c = -1) (hs : cmpW a a = 0) (ht : cmpW b a = 1) (hij : FM.may a = true → FM.may b = true → FM.points a ≤ FM.points b) (hz : FM.may a = true → (FM.points a = 0 ↔ cmpW a 0 = 0)) :
    Calls Try.prog 7 #[.int .u64 a, .int .u64 b, .int .u64 c] w fun e w' => e = .returned (.bool true) ∧ Below w.heap.size w w' := by
  have A : Hid (∀ W, Calls Try.prog 10 #[] W fun e w' => e = .returned (.bool true) ∧ w' = W) := awake_any
  have r1 := from_run a w
  have r2 := from_run b w
  have r3 := from_run c w
  have C1 : Hid (∀ W, Calls Try.prog 25 #[.float .f64 a, .float .f64 b] W fun e w' => e = .returned (.int .i64 (-1)) ∧ w' = W) := fun W => by rw [← hp]; exact compare_any a b W
  have C2 : Hid (∀ W, Calls Try.prog 25 #[.float .f64 b, .float .f64 c] W fun e w' => e = .returned (.int .i64 (-1)) ∧ w' = W) := fun W => by rw [← hq]; exact compare_any b c W
  have C3 : Hid (∀ W, Calls Try.prog 25 #[.float .f64 a, .float .f64 c] W fun e w' => e = .returned (.int .i64 (-1)) ∧ w' = W) := fun W => by rw [← hr]; exact compare_any a c W
  have C4 : Hid (∀ W, Calls Try.prog 25 #[.float .f64 a, .float .f64 a] W fun e w' => e = .returned (.int .i64 0) ∧ w' = W) := fun W => by rw [← hs]; exact compare_any a a W
  have C5 : Hid (∀ W, Calls Try.prog 25 #[.float .f64 b, .float .f64 a] W fun e w' => e = .returned (.int .i64 1) ∧ w' = W) := fun W => by rw [← ht]; exact compare_any b a W
  cases hm : FM.may a
  · have K : Hid (∀ W, Calls Try.prog 21 #[.float .f64 a] W fun e w' => e = .returned (.int .i64 1) ∧ w' = W) := fun W => check_no a W ha hm
    clear ha hb hp hq hr hs ht hz hm hij
    go_enter Try.func7, Try.ntmps7
    go_wp2_with (first | (go_at_call 10; (with_reducible refine (A.out _).mono ?_); rintro e w1 ⟨rfl, rfl⟩) | (go_at_call 25; (with_reducible refine (C1.out _).mono ?_); rintro e w1 ⟨rfl, rfl⟩) | (go_at_call 25; (with_reducible refine (C2.out _).mono ?_); rintro e w1 ⟨rfl, rfl⟩) | (go_at_call 25; (with_reducible refine (C3.out _).mono ?_); rintro e w1 ⟨rfl, rfl⟩) | (go_at_call 25; (with_reducible refine (C4.out _).mono ?_); rintro e w1 ⟨rfl, rfl⟩) | (go_at_call 25; (with_reducible refine (C5.out _).mono ?_); rintro e w1 ⟨rfl, rfl⟩) | (go_at_call 21; (with_reducible refine (K.out _).mono ?_); rintro e w1 ⟨rfl, rfl⟩))
    go_ret
    exact ⟨rfl, Below.refl _ _⟩
  · have K : Hid (∀ W, Calls Try.prog 21 #[.float .f64 a] W fun e w' => e = .returned (.int .i64 0) ∧ w' = W) := fun W => check_ok a W ha hm
    cases hn : FM.may b
    · have L : Hid (∀ W, Calls Try.prog 21 #[.float .f64 b] W fun e w' => e = .returned (.int .i64 1) ∧ w' = W) := fun W => check_no b W hb hn
      clear ha hb hp hq hr hs ht hz hm hn hij
      go_enter Try.func7, Try.ntmps7
      go_wp2_with (first | (go_at_call 10; (with_reducible refine (A.out _).mono ?_); rintro e w1 ⟨rfl, rfl⟩) | (go_at_call 25; (with_reducible refine (C1.out _).mono ?_); rintro e w1 ⟨rfl, rfl⟩) | (go_at_call 25; (with_reducible refine (C2.out _).mono ?_); rintro e w1 ⟨rfl, rfl⟩) | (go_at_call 25; (with_reducible refine (C3.out _).mono ?_); rintro e w1 ⟨rfl, rfl⟩) | (go_at_call 25; (with_reducible refine (C4.out _).mono ?_); rintro e w1 ⟨rfl, rfl⟩) | (go_at_call 25; (with_reducible refine (C5.out _).mono ?_); rintro e w1 ⟨rfl, rfl⟩) | (go_at_call 21; (with_reducible refine (K.out _).mono ?_); rintro e w1 ⟨rfl, rfl⟩) | (go_at_call 21; (with_reducible refine (L.out _).mono ?_); rintro e w1 ⟨rfl, rfl⟩))
      go_ret
      exact ⟨rfl, Below.refl _ _⟩
    · have L : Hid (∀ W, Calls Try.prog 21 #[.float .f64 b] W fun e w' => e = .returned (.int .i64 0) ∧ w' = W) := fun W => check_ok b W hb hn
      replace hij := hij hm hn
      replace hz := hz hm
      have hle := FM.points_le a
      obtain ⟨i, hi⟩ : ∃ i, i = FM.points a := ⟨_, rfl⟩
      obtain ⟨j, hj⟩ : ∃ j, j = FM.points b := ⟨_, rfl⟩
      obtain ⟨z, hzz⟩ : ∃ z, z = cmpW a 0 := ⟨_, rfl⟩
      have P1 : Hid (∀ W, Calls Try.prog 23 #[.float .f64 a] W fun e w' => e = .returned (.int .i64 i) ∧ w' = W) := fun W => by rw [hi]; exact points_any a W ha
      have P2 : Hid (∀ W, Calls Try.prog 23 #[.float .f64 b] W fun e w' => e = .returned (.int .i64 j) ∧ w' = W) := fun W => by rw [hj]; exact points_any b W hb
      have Z : Hid (∀ W, Calls Try.prog 25 #[.float .f64 a, .float .f64 0] W fun e w' => e = .returned (.int .i64 z) ∧ w' = W) := fun W => by rw [hzz]; exact compare_any a 0 W
      rw [← hi, ← hzz] at hz
      rw [← hi] at hle
      rw [← hi, ← hj] at hij
      have hij' : (i : Int) ≤ (j : Int) := by omega
      have hle' : (i : Int) ≤ 256 := by omega
      clear ha hb hp hq hr hs ht hm hn hi hj hzz hle hij
      by_cases h0 : i = 0
      · have z0 := hz.1 h0
        clear hz
        subst h0 z0
        go_enter Try.func7, Try.ntmps7
        go_wp2_with (first | (go_at_call 10; (with_reducible refine (A.out _).mono ?_); rintro e w1 ⟨rfl, rfl⟩) | (go_at_call 25; (with_reducible refine (C1.out _).mono ?_); rintro e w1 ⟨rfl, rfl⟩) | (go_at_call 25; (with_reducible refine (C2.out _).mono ?_); rintro e w1 ⟨rfl, rfl⟩) | (go_at_call 25; (with_reducible refine (C3.out _).mono ?_); rintro e w1 ⟨rfl, rfl⟩) | (go_at_call 25; (with_reducible refine (C4.out _).mono ?_); rintro e w1 ⟨rfl, rfl⟩) | (go_at_call 25; (with_reducible refine (C5.out _).mono ?_); rintro e w1 ⟨rfl, rfl⟩) | (go_at_call 21; (with_reducible refine (K.out _).mono ?_); rintro e w1 ⟨rfl, rfl⟩) | (go_at_call 21; (with_reducible refine (L.out _).mono ?_); rintro e w1 ⟨rfl, rfl⟩) | (go_at_call 23; (with_reducible refine (P1.out _).mono ?_); rintro e w1 ⟨rfl, rfl⟩) | (go_at_call 23; (with_reducible refine (P2.out _).mono ?_); rintro e w1 ⟨rfl, rfl⟩) | (go_at_call 25; (with_reducible refine (Z.out _).mono ?_); rintro e w1 ⟨rfl, rfl⟩))
        go_ret
        exact ⟨rfl, Below.refl _ _⟩
      · have z0 : (z == 0) = false := by rw [beq_eq_false_iff_ne]; exact fun h => h0 (hz.2 h)
        have i0 : ((i : Int) == 0) = false := by rw [beq_eq_false_iff_ne]; omega
        clear hz h0
        go_enter Try.func7, Try.ntmps7
        go_wp2_with (first | (go_at_call 10; (with_reducible refine (A.out _).mono ?_); rintro e w1 ⟨rfl, rfl⟩) | (go_at_call 25; (with_reducible refine (C1.out _).mono ?_); rintro e w1 ⟨rfl, rfl⟩) | (go_at_call 25; (with_reducible refine (C2.out _).mono ?_); rintro e w1 ⟨rfl, rfl⟩) | (go_at_call 25; (with_reducible refine (C3.out _).mono ?_); rintro e w1 ⟨rfl, rfl⟩) | (go_at_call 25; (with_reducible refine (C4.out _).mono ?_); rintro e w1 ⟨rfl, rfl⟩) | (go_at_call 25; (with_reducible refine (C5.out _).mono ?_); rintro e w1 ⟨rfl, rfl⟩) | (go_at_call 21; (with_reducible refine (K.out _).mono ?_); rintro e w1 ⟨rfl, rfl⟩) | (go_at_call 21; (with_reducible refine (L.out _).mono ?_); rintro e w1 ⟨rfl, rfl⟩) | (go_at_call 23; (with_reducible refine (P1.out _).mono ?_); rintro e w1 ⟨rfl, rfl⟩) | (go_at_call 23; (with_reducible refine (P2.out _).mono ?_); rintro e w1 ⟨rfl, rfl⟩) | (go_at_call 25; (with_reducible refine (Z.out _).mono ?_); rintro e w1 ⟨rfl, rfl⟩))
        go_ret
        exact ⟨rfl, Below.refl _ _⟩
set_option maxRecDepth 100000 in
set_option maxHeartbeats 1600000 in
theorem ord_mz (a b c : Nat) (w : World) (ha : a < W64) (hb : b < W64) (hp : cmpW a b = -1) (hq : cmpW b c = 0) (hr : cmpW a c = -1) (hs : cmpW a a = 0) (ht : cmpW b a = 1) (hij : FM.may a = true → FM.may b = true → FM.points a ≤ FM.points b) (hz : FM.may a = true → (FM.points a = 0 ↔ cmpW a 0 = 0)) :
    Calls Try.prog 7 #[.int .u64 a, .int .u64 b, .int .u64 c] w fun e w' => e = .returned (.bool true) ∧ Below w.heap.size w w' := by
  have A : Hid (∀ W, Calls Try.prog 10 #[] W fun e w' => e = .returned (.bool true) ∧ w' = W) := awake_any
  have r1 := from_run a w
  have r2 := from_run b w
  have r3 := from_run c w
  have C1 : Hid (∀ W, Calls Try.prog 25 #[.float .f64 a, .float .f64 b] W fun e w' => e = .returned (.int .i64 (-1)) ∧ w' = W) := fun W => by rw [← hp]; exact compare_any a b W
  have C2 : Hid (∀ W, Calls Try.prog 25 #[.float .f64 b, .float .f64 c] W fun e w' => e = .returned (.int .i64 0) ∧ w' = W) := fun W => by rw [← hq]; exact compare_any b c W
  have C3 : Hid (∀ W, Calls Try.prog 25 #[.float .f64 a, .float .f64 c] W fun e w' => e = .returned (.int .i64 (-1)) ∧ w' = W) := fun W => by rw [← hr]; exact compare_any a c W
  have C4 : Hid (∀ W, Calls Try.prog 25 #[.float .f64 a, .float .f64 a] W fun e w' => e = .returned (.int .i64 0) ∧ w' = W) := fun W => by rw [← hs]; exact compare_any a a W
  have C5 : Hid (∀ W, Calls Try.prog 25 #[.float .f64 b, .float .f64 a] W fun e w' => e = .returned (.int .i64 1) ∧ w' = W) := fun W => by rw [← ht]; exact compare_any b a W
  cases hm : FM.may a
  · have K : Hid (∀ W, Calls Try.prog 21 #[.float .f64 a] W fun e w' => e = .returned (.int .i64 1) ∧ w' = W) := fun W => check_no a W ha hm
    clear ha hb hp hq hr hs ht hz hm hij
    go_enter Try.func7, Try.ntmps7
    go_wp2_with (first | (go_at_call 10; (with_reducible refine (A.out _).mono ?_); rintro e w1 ⟨rfl, rfl⟩) | (go_at_call 25; (with_reducible refine (C1.out _).mono ?_); rintro e w1 ⟨rfl, rfl⟩) | (go_at_call 25; (with_reducible refine (C2.out _).mono ?_); rintro e w1 ⟨rfl, rfl⟩) | (go_at_call 25; (with_reducible refine (C3.out _).mono ?_); rintro e w1 ⟨rfl, rfl⟩) | (go_at_call 25; (with_reducible refine (C4.out _).mono ?_); rintro e w1 ⟨rfl, rfl⟩) | (go_at_call 25; (with_reducible refine (C5.out _).mono ?_); rintro e w1 ⟨rfl, rfl⟩) | (go_at_call 21; (with_reducible refine (K.out _).mono ?_); rintro e w1 ⟨rfl, rfl⟩))
    go_ret
    exact ⟨rfl, Below.refl _ _⟩
  · have K : Hid (∀ W, Calls Try.prog 21 #[.float .f64 a] W fun e w' => e = .returned (.int .i64 0) ∧ w' = W) := fun W => check_ok a W ha hm
    cases hn : FM.may b
    · have L : Hid (∀ W, Calls Try.prog 21 #[.float .f64 b] W fun e w' => e = .returned (.int .i64 1) ∧ w' = W) := fun W => check_no b W hb hn
      clear ha hb hp hq hr hs ht hz hm hn hij
      go_enter Try.func7, Try.ntmps7
      go_wp2_with (first | (go_at_call 10; (with_reducible refine (A.out _).mono ?_); rintro e w1 ⟨rfl, rfl⟩) | (go_at_call 25; (with_reducible refine (C1.out _).mono ?_); rintro e w1 ⟨rfl, rfl⟩) | (go_at_call 25; (with_reducible refine (C2.out _).mono ?_); rintro e w1 ⟨rfl, rfl⟩) | (go_at_call 25; (with_reducible refine (C3.out _).mono ?_); rintro e w1 ⟨rfl, rfl⟩) | (go_at_call 25; (with_reducible refine (C4.out _).mono ?_); rintro e w1 ⟨rfl, rfl⟩) | (go_at_call 25; (with_reducible refine (C5.out _).mono ?_); rintro e w1 ⟨rfl, rfl⟩) | (go_at_call 21; (with_reducible refine (K.out _).mono ?_); rintro e w1 ⟨rfl, rfl⟩) | (go_at_call 21; (with_reducible refine (L.out _).mono ?_); rintro e w1 ⟨rfl, rfl⟩))
      go_ret
      exact ⟨rfl, Below.refl _ _⟩
    · have L : Hid (∀ W, Calls Try.prog 21 #[.float .f64 b] W fun e w' => e = .returned (.int .i64 0) ∧ w' = W) := fun W => check_ok b W hb hn
      replace hij := hij hm hn
      replace hz := hz hm
      have hle := FM.points_le a
      obtain ⟨i, hi⟩ : ∃ i, i = FM.points a := ⟨_, rfl⟩
      obtain ⟨j, hj⟩ : ∃ j, j = FM.points b := ⟨_, rfl⟩
      obtain ⟨z, hzz⟩ : ∃ z, z = cmpW a 0 := ⟨_, rfl⟩
      have P1 : Hid (∀ W, Calls Try.prog 23 #[.float .f64 a] W fun e w' => e = .returned (.int .i64 i) ∧ w' = W) := fun W => by rw [hi]; exact points_any a W ha
      have P2 : Hid (∀ W, Calls Try.prog 23 #[.float .f64 b] W fun e w' => e = .returned (.int .i64 j) ∧ w' = W) := fun W => by rw [hj]; exact points_any b W hb
      have Z : Hid (∀ W, Calls Try.prog 25 #[.float .f64 a, .float .f64 0] W fun e w' => e = .returned (.int .i64 z) ∧ w' = W) := fun W => by rw [hzz]; exact compare_any a 0 W
      rw [← hi, ← hzz] at hz
      rw [← hi] at hle
      rw [← hi, ← hj] at hij
      have hij' : (i : Int) ≤ (j : Int) := by omega
      have hle' : (i : Int) ≤ 256 := by omega
      clear ha hb hp hq hr hs ht hm hn hi hj hzz hle hij
      by_cases h0 : i = 0
      · have z0 := hz.1 h0
        clear hz
        subst h0 z0
        go_enter Try.func7, Try.ntmps7
        go_wp2_with (first | (go_at_call 10; (with_reducible refine (A.out _).mono ?_); rintro e w1 ⟨rfl, rfl⟩) | (go_at_call 25; (with_reducible refine (C1.out _).mono ?_); rintro e w1 ⟨rfl, rfl⟩) | (go_at_call 25; (with_reducible refine (C2.out _).mono ?_); rintro e w1 ⟨rfl, rfl⟩) | (go_at_call 25; (with_reducible refine (C3.out _).mono ?_); rintro e w1 ⟨rfl, rfl⟩) | (go_at_call 25; (with_reducible refine (C4.out _).mono ?_); rintro e w1 ⟨rfl, rfl⟩) | (go_at_call 25; (with_reducible refine (C5.out _).mono ?_); rintro e w1 ⟨rfl, rfl⟩) | (go_at_call 21; (with_reducible refine (K.out _).mono ?_); rintro e w1 ⟨rfl, rfl⟩) | (go_at_call 21; (with_reducible refine (L.out _).mono ?_); rintro e w1 ⟨rfl, rfl⟩) | (go_at_call 23; (with_reducible refine (P1.out _).mono ?_); rintro e w1 ⟨rfl, rfl⟩) | (go_at_call 23; (with_reducible refine (P2.out _).mono ?_); rintro e w1 ⟨rfl, rfl⟩) | (go_at_call 25; (with_reducible refine (Z.out _).mono ?_); rintro e w1 ⟨rfl, rfl⟩))
        go_ret
        exact ⟨rfl, Below.refl _ _⟩
      · have z0 : (z == 0) = false := by rw [beq_eq_false_iff_ne]; exact fun h => h0 (hz.2 h)
        have i0 : ((i : Int) == 0) = false := by rw [beq_eq_false_iff_ne]; omega
        clear hz h0
        go_enter Try.func7, Try.ntmps7
        go_wp2_with (first | (go_at_call 10; (with_reducible refine (A.out _).mono ?_); rintro e w1 ⟨rfl, rfl⟩) | (go_at_call 25; (with_reducible refine (C1.out _).mono ?_); rintro e w1 ⟨rfl, rfl⟩) | (go_at_call 25; (with_reducible refine (C2.out _).mono ?_); rintro e w1 ⟨rfl, rfl⟩) | (go_at_call 25; (with_reducible refine (C3.out _).mono ?_); rintro e w1 ⟨rfl, rfl⟩) | (go_at_call 25; (with_reducible refine (C4.out _).mono ?_); rintro e w1 ⟨rfl, rfl⟩) | (go_at_call 25; (with_reducible refine (C5.out _).mono ?_); rintro e w1 ⟨rfl, rfl⟩) | (go_at_call 21; (with_reducible refine (K.out _).mono ?_); rintro e w1 ⟨rfl, rfl⟩) | (go_at_call 21; (with_reducible refine (L.out _).mono ?_); rintro e w1 ⟨rfl, rfl⟩) | (go_at_call 23; (with_reducible refine (P1.out _).mono ?_); rintro e w1 ⟨rfl, rfl⟩) | (go_at_call 23; (with_reducible refine (P2.out _).mono ?_); rintro e w1 ⟨rfl, rfl⟩) | (go_at_call 25; (with_reducible refine (Z.out _).mono ?_); rintro e w1 ⟨rfl, rfl⟩))
        go_ret
        exact ⟨rfl, Below.refl _ _⟩
set_option maxRecDepth 100000 in
set_option maxHeartbeats 1600000 in
theorem ord_mp (a b c : Nat) (w : World) (ha : a < W64) (hb : b < W64) (hp : cmpW a b = -1) (hq : cmpW b c = 1) (hs : cmpW a a = 0) (ht : cmpW b a = 1) (hij : FM.may a = true → FM.may b = true → FM.points a ≤ FM.points b) (hz : FM.may a = true → (FM.points a = 0 ↔ cmpW a 0 = 0)) :
    Calls Try.prog 7 #[.int .u64 a, .int .u64 b, .int .u64 c] w fun e w' => e = .returned (.bool true) ∧ Below w.heap.size w w' := by
  have A : Hid (∀ W, Calls Try.prog 10 #[] W fun e w' => e = .returned (.bool true) ∧ w' = W) := awake_any
  have r1 := from_run a w
  have r2 := from_run b w
  have r3 := from_run c w
  have C1 : Hid (∀ W, Calls Try.prog 25 #[.float .f64 a, .float .f64 b] W fun e w' => e = .returned (.int .i64 (-1)) ∧ w' = W) := fun W => by rw [← hp]; exact compare_any a b W
  have C2 : Hid (∀ W, Calls Try.prog 25 #[.float .f64 b, .float .f64 c] W fun e w' => e = .returned (.int .i64 1) ∧ w' = W) := fun W => by rw [← hq]; exact compare_any b c W
  obtain ⟨r, hr⟩ : ∃ r, r = cmpW a c := ⟨_, rfl⟩
  have C3 : Hid (∀ W, Calls Try.prog 25 #[.float .f64 a, .float .f64 c] W fun e w' => e = .returned (.int .i64 r) ∧ w' = W) := fun W => by rw [hr]; exact compare_any a c W
  have C4 : Hid (∀ W, Calls Try.prog 25 #[.float .f64 a, .float .f64 a] W fun e w' => e = .returned (.int .i64 0) ∧ w' = W) := fun W => by rw [← hs]; exact compare_any a a W
  have C5 : Hid (∀ W, Calls Try.prog 25 #[.float .f64 b, .float .f64 a] W fun e w' => e = .returned (.int .i64 1) ∧ w' = W) := fun W => by rw [← ht]; exact compare_any b a W
  cases hm : FM.may a
  · have K : Hid (∀ W, Calls Try.prog 21 #[.float .f64 a] W fun e w' => e = .returned (.int .i64 1) ∧ w' = W) := fun W => check_no a W ha hm
    clear ha hb hp hq hr hs ht hz hm hij
    go_enter Try.func7, Try.ntmps7
    go_wp2_with (first | (go_at_call 10; (with_reducible refine (A.out _).mono ?_); rintro e w1 ⟨rfl, rfl⟩) | (go_at_call 25; (with_reducible refine (C1.out _).mono ?_); rintro e w1 ⟨rfl, rfl⟩) | (go_at_call 25; (with_reducible refine (C2.out _).mono ?_); rintro e w1 ⟨rfl, rfl⟩) | (go_at_call 25; (with_reducible refine (C3.out _).mono ?_); rintro e w1 ⟨rfl, rfl⟩) | (go_at_call 25; (with_reducible refine (C4.out _).mono ?_); rintro e w1 ⟨rfl, rfl⟩) | (go_at_call 25; (with_reducible refine (C5.out _).mono ?_); rintro e w1 ⟨rfl, rfl⟩) | (go_at_call 21; (with_reducible refine (K.out _).mono ?_); rintro e w1 ⟨rfl, rfl⟩))
    go_ret
    exact ⟨rfl, Below.refl _ _⟩
  · have K : Hid (∀ W, Calls Try.prog 21 #[.float .f64 a] W fun e w' => e = .returned (.int .i64 0) ∧ w' = W) := fun W => check_ok a W ha hm
    cases hn : FM.may b
    · have L : Hid (∀ W, Calls Try.prog 21 #[.float .f64 b] W fun e w' => e = .returned (.int .i64 1) ∧ w' = W) := fun W => check_no b W hb hn
      clear ha hb hp hq hr hs ht hz hm hn hij
      go_enter Try.func7, Try.ntmps7
      go_wp2_with (first | (go_at_call 10; (with_reducible refine (A.out _).mono ?_); rintro e w1 ⟨rfl, rfl⟩) | (go_at_call 25; (with_reducible refine (C1.out _).mono ?_); rintro e w1 ⟨rfl, rfl⟩) | (go_at_call 25; (with_reducible refine (C2.out _).mono ?_); rintro e w1 ⟨rfl, rfl⟩) | (go_at_call 25; (with_reducible refine (C3.out _).mono ?_); rintro e w1 ⟨rfl, rfl⟩) | (go_at_call 25; (with_reducible refine (C4.out _).mono ?_); rintro e w1 ⟨rfl, rfl⟩) | (go_at_call 25; (with_reducible refine (C5.out _).mono ?_); rintro e w1 ⟨rfl, rfl⟩) | (go_at_call 21; (with_reducible refine (K.out _).mono ?_); rintro e w1 ⟨rfl, rfl⟩) | (go_at_call 21; (with_reducible refine (L.out _).mono ?_); rintro e w1 ⟨rfl, rfl⟩))
      go_ret
      exact ⟨rfl, Below.refl _ _⟩
    · have L : Hid (∀ W, Calls Try.prog 21 #[.float .f64 b] W fun e w' => e = .returned (.int .i64 0) ∧ w' = W) := fun W => check_ok b W hb hn
      replace hij := hij hm hn
      replace hz := hz hm
      have hle := FM.points_le a
      obtain ⟨i, hi⟩ : ∃ i, i = FM.points a := ⟨_, rfl⟩
      obtain ⟨j, hj⟩ : ∃ j, j = FM.points b := ⟨_, rfl⟩
      obtain ⟨z, hzz⟩ : ∃ z, z = cmpW a 0 := ⟨_, rfl⟩
      have P1 : Hid (∀ W, Calls Try.prog 23 #[.float .f64 a] W fun e w' => e = .returned (.int .i64 i) ∧ w' = W) := fun W => by rw [hi]; exact points_any a W ha
      have P2 : Hid (∀ W, Calls Try.prog 23 #[.float .f64 b] W fun e w' => e = .returned (.int .i64 j) ∧ w' = W) := fun W => by rw [hj]; exact points_any b W hb
      have Z : Hid (∀ W, Calls Try.prog 25 #[.float .f64 a, .float .f64 0] W fun e w' => e = .returned (.int .i64 z) ∧ w' = W) := fun W => by rw [hzz]; exact compare_any a 0 W
      rw [← hi, ← hzz] at hz
      rw [← hi] at hle
      rw [← hi, ← hj] at hij
      have hij' : (i : Int) ≤ (j : Int) := by omega
      have hle' : (i : Int) ≤ 256 := by omega
      clear ha hb hp hq hr hs ht hm hn hi hj hzz hle hij
      by_cases h0 : i = 0
      · have z0 := hz.1 h0
        clear hz
        subst h0 z0
        go_enter Try.func7, Try.ntmps7
        go_wp2_with (first | (go_at_call 10; (with_reducible refine (A.out _).mono ?_); rintro e w1 ⟨rfl, rfl⟩) | (go_at_call 25; (with_reducible refine (C1.out _).mono ?_); rintro e w1 ⟨rfl, rfl⟩) | (go_at_call 25; (with_reducible refine (C2.out _).mono ?_); rintro e w1 ⟨rfl, rfl⟩) | (go_at_call 25; (with_reducible refine (C3.out _).mono ?_); rintro e w1 ⟨rfl, rfl⟩) | (go_at_call 25; (with_reducible refine (C4.out _).mono ?_); rintro e w1 ⟨rfl, rfl⟩) | (go_at_call 25; (with_reducible refine (C5.out _).mono ?_); rintro e w1 ⟨rfl, rfl⟩) | (go_at_call 21; (with_reducible refine (K.out _).mono ?_); rintro e w1 ⟨rfl, rfl⟩) | (go_at_call 21; (with_reducible refine (L.out _).mono ?_); rintro e w1 ⟨rfl, rfl⟩) | (go_at_call 23; (with_reducible refine (P1.out _).mono ?_); rintro e w1 ⟨rfl, rfl⟩) | (go_at_call 23; (with_reducible refine (P2.out _).mono ?_); rintro e w1 ⟨rfl, rfl⟩) | (go_at_call 25; (with_reducible refine (Z.out _).mono ?_); rintro e w1 ⟨rfl, rfl⟩))
        go_ret
        exact ⟨rfl, Below.refl _ _⟩
      · have z0 : (z == 0) = false := by rw [beq_eq_false_iff_ne]; exact fun h => h0 (hz.2 h)
        have i0 : ((i : Int) == 0) = false := by rw [beq_eq_false_iff_ne]; omega
        clear hz h0
        go_enter Try.func7, Try.ntmps7
        go_wp2_with (first | (go_at_call 10; (with_reducible refine (A.out _).mono ?_); rintro e w1 ⟨rfl, rfl⟩) | (go_at_call 25; (with_reducible refine (C1.out _).mono ?_); rintro e w1 ⟨rfl, rfl⟩) | (go_at_call 25; (with_reducible refine (C2.out _).mono ?_); rintro e w1 ⟨rfl, rfl⟩) | (go_at_call 25; (with_reducible refine (C3.out _).mono ?_); rintro e w1 ⟨rfl, rfl⟩) | (go_at_call 25; (with_reducible refine (C4.out _).mono ?_); rintro e w1 ⟨rfl, rfl⟩) | (go_at_call 25; (with_reducible refine (C5.out _).mono ?_); rintro e w1 ⟨rfl, rfl⟩) | (go_at_call 21; (with_reducible refine (K.out _).mono ?_); rintro e w1 ⟨rfl, rfl⟩) | (go_at_call 21; (with_reducible refine (L.out _).mono ?_); rintro e w1 ⟨rfl, rfl⟩) | (go_at_call 23; (with_reducible refine (P1.out _).mono ?_); rintro e w1 ⟨rfl, rfl⟩) | (go_at_call 23; (with_reducible refine (P2.out _).mono ?_); rintro e w1 ⟨rfl, rfl⟩) | (go_at_call 25; (with_reducible refine (Z.out _).mono ?_); rintro e w1 ⟨rfl, rfl⟩))
        go_ret
        exact ⟨rfl, Below.refl _ _⟩
set_option maxRecDepth 100000 in
set_option maxHeartbeats 1600000 in
theorem ord_zm (a b c : Nat) (w : World) (ha : a < W64) (hb : b < W64) (hp : cmpW a b = 0) (hq : cmpW b c = -1) (hr : cmpW a c = -1) (hs : cmpW a a = 0) (ht : cmpW b a = 0) (hij : FM.may a = true → FM.may b = true → FM.points a ≤ FM.points b) (hz : FM.may a = true → (FM.points a = 0 ↔ cmpW a 0 = 0)) :
    Calls Try.prog 7 #[.int .u64 a, .int .u64 b, .int .u64 c] w fun e w' => e = .returned (.bool true) ∧ Below w.heap.size w w' := by
  have A : Hid (∀ W, Calls Try.prog 10 #[] W fun e w' => e = .returned (.bool true) ∧ w' = W) := awake_any
  have r1 := from_run a w
  have r2 := from_run b w
  have r3 := from_run c w
  have C1 : Hid (∀ W, Calls Try.prog 25 #[.float .f64 a, .float .f64 b] W fun e w' => e = .returned (.int .i64 0) ∧ w' = W) := fun W => by rw [← hp]; exact compare_any a b W
  have C2 : Hid (∀ W, Calls Try.prog 25 #[.float .f64 b, .float .f64 c] W fun e w' => e = .returned (.int .i64 (-1)) ∧ w' = W) := fun W => by rw [← hq]; exact compare_any b c W
  have C3 : Hid (∀ W, Calls Try.prog 25 #[.float .f64 a, .float .f64 c] W fun e w' => e = .returned (.int .i64 (-1)) ∧ w' = W) := fun W => by rw [← hr]; exact compare_any a c W
  have C4 : Hid (∀ W, Calls Try.prog 25 #[.float .f64 a, .float .f64 a] W fun e w' => e = .returned (.int .i64 0) ∧ w' = W) := fun W => by rw [← hs]; exact compare_any a a W
  have C5 : Hid (∀ W, Calls Try.prog 25 #[.float .f64 b, .float .f64 a] W fun e w' => e = .returned (.int .i64 0) ∧ w' = W) := fun W => by rw [← ht]; exact compare_any b a W
  cases hm : FM.may a
  · have K : Hid (∀ W, Calls Try.prog 21 #[.float .f64 a] W fun e w' => e = .returned (.int .i64 1) ∧ w' = W) := fun W => check_no a W ha hm
    clear ha hb hp hq hr hs ht hz hm hij
    go_enter Try.func7, Try.ntmps7
    go_wp2_with (first | (go_at_call 10; (with_reducible refine (A.out _).mono ?_); rintro e w1 ⟨rfl, rfl⟩) | (go_at_call 25; (with_reducible refine (C1.out _).mono ?_); rintro e w1 ⟨rfl, rfl⟩) | (go_at_call 25; (with_reducible refine (C2.out _).mono ?_); rintro e w1 ⟨rfl, rfl⟩) | (go_at_call 25; (with_reducible refine (C3.out _).mono ?_); rintro e w1 ⟨rfl, rfl⟩) | (go_at_call 25; (with_reducible refine (C4.out _).mono ?_); rintro e w1 ⟨rfl, rfl⟩) | (go_at_call 25; (with_reducible refine (C5.out _).mono ?_); rintro e w1 ⟨rfl, rfl⟩) | (go_at_call 21; (with_reducible refine (K.out _).mono ?_); rintro e w1 ⟨rfl, rfl⟩))
    go_ret
    exact ⟨rfl, Below.refl _ _⟩
  · have K : Hid (∀ W, Calls Try.prog 21 #[.float .f64 a] W fun e w' => e = .returned (.int .i64 0) ∧ w' = W) := fun W => check_ok a W ha hm
    cases hn : FM.may b
    · have L : Hid (∀ W, Calls Try.prog 21 #[.float .f64 b] W fun e w' => e = .returned (.int .i64 1) ∧ w' = W) := fun W => check_no b W hb hn
      clear ha hb hp hq hr hs ht hz hm hn hij
      go_enter Try.func7, Try.ntmps7
      go_wp2_with (first | (go_at_call 10; (with_reducible refine (A.out _).mono ?_); rintro e w1 ⟨rfl, rfl⟩) | (go_at_call 25; (with_reducible refine (C1.out _).mono ?_); rintro e w1 ⟨rfl, rfl⟩) | (go_at_call 25; (with_reducible refine (C2.out _).mono ?_); rintro e w1 ⟨rfl, rfl⟩) | (go_at_call 25; (with_reducible refine (C3.out _).mono ?_); rintro e w1 ⟨rfl, rfl⟩) | (go_at_call 25; (with_reducible refine (C4.out _).mono ?_); rintro e w1 ⟨rfl, rfl⟩) | (go_at_call 25; (with_reducible refine (C5.out _).mono ?_); rintro e w1 ⟨rfl, rfl⟩) | (go_at_call 21; (with_reducible refine (K.out _).mono ?_); rintro e w1 ⟨rfl, rfl⟩) | (go_at_call 21; (with_reducible refine (L.out _).mono ?_); rintro e w1 ⟨rfl, rfl⟩))
      go_ret
      exact ⟨rfl, Below.refl _ _⟩
    · have L : Hid (∀ W, Calls Try.prog 21 #[.float .f64 b] W fun e w' => e = .returned (.int .i64 0) ∧ w' = W) := fun W => check_ok b W hb hn
      replace hij := hij hm hn
      replace hz := hz hm
      have hle := FM.points_le a
      obtain ⟨i, hi⟩ : ∃ i, i = FM.points a := ⟨_, rfl⟩
      obtain ⟨j, hj⟩ : ∃ j, j = FM.points b := ⟨_, rfl⟩
      obtain ⟨z, hzz⟩ : ∃ z, z = cmpW a 0 := ⟨_, rfl⟩
      have P1 : Hid (∀ W, Calls Try.prog 23 #[.float .f64 a] W fun e w' => e = .returned (.int .i64 i) ∧ w' = W) := fun W => by rw [hi]; exact points_any a W ha
      have P2 : Hid (∀ W, Calls Try.prog 23 #[.float .f64 b] W fun e w' => e = .returned (.int .i64 j) ∧ w' = W) := fun W => by rw [hj]; exact points_any b W hb
      have Z : Hid (∀ W, Calls Try.prog 25 #[.float .f64 a, .float .f64 0] W fun e w' => e = .returned (.int .i64 z) ∧ w' = W) := fun W => by rw [hzz]; exact compare_any a 0 W
      rw [← hi, ← hzz] at hz
      rw [← hi] at hle
      rw [← hi, ← hj] at hij
      have hij' : (i : Int) ≤ (j : Int) := by omega
      have hle' : (i : Int) ≤ 256 := by omega
      clear ha hb hp hq hr hs ht hm hn hi hj hzz hle hij
      by_cases h0 : i = 0
      · have z0 := hz.1 h0
        clear hz
        subst h0 z0
        go_enter Try.func7, Try.ntmps7
        go_wp2_with (first | (go_at_call 10; (with_reducible refine (A.out _).mono ?_); rintro e w1 ⟨rfl, rfl⟩) | (go_at_call 25; (with_reducible refine (C1.out _).mono ?_); rintro e w1 ⟨rfl, rfl⟩) | (go_at_call 25; (with_reducible refine (C2.out _).mono ?_); rintro e w1 ⟨rfl, rfl⟩) | (go_at_call 25; (with_reducible refine (C3.out _).mono ?_); rintro e w1 ⟨rfl, rfl⟩) | (go_at_call 25; (with_reducible refine (C4.out _).mono ?_); rintro e w1 ⟨rfl, rfl⟩) | (go_at_call 25; (with_reducible refine (C5.out _).mono ?_); rintro e w1 ⟨rfl, rfl⟩) | (go_at_call 21; (with_reducible refine (K.out _).mono ?_); rintro e w1 ⟨rfl, rfl⟩) | (go_at_call 21; (with_reducible refine (L.out _).mono ?_); rintro e w1 ⟨rfl, rfl⟩) | (go_at_call 23; (with_reducible refine (P1.out _).mono ?_); rintro e w1 ⟨rfl, rfl⟩) | (go_at_call 23; (with_reducible refine (P2.out _).mono ?_); rintro e w1 ⟨rfl, rfl⟩) | (go_at_call 25; (with_reducible refine (Z.out _).mono ?_); rintro e w1 ⟨rfl, rfl⟩))
        go_ret
        exact ⟨rfl, Below.refl _ _⟩
      · have z0 : (z == 0) = false := by rw [beq_eq_false_iff_ne]; exact fun h => h0 (hz.2 h)
        have i0 : ((i : Int) == 0) = false := by rw [beq_eq_false_iff_ne]; omega
        clear hz h0
        go_enter Try.func7, Try.ntmps7
        go_wp2_with (first | (go_at_call 10; (with_reducible refine (A.out _).mono ?_); rintro e w1 ⟨rfl, rfl⟩) | (go_at_call 25; (with_reducible refine (C1.out _).mono ?_); rintro e w1 ⟨rfl, rfl⟩) | (go_at_call 25; (with_reducible refine (C2.out _).mono ?_); rintro e w1 ⟨rfl, rfl⟩) | (go_at_call 25; (with_reducible refine (C3.out _).mono ?_); rintro e w1 ⟨rfl, rfl⟩) | (go_at_call 25; (with_reducible refine (C4.out _).mono ?_); rintro e w1 ⟨rfl, rfl⟩) | (go_at_call 25; (with_reducible refine (C5.out _).mono ?_); rintro e w1 ⟨rfl, rfl⟩) | (go_at_call 21; (with_reducible refine (K.out _).mono ?_); rintro e w1 ⟨rfl, rfl⟩) | (go_at_call 21; (with_reducible refine (L.out _).mono ?_); rintro e w1 ⟨rfl, rfl⟩) | (go_at_call 23; (with_reducible refine (P1.out _).mono ?_); rintro e w1 ⟨rfl, rfl⟩) | (go_at_call 23; (with_reducible refine (P2.out _).mono ?_); rintro e w1 ⟨rfl, rfl⟩) | (go_at_call 25; (with_reducible refine (Z.out _).mono ?_); rintro e w1 ⟨rfl, rfl⟩))
        go_ret
        exact ⟨rfl, Below.refl _ _⟩
set_option maxRecDepth 100000 in
set_option maxHeartbeats 1600000 in
theorem ord_zz (a b c : Nat) (w : World) (ha : a < W64) (hb : b < W64) (hp : cmpW a b = 0) (hq : cmpW b c = 0) (hr : cmpW a c = 0) (hs : cmpW a a = 0) (ht : cmpW b a = 0) (hij : FM.may a = true → FM.may b = true → FM.points a ≤ FM.points b) (hz : FM.may a = true → (FM.points a = 0 ↔ cmpW a 0 = 0)) :
    Calls Try.prog 7 #[.int .u64 a, .int .u64 b, .int .u64 c] w fun e w' => e = .returned (.bool true) ∧ Below w.heap.size w w' := by
  have A : Hid (∀ W, Calls Try.prog 10 #[] W fun e w' => e = .returned (.bool true) ∧ w' = W) := awake_any
  have r1 := from_run a w
  have r2 := from_run b w
  have r3 := from_run c w
  have C1 : Hid (∀ W, Calls Try.prog 25 #[.float .f64 a, .float .f64 b] W fun e w' => e = .returned (.int .i64 0) ∧ w' = W) := fun W => by rw [← hp]; exact compare_any a b W
  have C2 : Hid (∀ W, Calls Try.prog 25 #[.float .f64 b, .float .f64 c] W fun e w' => e = .returned (.int .i64 0) ∧ w' = W) := fun W => by rw [← hq]; exact compare_any b c W
  have C3 : Hid (∀ W, Calls Try.prog 25 #[.float .f64 a, .float .f64 c] W fun e w' => e = .returned (.int .i64 0) ∧ w' = W) := fun W => by rw [← hr]; exact compare_any a c W
  have C4 : Hid (∀ W, Calls Try.prog 25 #[.float .f64 a, .float .f64 a] W fun e w' => e = .returned (.int .i64 0) ∧ w' = W) := fun W => by rw [← hs]; exact compare_any a a W
  have C5 : Hid (∀ W, Calls Try.prog 25 #[.float .f64 b, .float .f64 a] W fun e w' => e = .returned (.int .i64 0) ∧ w' = W) := fun W => by rw [← ht]; exact compare_any b a W
  cases hm : FM.may a
  · have K : Hid (∀ W, Calls Try.prog 21 #[.float .f64 a] W fun e w' => e = .returned (.int .i64 1) ∧ w' = W) := fun W => check_no a W ha hm
    clear ha hb hp hq hr hs ht hz hm hij
    go_enter Try.func7, Try.ntmps7
    go_wp2_with (first | (go_at_call 10; (with_reducible refine (A.out _).mono ?_); rintro e w1 ⟨rfl, rfl⟩) | (go_at_call 25; (with_reducible refine (C1.out _).mono ?_); rintro e w1 ⟨rfl, rfl⟩) | (go_at_call 25; (with_reducible refine (C2.out _).mono ?_); rintro e w1 ⟨rfl, rfl⟩) | (go_at_call 25; (with_reducible refine (C3.out _).mono ?_); rintro e w1 ⟨rfl, rfl⟩) | (go_at_call 25; (with_reducible refine (C4.out _).mono ?_); rintro e w1 ⟨rfl, rfl⟩) | (go_at_call 25; (with_reducible refine (C5.out _).mono ?_); rintro e w1 ⟨rfl, rfl⟩) | (go_at_call 21; (with_reducible refine (K.out _).mono ?_); rintro e w1 ⟨rfl, rfl⟩))
    go_ret
    exact ⟨rfl, Below.refl _ _⟩
  · have K : Hid (∀ W, Calls Try.prog 21 #[.float .f64 a] W fun e w' => e = .returned (.int .i64 0) ∧ w' = W) := fun W => check_ok a W ha hm
    cases hn : FM.may b
    · have L : Hid (∀ W, Calls Try.prog 21 #[.float .f64 b] W fun e w' => e = .returned (.int .i64 1) ∧ w' = W) := fun W => check_no b W hb hn
      clear ha hb hp hq hr hs ht hz hm hn hij
      go_enter Try.func7, Try.ntmps7
      go_wp2_with (first | (go_at_call 10; (with_reducible refine (A.out _).mono ?_); rintro e w1 ⟨rfl, rfl⟩) | (go_at_call 25; (with_reducible refine (C1.out _).mono ?_); rintro e w1 ⟨rfl, rfl⟩) | (go_at_call 25; (with_reducible refine (C2.out _).mono ?_); rintro e w1 ⟨rfl, rfl⟩) | (go_at_call 25; (with_reducible refine (C3.out _).mono ?_); rintro e w1 ⟨rfl, rfl⟩) | (go_at_call 25; (with_reducible refine (C4.out _).mono ?_); rintro e w1 ⟨rfl, rfl⟩) | (go_at_call 25; (with_reducible refine (C5.out _).mono ?_); rintro e w1 ⟨rfl, rfl⟩) | (go_at_call 21; (with_reducible refine (K.out _).mono ?_); rintro e w1 ⟨rfl, rfl⟩) | (go_at_call 21; (with_reducible refine (L.out _).mono ?_); rintro e w1 ⟨rfl, rfl⟩))
      go_ret
      exact ⟨rfl, Below.refl _ _⟩
    · have L : Hid (∀ W, Calls Try.prog 21 #[.float .f64 b] W fun e w' => e = .returned (.int .i64 0) ∧ w' = W) := fun W => check_ok b W hb hn
      replace hij := hij hm hn
      replace hz := hz hm
      have hle := FM.points_le a
      obtain ⟨i, hi⟩ : ∃ i, i = FM.points a := ⟨_, rfl⟩
      obtain ⟨j, hj⟩ : ∃ j, j = FM.points b := ⟨_, rfl⟩
      obtain ⟨z, hzz⟩ : ∃ z, z = cmpW a 0 := ⟨_, rfl⟩
      have P1 : Hid (∀ W, Calls Try.prog 23 #[.float .f64 a] W fun e w' => e = .returned (.int .i64 i) ∧ w' = W) := fun W => by rw [hi]; exact points_any a W ha
      have P2 : Hid (∀ W, Calls Try.prog 23 #[.float .f64 b] W fun e w' => e = .returned (.int .i64 j) ∧ w' = W) := fun W => by rw [hj]; exact points_any b W hb
      have Z : Hid (∀ W, Calls Try.prog 25 #[.float .f64 a, .float .f64 0] W fun e w' => e = .returned (.int .i64 z) ∧ w' = W) := fun W => by rw [hzz]; exact compare_any a 0 W
      rw [← hi, ← hzz] at hz
      rw [← hi] at hle
      rw [← hi, ← hj] at hij
      have hij' : (i : Int) ≤ (j : Int) := by omega
      have hle' : (i : Int) ≤ 256 := by omega
      clear ha hb hp hq hr hs ht hm hn hi hj hzz hle hij
      by_cases h0 : i = 0
      · have z0 := hz.1 h0
        clear hz
        subst h0 z0
        go_enter Try.func7, Try.ntmps7
        go_wp2_with (first | (go_at_call 10; (with_reducible refine (A.out _).mono ?_); rintro e w1 ⟨rfl, rfl⟩) | (go_at_call 25; (with_reducible refine (C1.out _).mono ?_); rintro e w1 ⟨rfl, rfl⟩) | (go_at_call 25; (with_reducible refine (C2.out _).mono ?_); rintro e w1 ⟨rfl, rfl⟩) | (go_at_call 25; (with_reducible refine (C3.out _).mono ?_); rintro e w1 ⟨rfl, rfl⟩) | (go_at_call 25; (with_reducible refine (C4.out _).mono ?_); rintro e w1 ⟨rfl, rfl⟩) | (go_at_call 25; (with_reducible refine (C5.out _).mono ?_); rintro e w1 ⟨rfl, rfl⟩) | (go_at_call 21; (with_reducible refine (K.out _).mono ?_); rintro e w1 ⟨rfl, rfl⟩) | (go_at_call 21; (with_reducible refine (L.out _).mono ?_); rintro e w1 ⟨rfl, rfl⟩) | (go_at_call 23; (with_reducible refine (P1.out _).mono ?_); rintro e w1 ⟨rfl, rfl⟩) | (go_at_call 23; (with_reducible refine (P2.out _).mono ?_); rintro e w1 ⟨rfl, rfl⟩) | (go_at_call 25; (with_reducible refine (Z.out _).mono ?_); rintro e w1 ⟨rfl, rfl⟩))
        go_ret
        exact ⟨rfl, Below.refl _ _⟩
      · have z0 : (z == 0) = false := by rw [beq_eq_false_iff_ne]; exact fun h => h0 (hz.2 h)
        have i0 : ((i : Int) == 0) = false := by rw [beq_eq_false_iff_ne]; omega
        clear hz h0
        go_enter Try.func7, Try.ntmps7
        go_wp2_with (first | (go_at_call 10; (with_reducible refine (A.out _).mono ?_); rintro e w1 ⟨rfl, rfl⟩) | (go_at_call 25; (with_reducible refine (C1.out _).mono ?_); rintro e w1 ⟨rfl, rfl⟩) | (go_at_call 25; (with_reducible refine (C2.out _).mono ?_); rintro e w1 ⟨rfl, rfl⟩) | (go_at_call 25; (with_reducible refine (C3.out _).mono ?_); rintro e w1 ⟨rfl, rfl⟩) | (go_at_call 25; (with_reducible refine (C4.out _).mono ?_); rintro e w1 ⟨rfl, rfl⟩) | (go_at_call 25; (with_reducible refine (C5.out _).mono ?_); rintro e w1 ⟨rfl, rfl⟩) | (go_at_call 21; (with_reducible refine (K.out _).mono ?_); rintro e w1 ⟨rfl, rfl⟩) | (go_at_call 21; (with_reducible refine (L.out _).mono ?_); rintro e w1 ⟨rfl, rfl⟩) | (go_at_call 23; (with_reducible refine (P1.out _).mono ?_); rintro e w1 ⟨rfl, rfl⟩) | (go_at_call 23; (with_reducible refine (P2.out _).mono ?_); rintro e w1 ⟨rfl, rfl⟩) | (go_at_call 25; (with_reducible refine (Z.out _).mono ?_); rintro e w1 ⟨rfl, rfl⟩))
        go_ret
        exact ⟨rfl, Below.refl _ _⟩
set_option maxRecDepth 100000 in
set_option maxHeartbeats 1600000 in
theorem ord_zp (a b c : Nat) (w : World) (ha : a < W64) (hb : b < W64) (hp : cmpW a b = 0) (hq : cmpW b c = 1) (hs : cmpW a a = 0) (ht : cmpW b a = 0) (hij : FM.may a = true → FM.may b = true → FM.points a ≤ FM.points b) (hz : FM.may a = true → (FM.points a = 0 ↔ cmpW a 0 = 0)) :
    Calls Try.prog 7 #[.int .u64 a, .int .u64 b, .int .u64 c] w fun e w' => e = .returned (.bool true) ∧ Below w.heap.size w w' := by
  have A : Hid (∀ W, Calls Try.prog 10 #[] W fun e w' => e = .returned (.bool true) ∧ w' = W) := awake_any
  have r1 := from_run a w
  have r2 := from_run b w
  have r3 := from_run c w
  have C1 : Hid (∀ W, Calls Try.prog 25 #[.float .f64 a, .float .f64 b] W fun e w' => e = .returned (.int .i64 0) ∧ w' = W) := fun W => by rw [← hp]; exact compare_any a b W
  have C2 : Hid (∀ W, Calls Try.prog 25 #[.float .f64 b, .float .f64 c] W fun e w' => e = .returned (.int .i64 1) ∧ w' = W) := fun W => by rw [← hq]; exact compare_any b c W
  obtain ⟨r, hr⟩ : ∃ r, r = cmpW a c := ⟨_, rfl⟩
  have C3 : Hid (∀ W, Calls Try.prog 25 #[.float .f64 a, .float .f64 c] W fun e w' => e = .returned (.int .i64 r) ∧ w' = W) := fun W => by rw [hr]; exact compare_any a c W
  have C4 : Hid (∀ W, Calls Try.prog 25 #[.float .f64 a, .float .f64 a] W fun e w' => e = .returned (.int .i64 0) ∧ w' = W) := fun W => by rw [← hs]; exact compare_any a a W
  have C5 : Hid (∀ W, Calls Try.prog 25 #[.float .f64 b, .float .f64 a] W fun e w' => e = .returned (.int .i64 0) ∧ w' = W) := fun W => by rw [← ht]; exact compare_any b a W
  cases hm : FM.may a
  · have K : Hid (∀ W, Calls Try.prog 21 #[.float .f64 a] W fun e w' => e = .returned (.int .i64 1) ∧ w' = W) := fun W => check_no a W ha hm
    clear ha hb hp hq hr hs ht hz hm hij
    go_enter Try.func7, Try.ntmps7
    go_wp2_with (first | (go_at_call 10; (with_reducible refine (A.out _).mono ?_); rintro e w1 ⟨rfl, rfl⟩) | (go_at_call 25; (with_reducible refine (C1.out _).mono ?_); rintro e w1 ⟨rfl, rfl⟩) | (go_at_call 25; (with_reducible refine (C2.out _).mono ?_); rintro e w1 ⟨rfl, rfl⟩) | (go_at_call 25; (with_reducible refine (C3.out _).mono ?_); rintro e w1 ⟨rfl, rfl⟩) | (go_at_call 25; (with_reducible refine (C4.out _).mono ?_); rintro e w1 ⟨rfl, rfl⟩) | (go_at_call 25; (with_reducible refine (C5.out _).mono ?_); rintro e w1 ⟨rfl, rfl⟩) | (go_at_call 21; (with_reducible refine (K.out _).mono ?_); rintro e w1 ⟨rfl, rfl⟩))
    go_ret
    exact ⟨rfl, Below.refl _ _⟩
  · have K : Hid (∀ W, Calls Try.prog 21 #[.float .f64 a] W fun e w' => e = .returned (.int .i64 0) ∧ w' = W) := fun W => check_ok a W ha hm
    cases hn : FM.may b
    · have L : Hid (∀ W, Calls Try.prog 21 #[.float .f64 b] W fun e w' => e = .returned (.int .i64 1) ∧ w' = W) := fun W => check_no b W hb hn
      clear ha hb hp hq hr hs ht hz hm hn hij
      go_enter Try.func7, Try.ntmps7
      go_wp2_with (first | (go_at_call 10; (with_reducible refine (A.out _).mono ?_); rintro e w1 ⟨rfl, rfl⟩) | (go_at_call 25; (with_reducible refine (C1.out _).mono ?_); rintro e w1 ⟨rfl, rfl⟩) | (go_at_call 25; (with_reducible refine (C2.out _).mono ?_); rintro e w1 ⟨rfl, rfl⟩) | (go_at_call 25; (with_reducible refine (C3.out _).mono ?_); rintro e w1 ⟨rfl, rfl⟩) | (go_at_call 25; (with_reducible refine (C4.out _).mono ?_); rintro e w1 ⟨rfl, rfl⟩) | (go_at_call 25; (with_reducible refine (C5.out _).mono ?_); rintro e w1 ⟨rfl, rfl⟩) | (go_at_call 21; (with_reducible refine (K.out _).mono ?_); rintro e w1 ⟨rfl, rfl⟩) | (go_at_call 21; (with_reducible refine (L.out _).mono ?_); rintro e w1 ⟨rfl, rfl⟩))
      go_ret
      exact ⟨rfl, Below.refl _ _⟩
    · have L : Hid (∀ W, Calls Try.prog 21 #[.float .f64 b] W fun e w' => e = .returned (.int .i64 0) ∧ w' = W) := fun W => check_ok b W hb hn
      replace hij := hij hm hn
      replace hz := hz hm
      have hle := FM.points_le a
      obtain ⟨i, hi⟩ : ∃ i, i = FM.points a := ⟨_, rfl⟩
      obtain ⟨j, hj⟩ : ∃ j, j = FM.points b := ⟨_, rfl⟩
      obtain ⟨z, hzz⟩ : ∃ z, z = cmpW a 0 := ⟨_, rfl⟩
      have P1 : Hid (∀ W, Calls Try.prog 23 #[.float .f64 a] W fun e w' => e = .returned (.int .i64 i) ∧ w' = W) := fun W => by rw [hi]; exact points_any a W ha
      have P2 : Hid (∀ W, Calls Try.prog 23 #[.float .f64 b] W fun e w' => e = .returned (.int .i64 j) ∧ w' = W) := fun W => by rw [hj]; exact points_any b W hb
      have Z : Hid (∀ W, Calls Try.prog 25 #[.float .f64 a, .float .f64 0] W fun e w' => e = .returned (.int .i64 z) ∧ w' = W) := fun W => by rw [hzz]; exact compare_any a 0 W
      rw [← hi, ← hzz] at hz
      rw [← hi] at hle
      rw [← hi, ← hj] at hij
      have hij' : (i : Int) ≤ (j : Int) := by omega
      have hle' : (i : Int) ≤ 256 := by omega
      clear ha hb hp hq hr hs ht hm hn hi hj hzz hle hij
      by_cases h0 : i = 0
      · have z0 := hz.1 h0
        clear hz
        subst h0 z0
        go_enter Try.func7, Try.ntmps7
        go_wp2_with (first | (go_at_call 10; (with_reducible refine (A.out _).mono ?_); rintro e w1 ⟨rfl, rfl⟩) | (go_at_call 25; (with_reducible refine (C1.out _).mono ?_); rintro e w1 ⟨rfl, rfl⟩) | (go_at_call 25; (with_reducible refine (C2.out _).mono ?_); rintro e w1 ⟨rfl, rfl⟩) | (go_at_call 25; (with_reducible refine (C3.out _).mono ?_); rintro e w1 ⟨rfl, rfl⟩) | (go_at_call 25; (with_reducible refine (C4.out _).mono ?_); rintro e w1 ⟨rfl, rfl⟩) | (go_at_call 25; (with_reducible refine (C5.out _).mono ?_); rintro e w1 ⟨rfl, rfl⟩) | (go_at_call 21; (with_reducible refine (K.out _).mono ?_); rintro e w1 ⟨rfl, rfl⟩) | (go_at_call 21; (with_reducible refine (L.out _).mono ?_); rintro e w1 ⟨rfl, rfl⟩) | (go_at_call 23; (with_reducible refine (P1.out _).mono ?_); rintro e w1 ⟨rfl, rfl⟩) | (go_at_call 23; (with_reducible refine (P2.out _).mono ?_); rintro e w1 ⟨rfl, rfl⟩) | (go_at_call 25; (with_reducible refine (Z.out _).mono ?_); rintro e w1 ⟨rfl, rfl⟩))
        go_ret
        exact ⟨rfl, Below.refl _ _⟩
      · have z0 : (z == 0) = false := by rw [beq_eq_false_iff_ne]; exact fun h => h0 (hz.2 h)
        have i0 : ((i : Int) == 0) = false := by rw [beq_eq_false_iff_ne]; omega
        clear hz h0
        go_enter Try.func7, Try.ntmps7
        go_wp2_with (first | (go_at_call 10; (with_reducible refine (A.out _).mono ?_); rintro e w1 ⟨rfl, rfl⟩) | (go_at_call 25; (with_reducible refine (C1.out _).mono ?_); rintro e w1 ⟨rfl, rfl⟩) | (go_at_call 25; (with_reducible refine (C2.out _).mono ?_); rintro e w1 ⟨rfl, rfl⟩) | (go_at_call 25; (with_reducible refine (C3.out _).mono ?_); rintro e w1 ⟨rfl, rfl⟩) | (go_at_call 25; (with_reducible refine (C4.out _).mono ?_); rintro e w1 ⟨rfl, rfl⟩) | (go_at_call 25; (with_reducible refine (C5.out _).mono ?_); rintro e w1 ⟨rfl, rfl⟩) | (go_at_call 21; (with_reducible refine (K.out _).mono ?_); rintro e w1 ⟨rfl, rfl⟩) | (go_at_call 21; (with_reducible refine (L.out _).mono ?_); rintro e w1 ⟨rfl, rfl⟩) | (go_at_call 23; (with_reducible refine (P1.out _).mono ?_); rintro e w1 ⟨rfl, rfl⟩) | (go_at_call 23; (with_reducible refine (P2.out _).mono ?_); rintro e w1 ⟨rfl, rfl⟩) | (go_at_call 25; (with_reducible refine (Z.out _).mono ?_); rintro e w1 ⟨rfl, rfl⟩))
        go_ret
        exact ⟨rfl, Below.refl _ _⟩
set_option maxRecDepth 100000 in
set_option maxHeartbeats 1600000 in
theorem ord_pm (a b c : Nat) (w : World) (ha : a < W64) (hb : b < W64) (hp : cmpW a b = 1) (hq : cmpW b c = -1) (hs : cmpW a a = 0) (ht : cmpW b a = -1) (hz : FM.may a = true → (FM.points a = 0 ↔ cmpW a 0 = 0)) :
    Calls Try.prog 7 #[.int .u64 a, .int .u64 b, .int .u64 c] w fun e w' => e = .returned (.bool true) ∧ Below w.heap.size w w' := by
  have A : Hid (∀ W, Calls Try.prog 10 #[] W fun e w' => e = .returned (.bool true) ∧ w' = W) := awake_any
  have r1 := from_run a w
  have r2 := from_run b w
  have r3 := from_run c w
  have C1 : Hid (∀ W, Calls Try.prog 25 #[.float .f64 a, .float .f64 b] W fun e w' => e = .returned (.int .i64 1) ∧ w' = W) := fun W => by rw [← hp]; exact compare_any a b W
  have C2 : Hid (∀ W, Calls Try.prog 25 #[.float .f64 b, .float .f64 c] W fun e w' => e = .returned (.int .i64 (-1)) ∧ w' = W) := fun W => by rw [← hq]; exact compare_any b c W
  obtain ⟨r, hr⟩ : ∃ r, r = cmpW a c := ⟨_, rfl⟩
  have C3 : Hid (∀ W, Calls Try.prog 25 #[.float .f64 a, .float .f64 c] W fun e w' => e = .returned (.int .i64 r) ∧ w' = W) := fun W => by rw [hr]; exact compare_any a c W
  have C4 : Hid (∀ W, Calls Try.prog 25 #[.float .f64 a, .float .f64 a] W fun e w' => e = .returned (.int .i64 0) ∧ w' = W) := fun W => by rw [← hs]; exact compare_any a a W
  have C5 : Hid (∀ W, Calls Try.prog 25 #[.float .f64 b, .float .f64 a] W fun e w' => e = .returned (.int .i64 (-1)) ∧ w' = W) := fun W => by rw [← ht]; exact compare_any b a W
  cases hm : FM.may a
  · have K : Hid (∀ W, Calls Try.prog 21 #[.float .f64 a] W fun e w' => e = .returned (.int .i64 1) ∧ w' = W) := fun W => check_no a W ha hm
    clear ha hb hp hq hr hs ht hz hm
    go_enter Try.func7, Try.ntmps7
    go_wp2_with (first | (go_at_call 10; (with_reducible refine (A.out _).mono ?_); rintro e w1 ⟨rfl, rfl⟩) | (go_at_call 25; (with_reducible refine (C1.out _).mono ?_); rintro e w1 ⟨rfl, rfl⟩) | (go_at_call 25; (with_reducible refine (C2.out _).mono ?_); rintro e w1 ⟨rfl, rfl⟩) | (go_at_call 25; (with_reducible refine (C3.out _).mono ?_); rintro e w1 ⟨rfl, rfl⟩) | (go_at_call 25; (with_reducible refine (C4.out _).mono ?_); rintro e w1 ⟨rfl, rfl⟩) | (go_at_call 25; (with_reducible refine (C5.out _).mono ?_); rintro e w1 ⟨rfl, rfl⟩) | (go_at_call 21; (with_reducible refine (K.out _).mono ?_); rintro e w1 ⟨rfl, rfl⟩))
    go_ret
    exact ⟨rfl, Below.refl _ _⟩
  · have K : Hid (∀ W, Calls Try.prog 21 #[.float .f64 a] W fun e w' => e = .returned (.int .i64 0) ∧ w' = W) := fun W => check_ok a W ha hm
    cases hn : FM.may b
    · have L : Hid (∀ W, Calls Try.prog 21 #[.float .f64 b] W fun e w' => e = .returned (.int .i64 1) ∧ w' = W) := fun W => check_no b W hb hn
      clear ha hb hp hq hr hs ht hz hm hn
      go_enter Try.func7, Try.ntmps7
      go_wp2_with (first | (go_at_call 10; (with_reducible refine (A.out _).mono ?_); rintro e w1 ⟨rfl, rfl⟩) | (go_at_call 25; (with_reducible refine (C1.out _).mono ?_); rintro e w1 ⟨rfl, rfl⟩) | (go_at_call 25; (with_reducible refine (C2.out _).mono ?_); rintro e w1 ⟨rfl, rfl⟩) | (go_at_call 25; (with_reducible refine (C3.out _).mono ?_); rintro e w1 ⟨rfl, rfl⟩) | (go_at_call 25; (with_reducible refine (C4.out _).mono ?_); rintro e w1 ⟨rfl, rfl⟩) | (go_at_call 25; (with_reducible refine (C5.out _).mono ?_); rintro e w1 ⟨rfl, rfl⟩) | (go_at_call 21; (with_reducible refine (K.out _).mono ?_); rintro e w1 ⟨rfl, rfl⟩) | (go_at_call 21; (with_reducible refine (L.out _).mono ?_); rintro e w1 ⟨rfl, rfl⟩))
      go_ret
      exact ⟨rfl, Below.refl _ _⟩
    · have L : Hid (∀ W, Calls Try.prog 21 #[.float .f64 b] W fun e w' => e = .returned (.int .i64 0) ∧ w' = W) := fun W => check_ok b W hb hn
      replace hz := hz hm
      have hle := FM.points_le a
      obtain ⟨i, hi⟩ : ∃ i, i = FM.points a := ⟨_, rfl⟩
      obtain ⟨j, hj⟩ : ∃ j, j = FM.points b := ⟨_, rfl⟩
      obtain ⟨z, hzz⟩ : ∃ z, z = cmpW a 0 := ⟨_, rfl⟩
      have P1 : Hid (∀ W, Calls Try.prog 23 #[.float .f64 a] W fun e w' => e = .returned (.int .i64 i) ∧ w' = W) := fun W => by rw [hi]; exact points_any a W ha
      have P2 : Hid (∀ W, Calls Try.prog 23 #[.float .f64 b] W fun e w' => e = .returned (.int .i64 j) ∧ w' = W) := fun W => by rw [hj]; exact points_any b W hb
      have Z : Hid (∀ W, Calls Try.prog 25 #[.float .f64 a, .float .f64 0] W fun e w' => e = .returned (.int .i64 z) ∧ w' = W) := fun W => by rw [hzz]; exact compare_any a 0 W
      rw [← hi, ← hzz] at hz
      rw [← hi] at hle
      have hle' : (i : Int) ≤ 256 := by omega
      clear ha hb hp hq hr hs ht hm hn hi hj hzz hle
      by_cases h0 : i = 0
      · have z0 := hz.1 h0
        clear hz
        subst h0 z0
        go_enter Try.func7, Try.ntmps7
        go_wp2_with (first | (go_at_call 10; (with_reducible refine (A.out _).mono ?_); rintro e w1 ⟨rfl, rfl⟩) | (go_at_call 25; (with_reducible refine (C1.out _).mono ?_); rintro e w1 ⟨rfl, rfl⟩) | (go_at_call 25; (with_reducible refine (C2.out _).mono ?_); rintro e w1 ⟨rfl, rfl⟩) | (go_at_call 25; (with_reducible refine (C3.out _).mono ?_); rintro e w1 ⟨rfl, rfl⟩) | (go_at_call 25; (with_reducible refine (C4.out _).mono ?_); rintro e w1 ⟨rfl, rfl⟩) | (go_at_call 25; (with_reducible refine (C5.out _).mono ?_); rintro e w1 ⟨rfl, rfl⟩) | (go_at_call 21; (with_reducible refine (K.out _).mono ?_); rintro e w1 ⟨rfl, rfl⟩) | (go_at_call 21; (with_reducible refine (L.out _).mono ?_); rintro e w1 ⟨rfl, rfl⟩) | (go_at_call 23; (with_reducible refine (P1.out _).mono ?_); rintro e w1 ⟨rfl, rfl⟩) | (go_at_call 23; (with_reducible refine (P2.out _).mono ?_); rintro e w1 ⟨rfl, rfl⟩) | (go_at_call 25; (with_reducible refine (Z.out _).mono ?_); rintro e w1 ⟨rfl, rfl⟩))
        go_ret
        exact ⟨rfl, Below.refl _ _⟩
      · have z0 : (z == 0) = false := by rw [beq_eq_false_iff_ne]; exact fun h => h0 (hz.2 h)
        have i0 : ((i : Int) == 0) = false := by rw [beq_eq_false_iff_ne]; omega
        clear hz h0
        go_enter Try.func7, Try.ntmps7
        go_wp2_with (first | (go_at_call 10; (with_reducible refine (A.out _).mono ?_); rintro e w1 ⟨rfl, rfl⟩) | (go_at_call 25; (with_reducible refine (C1.out _).mono ?_); rintro e w1 ⟨rfl, rfl⟩) | (go_at_call 25; (with_reducible refine (C2.out _).mono ?_); rintro e w1 ⟨rfl, rfl⟩) | (go_at_call 25; (with_reducible refine (C3.out _).mono ?_); rintro e w1 ⟨rfl, rfl⟩) | (go_at_call 25; (with_reducible refine (C4.out _).mono ?_); rintro e w1 ⟨rfl, rfl⟩) | (go_at_call 25; (with_reducible refine (C5.out _).mono ?_); rintro e w1 ⟨rfl, rfl⟩) | (go_at_call 21; (with_reducible refine (K.out _).mono ?_); rintro e w1 ⟨rfl, rfl⟩) | (go_at_call 21; (with_reducible refine (L.out _).mono ?_); rintro e w1 ⟨rfl, rfl⟩) | (go_at_call 23; (with_reducible refine (P1.out _).mono ?_); rintro e w1 ⟨rfl, rfl⟩) | (go_at_call 23; (with_reducible refine (P2.out _).mono ?_); rintro e w1 ⟨rfl, rfl⟩) | (go_at_call 25; (with_reducible refine (Z.out _).mono ?_); rintro e w1 ⟨rfl, rfl⟩))
        go_ret
        exact ⟨rfl, Below.refl _ _⟩
set_option maxRecDepth 100000 in
set_option maxHeartbeats 1600000 in
theorem ord_pz (a b c : Nat) (w : World) (ha : a < W64) (hb : b < W64) (hp : cmpW a b = 1) (hq : cmpW b c = 0) (hs : cmpW a a = 0) (ht : cmpW b a = -1) (hz : FM.may a = true → (FM.points a = 0 ↔ cmpW a 0 = 0)) :
    Calls Try.prog 7 #[.int .u64 a, .int .u64 b, .int .u64 c] w fun e w' => e = .returned (.bool true) ∧ Below w.heap.size w w' := by
  have A : Hid (∀ W, Calls Try.prog 10 #[] W fun e w' => e = .returned (.bool true) ∧ w' = W) := awake_any
  have r1 := from_run a w
  have r2 := from_run b w
  have r3 := from_run c w
  have C1 : Hid (∀ W, Calls Try.prog 25 #[.float .f64 a, .float .f64 b] W fun e w' => e = .returned (.int .i64 1) ∧ w' = W) := fun W => by rw [← hp]; exact compare_any a b W
  have C2 : Hid (∀ W, Calls Try.prog 25 #[.float .f64 b, .float .f64 c] W fun e w' => e = .returned (.int .i64 0) ∧ w' = W) := fun W => by rw [← hq]; exact compare_any b c W
  obtain ⟨r, hr⟩ : ∃ r, r = cmpW a c := ⟨_, rfl⟩
  have C3 : Hid (∀ W, Calls Try.prog 25 #[.float .f64 a, .float .f64 c] W fun e w' => e = .returned (.int .i64 r) ∧ w' = W) := fun W => by rw [hr]; exact compare_any a c W
  have C4 : Hid (∀ W, Calls Try.prog 25 #[.float .f64 a, .float .f64 a] W fun e w' => e = .returned (.int .i64 0) ∧ w' = W) := fun W => by rw [← hs]; exact compare_any a a W
  have C5 : Hid (∀ W, Calls Try.prog 25 #[.float .f64 b, .float .f64 a] W fun e w' => e = .returned (.int .i64 (-1)) ∧ w' = W) := fun W => by rw [← ht]; exact compare_any b a W
  cases hm : FM.may a
  · have K : Hid (∀ W, Calls Try.prog 21 #[.float .f64 a] W fun e w' => e = .returned (.int .i64 1) ∧ w' = W) := fun W => check_no a W ha hm
    clear ha hb hp hq hr hs ht hz hm
    go_enter Try.func7, Try.ntmps7
    go_wp2_with (first | (go_at_call 10; (with_reducible refine (A.out _).mono ?_); rintro e w1 ⟨rfl, rfl⟩) | (go_at_call 25; (with_reducible refine (C1.out _).mono ?_); rintro e w1 ⟨rfl, rfl⟩) | (go_at_call 25; (with_reducible refine (C2.out _).mono ?_); rintro e w1 ⟨rfl, rfl⟩) | (go_at_call 25; (with_reducible refine (C3.out _).mono ?_); rintro e w1 ⟨rfl, rfl⟩) | (go_at_call 25; (with_reducible refine (C4.out _).mono ?_); rintro e w1 ⟨rfl, rfl⟩) | (go_at_call 25; (with_reducible refine (C5.out _).mono ?_); rintro e w1 ⟨rfl, rfl⟩) | (go_at_call 21; (with_reducible refine (K.out _).mono ?_); rintro e w1 ⟨rfl, rfl⟩))
    go_ret
    exact ⟨rfl, Below.refl _ _⟩
  · have K : Hid (∀ W, Calls Try.prog 21 #[.float .f64 a] W fun e w' => e = .returned (.int .i64 0) ∧ w' = W) := fun W => check_ok a W ha hm
    cases hn : FM.may b
    · have L : Hid (∀ W, Calls Try.prog 21 #[.float .f64 b] W fun e w' => e = .returned (.int .i64 1) ∧ w' = W) := fun W => check_no b W hb hn
      clear ha hb hp hq hr hs ht hz hm hn
      go_enter Try.func7, Try.ntmps7
      go_wp2_with (first | (go_at_call 10; (with_reducible refine (A.out _).mono ?_); rintro e w1 ⟨rfl, rfl⟩) | (go_at_call 25; (with_reducible refine (C1.out _).mono ?_); rintro e w1 ⟨rfl, rfl⟩) | (go_at_call 25; (with_reducible refine (C2.out _).mono ?_); rintro e w1 ⟨rfl, rfl⟩) | (go_at_call 25; (with_reducible refine (C3.out _).mono ?_); rintro e w1 ⟨rfl, rfl⟩) | (go_at_call 25; (with_reducible refine (C4.out _).mono ?_); rintro e w1 ⟨rfl, rfl⟩) | (go_at_call 25; (with_reducible refine (C5.out _).mono ?_); rintro e w1 ⟨rfl, rfl⟩) | (go_at_call 21; (with_reducible refine (K.out _).mono ?_); rintro e w1 ⟨rfl, rfl⟩) | (go_at_call 21; (with_reducible refine (L.out _).mono ?_); rintro e w1 ⟨rfl, rfl⟩))
      go_ret
      exact ⟨rfl, Below.refl _ _⟩
    · have L : Hid (∀ W, Calls Try.prog 21 #[.float .f64 b] W fun e w' => e = .returned (.int .i64 0) ∧ w' = W) := fun W => check_ok b W hb hn
      replace hz := hz hm
      have hle := FM.points_le a
      obtain ⟨i, hi⟩ : ∃ i, i = FM.points a := ⟨_, rfl⟩
      obtain ⟨j, hj⟩ : ∃ j, j = FM.points b := ⟨_, rfl⟩
      obtain ⟨z, hzz⟩ : ∃ z, z = cmpW a 0 := ⟨_, rfl⟩
      have P1 : Hid (∀ W, Calls Try.prog 23 #[.float .f64 a] W fun e w' => e = .returned (.int .i64 i) ∧ w' = W) := fun W => by rw [hi]; exact points_any a W ha
      have P2 : Hid (∀ W, Calls Try.prog 23 #[.float .f64 b] W fun e w' => e = .returned (.int .i64 j) ∧ w' = W) := fun W => by rw [hj]; exact points_any b W hb
      have Z : Hid (∀ W, Calls Try.prog 25 #[.float .f64 a, .float .f64 0] W fun e w' => e = .returned (.int .i64 z) ∧ w' = W) := fun W => by rw [hzz]; exact compare_any a 0 W
      rw [← hi, ← hzz] at hz
      rw [← hi] at hle
      have hle' : (i : Int) ≤ 256 := by omega
      clear ha hb hp hq hr hs ht hm hn hi hj hzz hle
      by_cases h0 : i = 0
      · have z0 := hz.1 h0
        clear hz
        subst h0 z0
        go_enter Try.func7, Try.ntmps7
        go_wp2_with (first | (go_at_call 10; (with_reducible refine (A.out _).mono ?_); rintro e w1 ⟨rfl, rfl⟩) | (go_at_call 25; (with_reducible refine (C1.out _).mono ?_); rintro e w1 ⟨rfl, rfl⟩) | (go_at_call 25; (with_reducible refine (C2.out _).mono ?_); rintro e w1 ⟨rfl, rfl⟩) | (go_at_call 25; (with_reducible refine (C3.out _).mono ?_); rintro e w1 ⟨rfl, rfl⟩) | (go_at_call 25; (with_reducible refine (C4.out _).mono ?_); rintro e w1 ⟨rfl, rfl⟩) | (go_at_call 25; (with_reducible refine (C5.out _).mono ?_); rintro e w1 ⟨rfl, rfl⟩) | (go_at_call 21; (with_reducible refine (K.out _).mono ?_); rintro e w1 ⟨rfl, rfl⟩) | (go_at_call 21; (with_reducible refine (L.out _).mono ?_); rintro e w1 ⟨rfl, rfl⟩) | (go_at_call 23; (with_reducible refine (P1.out _).mono ?_); rintro e w1 ⟨rfl, rfl⟩) | (go_at_call 23; (with_reducible refine (P2.out _).mono ?_); rintro e w1 ⟨rfl, rfl⟩) | (go_at_call 25; (with_reducible refine (Z.out _).mono ?_); rintro e w1 ⟨rfl, rfl⟩))
        go_ret
        exact ⟨rfl, Below.refl _ _⟩
      · have z0 : (z == 0) = false := by rw [beq_eq_false_iff_ne]; exact fun h => h0 (hz.2 h)
        have i0 : ((i : Int) == 0) = false := by rw [beq_eq_false_iff_ne]; omega
        clear hz h0
        go_enter Try.func7, Try.ntmps7
        go_wp2_with (first | (go_at_call 10; (with_reducible refine (A.out _).mono ?_); rintro e w1 ⟨rfl, rfl⟩) | (go_at_call 25; (with_reducible refine (C1.out _).mono ?_); rintro e w1 ⟨rfl, rfl⟩) | (go_at_call 25; (with_reducible refine (C2.out _).mono ?_); rintro e w1 ⟨rfl, rfl⟩) | (go_at_call 25; (with_reducible refine (C3.out _).mono ?_); rintro e w1 ⟨rfl, rfl⟩) | (go_at_call 25; (with_reducible refine (C4.out _).mono ?_); rintro e w1 ⟨rfl, rfl⟩) | (go_at_call 25; (with_reducible refine (C5.out _).mono ?_); rintro e w1 ⟨rfl, rfl⟩) | (go_at_call 21; (with_reducible refine (K.out _).mono ?_); rintro e w1 ⟨rfl, rfl⟩) | (go_at_call 21; (with_reducible refine (L.out _).mono ?_); rintro e w1 ⟨rfl, rfl⟩) | (go_at_call 23; (with_reducible refine (P1.out _).mono ?_); rintro e w1 ⟨rfl, rfl⟩) | (go_at_call 23; (with_reducible refine (P2.out _).mono ?_); rintro e w1 ⟨rfl, rfl⟩) | (go_at_call 25; (with_reducible refine (Z.out _).mono ?_); rintro e w1 ⟨rfl, rfl⟩))
        go_ret
        exact ⟨rfl, Below.refl _ _⟩
set_option maxRecDepth 100000 in
set_option maxHeartbeats 1600000 in
theorem ord_pp (a b c : Nat) (w : World) (ha : a < W64) (hb : b < W64) (hp : cmpW a b = 1) (hq : cmpW b c = 1) (hs : cmpW a a = 0) (ht : cmpW b a = -1) (hz : FM.may a = true → (FM.points a = 0 ↔ cmpW a 0 = 0)) :
    Calls Try.prog 7 #[.int .u64 a, .int .u64 b, .int .u64 c] w fun e w' => e = .returned (.bool true) ∧ Below w.heap.size w w' := by
  have A : Hid (∀ W, Calls Try.prog 10 #[] W fun e w' => e = .returned (.bool true) ∧ w' = W) := awake_any
  have r1 := from_run a w
  have r2 := from_run b w
  have r3 := from_run c w
  have C1 : Hid (∀ W, Calls Try.prog 25 #[.float .f64 a, .float .f64 b] W fun e w' => e = .returned (.int .i64 1) ∧ w' = W) := fun W => by rw [← hp]; exact compare_any a b W
  have C2 : Hid (∀ W, Calls Try.prog 25 #[.float .f64 b, .float .f64 c] W fun e w' => e = .returned (.int .i64 1) ∧ w' = W) := fun W => by rw [← hq]; exact compare_any b c W
  obtain ⟨r, hr⟩ : ∃ r, r = cmpW a c := ⟨_, rfl⟩
  have C3 : Hid (∀ W, Calls Try.prog 25 #[.float .f64 a, .float .f64 c] W fun e w' => e = .returned (.int .i64 r) ∧ w' = W) := fun W => by rw [hr]; exact compare_any a c W
  have C4 : Hid (∀ W, Calls Try.prog 25 #[.float .f64 a, .float .f64 a] W fun e w' => e = .returned (.int .i64 0) ∧ w' = W) := fun W => by rw [← hs]; exact compare_any a a W
  have C5 : Hid (∀ W, Calls Try.prog 25 #[.float .f64 b, .float .f64 a] W fun e w' => e = .returned (.int .i64 (-1)) ∧ w' = W) := fun W => by rw [← ht]; exact compare_any b a W
  cases hm : FM.may a
  · have K : Hid (∀ W, Calls Try.prog 21 #[.float .f64 a] W fun e w' => e = .returned (.int .i64 1) ∧ w' = W) := fun W => check_no a W ha hm
    clear ha hb hp hq hr hs ht hz hm
    go_enter Try.func7, Try.ntmps7
    go_wp2_with (first | (go_at_call 10; (with_reducible refine (A.out _).mono ?_); rintro e w1 ⟨rfl, rfl⟩) | (go_at_call 25; (with_reducible refine (C1.out _).mono ?_); rintro e w1 ⟨rfl, rfl⟩) | (go_at_call 25; (with_reducible refine (C2.out _).mono ?_); rintro e w1 ⟨rfl, rfl⟩) | (go_at_call 25; (with_reducible refine (C3.out _).mono ?_); rintro e w1 ⟨rfl, rfl⟩) | (go_at_call 25; (with_reducible refine (C4.out _).mono ?_); rintro e w1 ⟨rfl, rfl⟩) | (go_at_call 25; (with_reducible refine (C5.out _).mono ?_); rintro e w1 ⟨rfl, rfl⟩) | (go_at_call 21; (with_reducible refine (K.out _).mono ?_); rintro e w1 ⟨rfl, rfl⟩))
    go_ret
    exact ⟨rfl, Below.refl _ _⟩
  · have K : Hid (∀ W, Calls Try.prog 21 #[.float .f64 a] W fun e w' => e = .returned (.int .i64 0) ∧ w' = W) := fun W => check_ok a W ha hm
    cases hn : FM.may b
    · have L : Hid (∀ W, Calls Try.prog 21 #[.float .f64 b] W fun e w' => e = .returned (.int .i64 1) ∧ w' = W) := fun W => check_no b W hb hn
      clear ha hb hp hq hr hs ht hz hm hn
      go_enter Try.func7, Try.ntmps7
      go_wp2_with (first | (go_at_call 10; (with_reducible refine (A.out _).mono ?_); rintro e w1 ⟨rfl, rfl⟩) | (go_at_call 25; (with_reducible refine (C1.out _).mono ?_); rintro e w1 ⟨rfl, rfl⟩) | (go_at_call 25; (with_reducible refine (C2.out _).mono ?_); rintro e w1 ⟨rfl, rfl⟩) | (go_at_call 25; (with_reducible refine (C3.out _).mono ?_); rintro e w1 ⟨rfl, rfl⟩) | (go_at_call 25; (with_reducible refine (C4.out _).mono ?_); rintro e w1 ⟨rfl, rfl⟩) | (go_at_call 25; (with_reducible refine (C5.out _).mono ?_); rintro e w1 ⟨rfl, rfl⟩) | (go_at_call 21; (with_reducible refine (K.out _).mono ?_); rintro e w1 ⟨rfl, rfl⟩) | (go_at_call 21; (with_reducible refine (L.out _).mono ?_); rintro e w1 ⟨rfl, rfl⟩))
      go_ret
      exact ⟨rfl, Below.refl _ _⟩
    · have L : Hid (∀ W, Calls Try.prog 21 #[.float .f64 b] W fun e w' => e = .returned (.int .i64 0) ∧ w' = W) := fun W => check_ok b W hb hn
      replace hz := hz hm
      have hle := FM.points_le a
      obtain ⟨i, hi⟩ : ∃ i, i = FM.points a := ⟨_, rfl⟩
      obtain ⟨j, hj⟩ : ∃ j, j = FM.points b := ⟨_, rfl⟩
      obtain ⟨z, hzz⟩ : ∃ z, z = cmpW a 0 := ⟨_, rfl⟩
      have P1 : Hid (∀ W, Calls Try.prog 23 #[.float .f64 a] W fun e w' => e = .returned (.int .i64 i) ∧ w' = W) := fun W => by rw [hi]; exact points_any a W ha
      have P2 : Hid (∀ W, Calls Try.prog 23 #[.float .f64 b] W fun e w' => e = .returned (.int .i64 j) ∧ w' = W) := fun W => by rw [hj]; exact points_any b W hb
      have Z : Hid (∀ W, Calls Try.prog 25 #[.float .f64 a, .float .f64 0] W fun e w' => e = .returned (.int .i64 z) ∧ w' = W) := fun W => by rw [hzz]; exact compare_any a 0 W
      rw [← hi, ← hzz] at hz
      rw [← hi] at hle
      have hle' : (i : Int) ≤ 256 := by omega
      clear ha hb hp hq hr hs ht hm hn hi hj hzz hle
      by_cases h0 : i = 0
      · have z0 := hz.1 h0
        clear hz
        subst h0 z0
        go_enter Try.func7, Try.ntmps7
        go_wp2_with (first | (go_at_call 10; (with_reducible refine (A.out _).mono ?_); rintro e w1 ⟨rfl, rfl⟩) | (go_at_call 25; (with_reducible refine (C1.out _).mono ?_); rintro e w1 ⟨rfl, rfl⟩) | (go_at_call 25; (with_reducible refine (C2.out _).mono ?_); rintro e w1 ⟨rfl, rfl⟩) | (go_at_call 25; (with_reducible refine (C3.out _).mono ?_); rintro e w1 ⟨rfl, rfl⟩) | (go_at_call 25; (with_reducible refine (C4.out _).mono ?_); rintro e w1 ⟨rfl, rfl⟩) | (go_at_call 25; (with_reducible refine (C5.out _).mono ?_); rintro e w1 ⟨rfl, rfl⟩) | (go_at_call 21; (with_reducible refine (K.out _).mono ?_); rintro e w1 ⟨rfl, rfl⟩) | (go_at_call 21; (with_reducible refine (L.out _).mono ?_); rintro e w1 ⟨rfl, rfl⟩) | (go_at_call 23; (with_reducible refine (P1.out _).mono ?_); rintro e w1 ⟨rfl, rfl⟩) | (go_at_call 23; (with_reducible refine (P2.out _).mono ?_); rintro e w1 ⟨rfl, rfl⟩) | (go_at_call 25; (with_reducible refine (Z.out _).mono ?_); rintro e w1 ⟨rfl, rfl⟩))
        go_ret
        exact ⟨rfl, Below.refl _ _⟩
      · have z0 : (z == 0) = false := by rw [beq_eq_false_iff_ne]; exact fun h => h0 (hz.2 h)
        have i0 : ((i : Int) == 0) = false := by rw [beq_eq_false_iff_ne]; omega
        clear hz h0
        go_enter Try.func7, Try.ntmps7
        go_wp2_with (first | (go_at_call 10; (with_reducible refine (A.out _).mono ?_); rintro e w1 ⟨rfl, rfl⟩) | (go_at_call 25; (with_reducible refine (C1.out _).mono ?_); rintro e w1 ⟨rfl, rfl⟩) | (go_at_call 25; (with_reducible refine (C2.out _).mono ?_); rintro e w1 ⟨rfl, rfl⟩) | (go_at_call 25; (with_reducible refine (C3.out _).mono ?_); rintro e w1 ⟨rfl, rfl⟩) | (go_at_call 25; (with_reducible refine (C4.out _).mono ?_); rintro e w1 ⟨rfl, rfl⟩) | (go_at_call 25; (with_reducible refine (C5.out _).mono ?_); rintro e w1 ⟨rfl, rfl⟩) | (go_at_call 21; (with_reducible refine (K.out _).mono ?_); rintro e w1 ⟨rfl, rfl⟩) | (go_at_call 21; (with_reducible refine (L.out _).mono ?_); rintro e w1 ⟨rfl, rfl⟩) | (go_at_call 23; (with_reducible refine (P1.out _).mono ?_); rintro e w1 ⟨rfl, rfl⟩) | (go_at_call 23; (with_reducible refine (P2.out _).mono ?_); rintro e w1 ⟨rfl, rfl⟩) | (go_at_call 25; (with_reducible refine (Z.out _).mono ?_); rintro e w1 ⟨rfl, rfl⟩))
        go_ret
        exact ⟨rfl, Below.refl _ _⟩
theorem cmp_vals (a b : Nat) : cmpW a b = -1 ∨ cmpW a b = 0 ∨ cmpW a b = 1 := by
  rw [cmpW_rk]; split
  · exact .inl rfl
  · split
    · exact .inr (.inr rfl)
    · exact .inr (.inl rfl)
theorem cmp_self (a : Nat) : cmpW a a = 0 := by rw [cmpW_rk, if_neg (by omega), if_neg (by omega)]
theorem cmp_rev (a b : Nat) : cmpW b a = -cmpW a b := by
  rw [cmpW_rk, cmpW_rk]
  rcases Int.lt_trichotomy (rk a) (rk b) with h | h | h
  · rw [if_neg (by omega), if_pos h, if_pos h]; rfl
  · rw [if_neg (by omega), if_neg (by omega), if_neg (by omega), if_neg (by omega)]; rfl
  · rw [if_pos h, if_neg (by omega), if_pos h]
theorem cmp_le (a b : Nat) : cmpW a b ≤ 0 ↔ rk a ≤ rk b := by
  rw [cmpW_rk]
  rcases Int.lt_trichotomy (rk a) (rk b) with h | h | h
  · rw [if_pos h]; omega
  · rw [if_neg (by omega), if_neg (by omega)]; omega
  · rw [if_neg (by omega), if_pos h]; omega
theorem cmp_zero (a b : Nat) : cmpW a b = 0 ↔ rk a = rk b := by
  rw [cmpW_rk]
  rcases Int.lt_trichotomy (rk a) (rk b) with h | h | h
  · rw [if_pos h]; omega
  · rw [if_neg (by omega), if_neg (by omega)]; omega
  · rw [if_neg (by omega), if_pos h]; omega
theorem cmp_trans (a b c : Nat) (h1 : cmpW a b ≤ 0) (h2 : cmpW b c ≤ 0) : cmpW a c = min (cmpW a b) (cmpW b c) := by
  have k1 := (cmp_le a b).1 h1
  have k2 := (cmp_le b c).1 h2
  have z1 := cmp_zero a b
  have z2 := cmp_zero b c
  have z3 := cmp_zero a c
  have k3 := (cmp_le a c).2 (by omega)
  rcases cmp_vals a b with h | h | h <;> rcases cmp_vals b c with h' | h' | h' <;> rcases cmp_vals a c with h'' | h'' | h'' <;> omega
theorem may_nan {b : Nat} (h : FM.may b = true) : FM.nan b = false := by
  have := FM.may_rung h
  exact decide_eq_false (by omega)
theorem may_rk {b : Nat} (h : FM.may b = true) : rk b = (FM.rung b : Int) := by
  unfold rk
  rw [may_nan h, if_neg (by decide)]
  unfold FM.srank FM.sv
  rcases FM.may_sgn h with hs | hs
  · rw [hs, if_neg (by decide)]
  · rw [hs]; split <;> rfl
theorem points_mono (a b : Nat) (h : cmpW a b ≤ 0) (ha : FM.may a = true) (hb : FM.may b = true) : FM.points a ≤ FM.points b := by
  rw [cmp_le, may_rk ha, may_rk hb] at h
  rw [points_eq a ha, points_eq b hb]
  exact FM.pts_mono (FM.val_le (by omega))
theorem points_none (a : Nat) (ha : FM.may a = true) : FM.points a = 0 ↔ cmpW a 0 = 0 := by
  rw [points_eq a ha, FM.pts_zero, cmp_zero, may_rk ha, show rk 0 = 0 by decide]
  constructor
  · intro h
    have : FM.rung a = 0 := FM.val_inj (h.trans FM.val_zero.symm)
    omega
  · intro h
    have : FM.rung a = 0 := by omega
    rw [this, FM.val_zero]
theorem walk (a0 : Int) (a1 : Int) (a2 : Int) (w0 : (Lit.int .u64 a0).wf = true) (w1 : (Lit.int .u64 a1).wf = true) (w2 : (Lit.int .u64 a2).wf = true) (w : World) :
    Calls Try.prog 7 #[.int .u64 a0, .int .u64 a1, .int .u64 a2] w fun e w' => e = .returned (.bool true) ∧ Below w.heap.size w w' := by
  obtain ⟨a, rfl, ha⟩ := u64_nat w0
  obtain ⟨b, rfl, hb⟩ := u64_nat w1
  obtain ⟨c, rfl, _⟩ := u64_nat w2
  have hs := cmp_self a
  have ht := cmp_rev a b
  have hz := points_none a
  rcases cmp_vals a b with hp | hp | hp <;> rcases cmp_vals b c with hq | hq | hq
  · exact ord_mm a b c w ha hb hp hq (by rw [cmp_trans a b c (by omega) (by omega), hp, hq]; rfl) hs (by omega) (points_mono a b (by omega)) hz
  · exact ord_mz a b c w ha hb hp hq (by rw [cmp_trans a b c (by omega) (by omega), hp, hq]; rfl) hs (by omega) (points_mono a b (by omega)) hz
  · exact ord_mp a b c w ha hb hp hq hs (by omega) (points_mono a b (by omega)) hz
  · exact ord_zm a b c w ha hb hp hq (by rw [cmp_trans a b c (by omega) (by omega), hp, hq]; rfl) hs (by omega) (points_mono a b (by omega)) hz
  · exact ord_zz a b c w ha hb hp hq (by rw [cmp_trans a b c (by omega) (by omega), hp, hq]; rfl) hs (by omega) (points_mono a b (by omega)) hz
  · exact ord_zp a b c w ha hb hp hq hs (by omega) (points_mono a b (by omega)) hz
  · exact ord_pm a b c w ha hb hp hq hs (by omega) hz
  · exact ord_pz a b c w ha hb hp hq hs (by omega) hz
  · exact ord_pp a b c w ha hb hp hq hs (by omega) hz

/-! ### THE ROW's STEP: WRITTEN OUT: LEAVE IT -/
set_option maxRecDepth 100000 in
theorem lifted (os : Os) (started : os.Started) (H : Type) (enc : TypeId × Value → H) :
    ReturnsInHanded {} Try.checked os 7 .any (Rows.weightOrdersSpec.pre6 enc Try.prog Try.f7 Rows.weightOrdersRow.domain false) (Rows.weightOrdersSpec.post enc Try.prog Try.f7 false true false false) := by
  refine returnsInHanded_of_change (C := Try.checked) own started (by kernel_rfl) Try.func7
    (ChangeSpec.witness6 (enc := enc) (C := Try.checked) false ⟨#[], #[.int .u64 0, .int .u64 0, .int .u64 0], []⟩ 8 (by kernel_rfl) (by kernel_rfl) (by kernel_rfl) (by kernel_rfl)) ?_
  intro W base args ds gs before hval0 hW hcnd _
  have hval : ∀ (j : Nat) t v, Try.f7.params[j]? = some t → args[j]? = some v → Value.okWide Try.prog W .any base t v := hval0
  have hW' := hW
  obtain ⟨p, q, hA0, hV, rfl, hfz, hnd⟩ := hW
  have hA : DataW.TrodAll enc Try.prog W 0 (fun _ => true) true Try.f7.params.toList args.toList ds p := hA0
  rw [Try.params7] at hA hval
  obtain ⟨v0, vs0, d0, ds0, p0, q0, hargs, rfl, rfl, h0, r0⟩ := trodAll_cons hA
  obtain ⟨v1, vs1, d1, ds1, p1, q1, rfl, rfl, rfl, h1, r1⟩ := trodAll_cons r0
  obtain ⟨v2, vs2, d2, ds2, p2, q2, rfl, rfl, rfl, h2, r2⟩ := trodAll_cons r1
  obtain ⟨rfl, rfl, rfl⟩ := trodAll_nil r2
  obtain rfl : args = #[v0, v1, v2] := by cases args; simp_all
  obtain ⟨rfl, rfl⟩ := trodVars_none hV
  obtain ⟨a0, rfl, rfl, rfl, w0⟩ := open_int Try.underlying22 (hval 0 22 v0 rfl rfl) h0
  obtain ⟨a1, rfl, rfl, rfl, w1⟩ := open_int Try.underlying22 (hval 1 22 v1 rfl rfl) h1
  obtain ⟨a2, rfl, rfl, rfl, w2⟩ := open_int Try.underlying22 (hval 2 22 v2 rfl rfl) h2
  clear hA0 hval0
  simp only [List.append_nil] at hW'
  refine (walk a0 a1 a2 w0 w1 w2 W).mono fun e W' ⟨he, bel⟩ => ?_
  subst he
  exact ⟨_, rfl, _, _, _, [], [], [], hW', trodAll_mk1 (shut_bool Try.underlying4 _), (trodAll_cons_mk (shut_int Try.underlying22 w0) (trodAll_cons_mk (shut_int Try.underlying22 w1) (trodAll_cons_mk (shut_int Try.underlying22 w2) trodAll_mk0))), rfl, bel.frame _, fun h => by cases h⟩

theorem over : Rows.weightOrdersRow.holds Try.pinned (OpenSpec.ofChange Rows.weightOrdersSpec) :=
  OpenClaim.holds_of_wide 7 Try.f7 rfl rfl rfl rfl rfl rfl rfl ⟨rfl, rfl, rfl, rfl, rfl⟩ rfl rfl rfl rfl rfl (by kernel_rfl) Try.func7 (by kernel_rfl)
    (of_decide_eq_true (by kernel_rfl)) (by unfold Func.isWrapper; first | (rw [if_pos (by decide +kernel)]; kernel_rfl) | (rw [if_neg (by decide +kernel)]; exact ⟨rfl, rfl⟩))
    (fun os started H enc _ => lifted os started H enc)

/-- ████ THE STATEMENT ████ -/
theorem proved : Rows.WeightOrdersSaid :=
  over
#print axioms proved
end Go.Proofs.Ytdhgmpggophcmaa.weightOrders
