/- The law WeightTells returns true for every input. -/
import Derived.Test.YtdhgmpggophcmaaRows
import Derived.WalkKit
import Derived.ProofKit
import Derived.OpenShut
import Derived.ShutString
import Derived.Test.YtdhgmpggophcmaaWalkD
namespace Go.Proofs.Ytdhgmpggophcmaa.weightTells
open Go.ChangeShapes Go.WideShapes Go.ChangeAt Go.RowKit
open Go.ChangeMaps (open_string shut_string)
set_option linter.unusedVariables false      -- a walk need not use every 'w<i>' (that an integer argument fits its kind)

theorem own : ownKnob Try.prog.godebug = none := by kernel_rfl

theorem u64_nat {a : Int} (h : (Lit.int .u64 a).wf = true) : ∃ b : Nat, a = b ∧ b < W64 := by
  have hmin : IntKind.u64.min = 0 := rfl
  have hmax : IntKind.u64.max = 18446744073709551615 := rfl
  simp only [Lit.wf, Bool.and_eq_true, decide_eq_true_eq] at h
  exact ⟨a.toNat, by omega, by unfold W64; omega⟩
set_option maxRecDepth 100000 in
set_option maxHeartbeats 1600000 in
theorem tells00 (a b : Nat) (w : World) (ha : a < W64) (hb : b < W64) (hm : FM.may a = false) (hf : FM.may b = false) :
    Calls Try.prog 5 #[.int .u64 a, .int .u64 b] w fun e w' => e = .returned (.bool true) ∧ Below w.heap.size w w' := by
  have A : Hid (∀ W, Calls Try.prog 10 #[] W fun e w' => e = .returned (.bool true) ∧ w' = W) := awake_any
  have r1 := from_run a w
  have r2 := from_run b w
  have r5 := bits_run b w
  have r4 : (callFunc 14 #[.float .f64 0]).run Try.prog w = .ok (.value (.int .u64 0)) w := bits_run 0 w
  have M : Hid (∀ W, Calls Try.prog 22 #[.float .f64 a] W fun e w' => e = .returned (.bool false) ∧ w' = W) := fun W => by rw [← hm]; exact rmay_any a W ha
  obtain ⟨p, hp⟩ : ∃ p, p = FM.points a := ⟨_, rfl⟩
  have B1 : Hid (∀ W, Calls Try.prog 16 #[.float .f64 a] W fun e w' => e = .returned (.tuple #[.int .u64 0, .int .i64 1]) ∧ w' = W) := fun W => wbits_no a W ha hm
  have B2 : Hid (∀ W, Calls Try.prog 17 #[.float .f64 a] W fun e w' => e = .returned (.tuple #[.int .u64 0, .int .i64 1]) ∧ w' = W) := fun W => by
    have := rbits_any a W ha
    rw [hm, if_neg (by decide), if_neg (by decide)] at this; exact this
  have N : Hid (∀ W, Calls Try.prog 18 #[.float .f64 a] W fun e w' => e = .returned (.tuple #[.float .f64 0, .int .i64 1]) ∧ w' = W) := fun W => norm_no a W ha hm
  have K : Hid (∀ W, Calls Try.prog 21 #[.float .f64 a] W fun e w' => e = .returned (.int .i64 1) ∧ w' = W) := fun W => check_no a W ha hm
  have P1 : Hid (∀ W, Calls Try.prog 23 #[.float .f64 a] W fun e w' => e = .returned (.int .i64 p) ∧ w' = W) := fun W => by rw [hp]; exact points_any a W ha
  have P2 : Hid (∀ W, Calls Try.prog 24 #[.float .f64 a] W fun e w' => e = .returned (.int .i64 p) ∧ w' = W) := fun W => by rw [hp]; exact rpoints_any a W ha
  have F1 := Lib.hid (fun W => from_no b W hb hf)
  have F2 : Hid (∀ W, Calls Try.prog 20 #[.int .u64 b] W fun e w' => e = .returned (.int .i64 1) ∧ w' = W) := fun W => by
    have := rfrom_any b W hb
    unfold fromE at this
    rw [hf, if_neg (by decide)] at this; exact this
  clear ha hb hm hf hp
  go_enter Try.func5, Try.ntmps5
  go_wp2_with (first | (go_at_call 10; (with_reducible refine (A.out _).mono ?_); rintro e w1 ⟨rfl, rfl⟩) | (go_at_call 16; (with_reducible refine (B1.out _).mono ?_); rintro e w1 ⟨rfl, rfl⟩) | (go_at_call 17; (with_reducible refine (B2.out _).mono ?_); rintro e w1 ⟨rfl, rfl⟩) | (go_at_call 18; (with_reducible refine (N.out _).mono ?_); rintro e w1 ⟨rfl, rfl⟩) | (go_at_call 19; (with_reducible refine (F1.out _).mono ?_); rintro e w1 ⟨rfl, rfl⟩) | (go_at_call 20; (with_reducible refine (F2.out _).mono ?_); rintro e w1 ⟨rfl, rfl⟩) | (go_at_call 21; (with_reducible refine (K.out _).mono ?_); rintro e w1 ⟨rfl, rfl⟩) | (go_at_call 22; (with_reducible refine (M.out _).mono ?_); rintro e w1 ⟨rfl, rfl⟩) | (go_at_call 23; (with_reducible refine (P1.out _).mono ?_); rintro e w1 ⟨rfl, rfl⟩) | (go_at_call 24; (with_reducible refine (P2.out _).mono ?_); rintro e w1 ⟨rfl, rfl⟩))
  go_ret
  exact ⟨rfl, Below.refl _ _⟩
set_option maxRecDepth 100000 in
set_option maxHeartbeats 1600000 in
theorem tells01 (a b : Nat) (w : World) (ha : a < W64) (hb : b < W64) (hm : FM.may a = false) (hf : FM.may b = true) (hs : FM.sgn b = true) :
    Calls Try.prog 5 #[.int .u64 a, .int .u64 b] w fun e w' => e = .returned (.bool true) ∧ Below w.heap.size w w' := by
  have A : Hid (∀ W, Calls Try.prog 10 #[] W fun e w' => e = .returned (.bool true) ∧ w' = W) := awake_any
  have r1 := from_run a w
  have r2 := from_run b w
  have r5 := bits_run b w
  have r4 : (callFunc 14 #[.float .f64 0]).run Try.prog w = .ok (.value (.int .u64 0)) w := bits_run 0 w
  have M : Hid (∀ W, Calls Try.prog 22 #[.float .f64 a] W fun e w' => e = .returned (.bool false) ∧ w' = W) := fun W => by rw [← hm]; exact rmay_any a W ha
  obtain ⟨p, hp⟩ : ∃ p, p = FM.points a := ⟨_, rfl⟩
  have B1 : Hid (∀ W, Calls Try.prog 16 #[.float .f64 a] W fun e w' => e = .returned (.tuple #[.int .u64 0, .int .i64 1]) ∧ w' = W) := fun W => wbits_no a W ha hm
  have B2 : Hid (∀ W, Calls Try.prog 17 #[.float .f64 a] W fun e w' => e = .returned (.tuple #[.int .u64 0, .int .i64 1]) ∧ w' = W) := fun W => by
    have := rbits_any a W ha
    rw [hm, if_neg (by decide), if_neg (by decide)] at this; exact this
  have N : Hid (∀ W, Calls Try.prog 18 #[.float .f64 a] W fun e w' => e = .returned (.tuple #[.float .f64 0, .int .i64 1]) ∧ w' = W) := fun W => norm_no a W ha hm
  have K : Hid (∀ W, Calls Try.prog 21 #[.float .f64 a] W fun e w' => e = .returned (.int .i64 1) ∧ w' = W) := fun W => check_no a W ha hm
  have P1 : Hid (∀ W, Calls Try.prog 23 #[.float .f64 a] W fun e w' => e = .returned (.int .i64 p) ∧ w' = W) := fun W => by rw [hp]; exact points_any a W ha
  have P2 : Hid (∀ W, Calls Try.prog 24 #[.float .f64 a] W fun e w' => e = .returned (.int .i64 p) ∧ w' = W) := fun W => by rw [hp]; exact rpoints_any a W ha
  have F1 := Lib.hid (fun W => from_neg b W hb hf hs)
  have F2 : Hid (∀ W, Calls Try.prog 20 #[.int .u64 b] W fun e w' => e = .returned (.int .i64 9) ∧ w' = W) := fun W => by
    have := rfrom_any b W hb
    unfold fromE at this
    rw [hf, hs, if_pos rfl, if_pos rfl] at this; exact this
  clear ha hb hm hf hp hs
  go_enter Try.func5, Try.ntmps5
  go_wp2_with (first | (go_at_call 10; (with_reducible refine (A.out _).mono ?_); rintro e w1 ⟨rfl, rfl⟩) | (go_at_call 16; (with_reducible refine (B1.out _).mono ?_); rintro e w1 ⟨rfl, rfl⟩) | (go_at_call 17; (with_reducible refine (B2.out _).mono ?_); rintro e w1 ⟨rfl, rfl⟩) | (go_at_call 18; (with_reducible refine (N.out _).mono ?_); rintro e w1 ⟨rfl, rfl⟩) | (go_at_call 19; (with_reducible refine (F1.out _).mono ?_); rintro e w1 ⟨rfl, rfl⟩) | (go_at_call 20; (with_reducible refine (F2.out _).mono ?_); rintro e w1 ⟨rfl, rfl⟩) | (go_at_call 21; (with_reducible refine (K.out _).mono ?_); rintro e w1 ⟨rfl, rfl⟩) | (go_at_call 22; (with_reducible refine (M.out _).mono ?_); rintro e w1 ⟨rfl, rfl⟩) | (go_at_call 23; (with_reducible refine (P1.out _).mono ?_); rintro e w1 ⟨rfl, rfl⟩) | (go_at_call 24; (with_reducible refine (P2.out _).mono ?_); rintro e w1 ⟨rfl, rfl⟩))
  go_ret
  exact ⟨rfl, Below.refl _ _⟩
set_option maxRecDepth 100000 in
set_option maxHeartbeats 1600000 in
theorem tells02 (a b : Nat) (w : World) (ha : a < W64) (hb : b < W64) (hm : FM.may a = false) (hf : FM.may b = true) (hs : FM.sgn b = false) :
    Calls Try.prog 5 #[.int .u64 a, .int .u64 b] w fun e w' => e = .returned (.bool true) ∧ Below w.heap.size w w' := by
  have A : Hid (∀ W, Calls Try.prog 10 #[] W fun e w' => e = .returned (.bool true) ∧ w' = W) := awake_any
  have r1 := from_run a w
  have r2 := from_run b w
  have r5 := bits_run b w
  have r4 : (callFunc 14 #[.float .f64 0]).run Try.prog w = .ok (.value (.int .u64 0)) w := bits_run 0 w
  have M : Hid (∀ W, Calls Try.prog 22 #[.float .f64 a] W fun e w' => e = .returned (.bool false) ∧ w' = W) := fun W => by rw [← hm]; exact rmay_any a W ha
  obtain ⟨p, hp⟩ : ∃ p, p = FM.points a := ⟨_, rfl⟩
  have B1 : Hid (∀ W, Calls Try.prog 16 #[.float .f64 a] W fun e w' => e = .returned (.tuple #[.int .u64 0, .int .i64 1]) ∧ w' = W) := fun W => wbits_no a W ha hm
  have B2 : Hid (∀ W, Calls Try.prog 17 #[.float .f64 a] W fun e w' => e = .returned (.tuple #[.int .u64 0, .int .i64 1]) ∧ w' = W) := fun W => by
    have := rbits_any a W ha
    rw [hm, if_neg (by decide), if_neg (by decide)] at this; exact this
  have N : Hid (∀ W, Calls Try.prog 18 #[.float .f64 a] W fun e w' => e = .returned (.tuple #[.float .f64 0, .int .i64 1]) ∧ w' = W) := fun W => norm_no a W ha hm
  have K : Hid (∀ W, Calls Try.prog 21 #[.float .f64 a] W fun e w' => e = .returned (.int .i64 1) ∧ w' = W) := fun W => check_no a W ha hm
  have P1 : Hid (∀ W, Calls Try.prog 23 #[.float .f64 a] W fun e w' => e = .returned (.int .i64 p) ∧ w' = W) := fun W => by rw [hp]; exact points_any a W ha
  have P2 : Hid (∀ W, Calls Try.prog 24 #[.float .f64 a] W fun e w' => e = .returned (.int .i64 p) ∧ w' = W) := fun W => by rw [hp]; exact rpoints_any a W ha
  have F1 := Lib.hid (fun W => from_ok b W hb hf hs)
  have F2 : Hid (∀ W, Calls Try.prog 20 #[.int .u64 b] W fun e w' => e = .returned (.int .i64 0) ∧ w' = W) := fun W => by
    have := rfrom_any b W hb
    unfold fromE at this
    rw [hf, hs, if_pos rfl, if_neg (by decide)] at this; exact this
  clear ha hb hm hf hp hs
  go_enter Try.func5, Try.ntmps5
  go_wp2_with (first | (go_at_call 10; (with_reducible refine (A.out _).mono ?_); rintro e w1 ⟨rfl, rfl⟩) | (go_at_call 16; (with_reducible refine (B1.out _).mono ?_); rintro e w1 ⟨rfl, rfl⟩) | (go_at_call 17; (with_reducible refine (B2.out _).mono ?_); rintro e w1 ⟨rfl, rfl⟩) | (go_at_call 18; (with_reducible refine (N.out _).mono ?_); rintro e w1 ⟨rfl, rfl⟩) | (go_at_call 19; (with_reducible refine (F1.out _).mono ?_); rintro e w1 ⟨rfl, rfl⟩) | (go_at_call 20; (with_reducible refine (F2.out _).mono ?_); rintro e w1 ⟨rfl, rfl⟩) | (go_at_call 21; (with_reducible refine (K.out _).mono ?_); rintro e w1 ⟨rfl, rfl⟩) | (go_at_call 22; (with_reducible refine (M.out _).mono ?_); rintro e w1 ⟨rfl, rfl⟩) | (go_at_call 23; (with_reducible refine (P1.out _).mono ?_); rintro e w1 ⟨rfl, rfl⟩) | (go_at_call 24; (with_reducible refine (P2.out _).mono ?_); rintro e w1 ⟨rfl, rfl⟩))
  go_ret
  exact ⟨rfl, Below.refl _ _⟩
set_option maxRecDepth 100000 in
set_option maxHeartbeats 1600000 in
theorem tells10 (a b : Nat) (w : World) (ha : a < W64) (hb : b < W64) (hm : FM.may a = true) (hf : FM.may b = false) :
    Calls Try.prog 5 #[.int .u64 a, .int .u64 b] w fun e w' => e = .returned (.bool true) ∧ Below w.heap.size w w' := by
  have A : Hid (∀ W, Calls Try.prog 10 #[] W fun e w' => e = .returned (.bool true) ∧ w' = W) := awake_any
  have r1 := from_run a w
  have r2 := from_run b w
  have r5 := bits_run b w
  have r4 : (callFunc 14 #[.float .f64 0]).run Try.prog w = .ok (.value (.int .u64 0)) w := bits_run 0 w
  have M : Hid (∀ W, Calls Try.prog 22 #[.float .f64 a] W fun e w' => e = .returned (.bool true) ∧ w' = W) := fun W => by rw [← hm]; exact rmay_any a W ha
  obtain ⟨r, hr⟩ : ∃ r, r = FM.rung a := ⟨_, rfl⟩
  obtain ⟨p, hp⟩ : ∃ p, p = FM.points a := ⟨_, rfl⟩
  have r3 := bits_run r w
  have B1 : Hid (∀ W, Calls Try.prog 16 #[.float .f64 a] W fun e w' => e = .returned (.tuple #[.int .u64 r, .int .i64 0]) ∧ w' = W) := fun W => by rw [hr]; exact wbits_ok a W ha hm
  have B2 : Hid (∀ W, Calls Try.prog 17 #[.float .f64 a] W fun e w' => e = .returned (.tuple #[.int .u64 r, .int .i64 0]) ∧ w' = W) := fun W => by
    have := rbits_any a W ha
    rw [hm, if_pos rfl, if_pos rfl, ← hr] at this; exact this
  have N : Hid (∀ W, Calls Try.prog 18 #[.float .f64 a] W fun e w' => e = .returned (.tuple #[.float .f64 r, .int .i64 0]) ∧ w' = W) := fun W => by rw [hr]; exact norm_ok a W ha hm
  have K : Hid (∀ W, Calls Try.prog 21 #[.float .f64 a] W fun e w' => e = .returned (.int .i64 0) ∧ w' = W) := fun W => check_ok a W ha hm
  have P1 : Hid (∀ W, Calls Try.prog 23 #[.float .f64 a] W fun e w' => e = .returned (.int .i64 p) ∧ w' = W) := fun W => by rw [hp]; exact points_any a W ha
  have P2 : Hid (∀ W, Calls Try.prog 24 #[.float .f64 a] W fun e w' => e = .returned (.int .i64 p) ∧ w' = W) := fun W => by rw [hp]; exact rpoints_any a W ha
  have F1 := Lib.hid (fun W => from_no b W hb hf)
  have F2 : Hid (∀ W, Calls Try.prog 20 #[.int .u64 b] W fun e w' => e = .returned (.int .i64 1) ∧ w' = W) := fun W => by
    have := rfrom_any b W hb
    unfold fromE at this
    rw [hf, if_neg (by decide)] at this; exact this
  clear ha hb hm hf hp hr
  go_enter Try.func5, Try.ntmps5
  go_wp2_with (first | (go_at_call 10; (with_reducible refine (A.out _).mono ?_); rintro e w1 ⟨rfl, rfl⟩) | (go_at_call 16; (with_reducible refine (B1.out _).mono ?_); rintro e w1 ⟨rfl, rfl⟩) | (go_at_call 17; (with_reducible refine (B2.out _).mono ?_); rintro e w1 ⟨rfl, rfl⟩) | (go_at_call 18; (with_reducible refine (N.out _).mono ?_); rintro e w1 ⟨rfl, rfl⟩) | (go_at_call 19; (with_reducible refine (F1.out _).mono ?_); rintro e w1 ⟨rfl, rfl⟩) | (go_at_call 20; (with_reducible refine (F2.out _).mono ?_); rintro e w1 ⟨rfl, rfl⟩) | (go_at_call 21; (with_reducible refine (K.out _).mono ?_); rintro e w1 ⟨rfl, rfl⟩) | (go_at_call 22; (with_reducible refine (M.out _).mono ?_); rintro e w1 ⟨rfl, rfl⟩) | (go_at_call 23; (with_reducible refine (P1.out _).mono ?_); rintro e w1 ⟨rfl, rfl⟩) | (go_at_call 24; (with_reducible refine (P2.out _).mono ?_); rintro e w1 ⟨rfl, rfl⟩))
  go_ret
  exact ⟨rfl, Below.refl _ _⟩
set_option maxRecDepth 100000 in
set_option maxHeartbeats 1600000 in
theorem tells11 (a b : Nat) (w : World) (ha : a < W64) (hb : b < W64) (hm : FM.may a = true) (hf : FM.may b = true) (hs : FM.sgn b = true) :
    Calls Try.prog 5 #[.int .u64 a, .int .u64 b] w fun e w' => e = .returned (.bool true) ∧ Below w.heap.size w w' := by
  have A : Hid (∀ W, Calls Try.prog 10 #[] W fun e w' => e = .returned (.bool true) ∧ w' = W) := awake_any
  have r1 := from_run a w
  have r2 := from_run b w
  have r5 := bits_run b w
  have r4 : (callFunc 14 #[.float .f64 0]).run Try.prog w = .ok (.value (.int .u64 0)) w := bits_run 0 w
  have M : Hid (∀ W, Calls Try.prog 22 #[.float .f64 a] W fun e w' => e = .returned (.bool true) ∧ w' = W) := fun W => by rw [← hm]; exact rmay_any a W ha
  obtain ⟨r, hr⟩ : ∃ r, r = FM.rung a := ⟨_, rfl⟩
  obtain ⟨p, hp⟩ : ∃ p, p = FM.points a := ⟨_, rfl⟩
  have r3 := bits_run r w
  have B1 : Hid (∀ W, Calls Try.prog 16 #[.float .f64 a] W fun e w' => e = .returned (.tuple #[.int .u64 r, .int .i64 0]) ∧ w' = W) := fun W => by rw [hr]; exact wbits_ok a W ha hm
  have B2 : Hid (∀ W, Calls Try.prog 17 #[.float .f64 a] W fun e w' => e = .returned (.tuple #[.int .u64 r, .int .i64 0]) ∧ w' = W) := fun W => by
    have := rbits_any a W ha
    rw [hm, if_pos rfl, if_pos rfl, ← hr] at this; exact this
  have N : Hid (∀ W, Calls Try.prog 18 #[.float .f64 a] W fun e w' => e = .returned (.tuple #[.float .f64 r, .int .i64 0]) ∧ w' = W) := fun W => by rw [hr]; exact norm_ok a W ha hm
  have K : Hid (∀ W, Calls Try.prog 21 #[.float .f64 a] W fun e w' => e = .returned (.int .i64 0) ∧ w' = W) := fun W => check_ok a W ha hm
  have P1 : Hid (∀ W, Calls Try.prog 23 #[.float .f64 a] W fun e w' => e = .returned (.int .i64 p) ∧ w' = W) := fun W => by rw [hp]; exact points_any a W ha
  have P2 : Hid (∀ W, Calls Try.prog 24 #[.float .f64 a] W fun e w' => e = .returned (.int .i64 p) ∧ w' = W) := fun W => by rw [hp]; exact rpoints_any a W ha
  have F1 := Lib.hid (fun W => from_neg b W hb hf hs)
  have F2 : Hid (∀ W, Calls Try.prog 20 #[.int .u64 b] W fun e w' => e = .returned (.int .i64 9) ∧ w' = W) := fun W => by
    have := rfrom_any b W hb
    unfold fromE at this
    rw [hf, hs, if_pos rfl, if_pos rfl] at this; exact this
  clear ha hb hm hf hp hr hs
  go_enter Try.func5, Try.ntmps5
  go_wp2_with (first | (go_at_call 10; (with_reducible refine (A.out _).mono ?_); rintro e w1 ⟨rfl, rfl⟩) | (go_at_call 16; (with_reducible refine (B1.out _).mono ?_); rintro e w1 ⟨rfl, rfl⟩) | (go_at_call 17; (with_reducible refine (B2.out _).mono ?_); rintro e w1 ⟨rfl, rfl⟩) | (go_at_call 18; (with_reducible refine (N.out _).mono ?_); rintro e w1 ⟨rfl, rfl⟩) | (go_at_call 19; (with_reducible refine (F1.out _).mono ?_); rintro e w1 ⟨rfl, rfl⟩) | (go_at_call 20; (with_reducible refine (F2.out _).mono ?_); rintro e w1 ⟨rfl, rfl⟩) | (go_at_call 21; (with_reducible refine (K.out _).mono ?_); rintro e w1 ⟨rfl, rfl⟩) | (go_at_call 22; (with_reducible refine (M.out _).mono ?_); rintro e w1 ⟨rfl, rfl⟩) | (go_at_call 23; (with_reducible refine (P1.out _).mono ?_); rintro e w1 ⟨rfl, rfl⟩) | (go_at_call 24; (with_reducible refine (P2.out _).mono ?_); rintro e w1 ⟨rfl, rfl⟩))
  go_ret
  exact ⟨rfl, Below.refl _ _⟩
set_option maxRecDepth 100000 in
set_option maxHeartbeats 1600000 in
theorem tells12 (a b : Nat) (w : World) (ha : a < W64) (hb : b < W64) (hm : FM.may a = true) (hf : FM.may b = true) (hs : FM.sgn b = false) :
    Calls Try.prog 5 #[.int .u64 a, .int .u64 b] w fun e w' => e = .returned (.bool true) ∧ Below w.heap.size w w' := by
  have A : Hid (∀ W, Calls Try.prog 10 #[] W fun e w' => e = .returned (.bool true) ∧ w' = W) := awake_any
  have r1 := from_run a w
  have r2 := from_run b w
  have r5 := bits_run b w
  have r4 : (callFunc 14 #[.float .f64 0]).run Try.prog w = .ok (.value (.int .u64 0)) w := bits_run 0 w
  have M : Hid (∀ W, Calls Try.prog 22 #[.float .f64 a] W fun e w' => e = .returned (.bool true) ∧ w' = W) := fun W => by rw [← hm]; exact rmay_any a W ha
  obtain ⟨r, hr⟩ : ∃ r, r = FM.rung a := ⟨_, rfl⟩
  obtain ⟨p, hp⟩ : ∃ p, p = FM.points a := ⟨_, rfl⟩
  have r3 := bits_run r w
  have B1 : Hid (∀ W, Calls Try.prog 16 #[.float .f64 a] W fun e w' => e = .returned (.tuple #[.int .u64 r, .int .i64 0]) ∧ w' = W) := fun W => by rw [hr]; exact wbits_ok a W ha hm
  have B2 : Hid (∀ W, Calls Try.prog 17 #[.float .f64 a] W fun e w' => e = .returned (.tuple #[.int .u64 r, .int .i64 0]) ∧ w' = W) := fun W => by
    have := rbits_any a W ha
    rw [hm, if_pos rfl, if_pos rfl, ← hr] at this; exact this
  have N : Hid (∀ W, Calls Try.prog 18 #[.float .f64 a] W fun e w' => e = .returned (.tuple #[.float .f64 r, .int .i64 0]) ∧ w' = W) := fun W => by rw [hr]; exact norm_ok a W ha hm
  have K : Hid (∀ W, Calls Try.prog 21 #[.float .f64 a] W fun e w' => e = .returned (.int .i64 0) ∧ w' = W) := fun W => check_ok a W ha hm
  have P1 : Hid (∀ W, Calls Try.prog 23 #[.float .f64 a] W fun e w' => e = .returned (.int .i64 p) ∧ w' = W) := fun W => by rw [hp]; exact points_any a W ha
  have P2 : Hid (∀ W, Calls Try.prog 24 #[.float .f64 a] W fun e w' => e = .returned (.int .i64 p) ∧ w' = W) := fun W => by rw [hp]; exact rpoints_any a W ha
  have F1 := Lib.hid (fun W => from_ok b W hb hf hs)
  have F2 : Hid (∀ W, Calls Try.prog 20 #[.int .u64 b] W fun e w' => e = .returned (.int .i64 0) ∧ w' = W) := fun W => by
    have := rfrom_any b W hb
    unfold fromE at this
    rw [hf, hs, if_pos rfl, if_neg (by decide)] at this; exact this
  clear ha hb hm hf hp hr hs
  go_enter Try.func5, Try.ntmps5
  go_wp2_with (first | (go_at_call 10; (with_reducible refine (A.out _).mono ?_); rintro e w1 ⟨rfl, rfl⟩) | (go_at_call 16; (with_reducible refine (B1.out _).mono ?_); rintro e w1 ⟨rfl, rfl⟩) | (go_at_call 17; (with_reducible refine (B2.out _).mono ?_); rintro e w1 ⟨rfl, rfl⟩) | (go_at_call 18; (with_reducible refine (N.out _).mono ?_); rintro e w1 ⟨rfl, rfl⟩) | (go_at_call 19; (with_reducible refine (F1.out _).mono ?_); rintro e w1 ⟨rfl, rfl⟩) | (go_at_call 20; (with_reducible refine (F2.out _).mono ?_); rintro e w1 ⟨rfl, rfl⟩) | (go_at_call 21; (with_reducible refine (K.out _).mono ?_); rintro e w1 ⟨rfl, rfl⟩) | (go_at_call 22; (with_reducible refine (M.out _).mono ?_); rintro e w1 ⟨rfl, rfl⟩) | (go_at_call 23; (with_reducible refine (P1.out _).mono ?_); rintro e w1 ⟨rfl, rfl⟩) | (go_at_call 24; (with_reducible refine (P2.out _).mono ?_); rintro e w1 ⟨rfl, rfl⟩))
  go_ret
  exact ⟨rfl, Below.refl _ _⟩
theorem walk (a0 : Int) (a1 : Int) (w0 : (Lit.int .u64 a0).wf = true) (w1 : (Lit.int .u64 a1).wf = true) (w : World) :
    Calls Try.prog 5 #[.int .u64 a0, .int .u64 a1] w fun e w' => e = .returned (.bool true) ∧ Below w.heap.size w w' := by
  obtain ⟨a, rfl, ha⟩ := u64_nat w0
  obtain ⟨b, rfl, hb⟩ := u64_nat w1
  cases hm : FM.may a <;> cases hf : FM.may b
  · exact tells00 a b w ha hb hm hf
  · cases hs : FM.sgn b
    · exact tells02 a b w ha hb hm hf hs
    · exact tells01 a b w ha hb hm hf hs
  · exact tells10 a b w ha hb hm hf
  · cases hs : FM.sgn b
    · exact tells12 a b w ha hb hm hf hs
    · exact tells11 a b w ha hb hm hf hs

/-! ### THE ROW's STEP: WRITTEN OUT: LEAVE IT -/
set_option maxRecDepth 100000 in
theorem lifted (os : Os) (started : os.Started) (H : Type) (enc : TypeId × Value → H) :
    ReturnsInHanded {} Try.checked os 5 .any (Rows.weightTellsSpec.pre6 enc Try.prog Try.f5 Rows.weightTellsRow.domain false) (Rows.weightTellsSpec.post enc Try.prog Try.f5 false true false false) := by
  refine returnsInHanded_of_change (C := Try.checked) own started (by kernel_rfl) Try.func5
    (ChangeSpec.witness6 (enc := enc) (C := Try.checked) false ⟨#[], #[.int .u64 0, .int .u64 0], []⟩ 8 (by kernel_rfl) (by kernel_rfl) (by kernel_rfl) (by kernel_rfl)) ?_
  intro W base args ds gs before hval0 hW hcnd _
  have hval : ∀ (j : Nat) t v, Try.f5.params[j]? = some t → args[j]? = some v → Value.okWide Try.prog W .any base t v := hval0
  have hW' := hW
  obtain ⟨p, q, hA0, hV, rfl, hfz, hnd⟩ := hW
  have hA : DataW.TrodAll enc Try.prog W 0 (fun _ => true) true Try.f5.params.toList args.toList ds p := hA0
  rw [Try.params5] at hA hval
  obtain ⟨v0, vs0, d0, ds0, p0, q0, hargs, rfl, rfl, h0, r0⟩ := trodAll_cons hA
  obtain ⟨v1, vs1, d1, ds1, p1, q1, rfl, rfl, rfl, h1, r1⟩ := trodAll_cons r0
  obtain ⟨rfl, rfl, rfl⟩ := trodAll_nil r1
  obtain rfl : args = #[v0, v1] := by cases args; simp_all
  obtain ⟨rfl, rfl⟩ := trodVars_none hV
  obtain ⟨a0, rfl, rfl, rfl, w0⟩ := open_int Try.underlying22 (hval 0 22 v0 rfl rfl) h0
  obtain ⟨a1, rfl, rfl, rfl, w1⟩ := open_int Try.underlying22 (hval 1 22 v1 rfl rfl) h1
  clear hA0 hval0
  simp only [List.append_nil] at hW'
  refine (walk a0 a1 w0 w1 W).mono fun e W' ⟨he, bel⟩ => ?_
  subst he
  exact ⟨_, rfl, _, _, _, [], [], [], hW', trodAll_mk1 (shut_bool Try.underlying4 _), (trodAll_cons_mk (shut_int Try.underlying22 w0) (trodAll_cons_mk (shut_int Try.underlying22 w1) trodAll_mk0)), rfl, bel.frame _, fun h => by cases h⟩

theorem over : Rows.weightTellsRow.holds Try.pinned (OpenSpec.ofChange Rows.weightTellsSpec) :=
  OpenClaim.holds_of_wide 5 Try.f5 rfl rfl rfl rfl rfl rfl rfl ⟨rfl, rfl, rfl, rfl, rfl⟩ rfl rfl rfl rfl rfl (by kernel_rfl) Try.func5 (by kernel_rfl)
    (of_decide_eq_true (by kernel_rfl)) (by unfold Func.isWrapper; first | (rw [if_pos (by decide +kernel)]; kernel_rfl) | (rw [if_neg (by decide +kernel)]; exact ⟨rfl, rfl⟩))
    (fun os started H enc _ => lifted os started H enc)

/-- ████ THE STATEMENT ████ -/
theorem proved : Rows.WeightTellsSaid :=
  over
#print axioms proved
end Go.Proofs.Ytdhgmpggophcmaa.weightTells
