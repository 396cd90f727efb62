/- The law WeightSteps returns true for every input. -/
import Derived.Test.YtdhgmpggophcmaaRows
import Derived.WalkKit
import Derived.ProofKit
import Derived.OpenShut
import Derived.ShutString
import Derived.Test.YtdhgmpggophcmaaSixt
namespace Go.Proofs.Ytdhgmpggophcmaa.weightSteps
open Go.ChangeShapes Go.WideShapes Go.ChangeAt Go.RowKit
open Go.ChangeMaps (open_string shut_string)
set_option linter.unusedVariables false      -- a walk need not use every 'w<i>' (that an integer argument fits its kind)

theorem own : ownKnob Try.prog.godebug = none := by kernel_rfl

theorem u16_nat {a : Int} (h : (Lit.int .u16 a).wf = true) : ∃ b : Nat, a = b ∧ b < 65536 := by
  have hmin : IntKind.u16.min = 0 := rfl
  have hmax : IntKind.u16.max = 65535 := rfl
  simp only [Lit.wf, Bool.and_eq_true, decide_eq_true_eq] at h
  exact ⟨a.toNat, by omega, by omega⟩
theorem may_rk0 {b : Nat} (h : b ≤ 4625196817309499392) : rk b = (b : Int) := by
  unfold rk
  rw [nan_le h, if_neg (by decide)]
  exact srank_pos (by omega)
set_option maxRecDepth 100000 in
set_option maxHeartbeats 1600000 in
theorem steps_zero (n k : Nat) (hk : k ≤ 256) (hnk : ((n : Int) % 257) = (k : Int)) (x : Nat) (hx : x ≤ 4625196817309499392) (hv : FM.val x = k * FM.U) (hdiv : ∀ W, (binOp .quo 25 (.float .f64 (floatOfInt .f64 (k : Int))) (.float .f64 4625196817309499392)).run Try.prog W = .ok (.float .f64 x) W) (hk0 : k = 0) (w : World) :
    Calls Try.prog 8 #[.int .u16 n] w fun e w' => e = .returned (.bool true) ∧ Below w.heap.size w w' := by
  have A : Hid (∀ W, Calls Try.prog 10 #[] W fun e w' => e = .returned (.bool true) ∧ w' = W) := awake_any
  have hm := may_le hx
  have hn := nan_le hx
  have hs := srank_pos (b := x) (by omega)
  have hp := sixt_points x k hx hv
  have P1 : Hid (∀ W, Calls Try.prog 23 #[.float .f64 x] W fun e w' => e = .returned (.int .i64 k) ∧ w' = W) := fun W => by rw [← hp]; exact points_any x W (by unfold W64; omega)
  have K1 : Hid (∀ W, Calls Try.prog 21 #[.float .f64 x] W fun e w' => e = .returned (.int .i64 0) ∧ w' = W) := fun W => check_ok x W (by unfold W64; omega) hm
  obtain rfl : x = 0 := FM.val_inj (by rw [hv, FM.val_zero, hk0, Nat.zero_mul])
  subst hk0
  have U : Hid (∀ W, Calls Try.prog 15 #[.float .f64 0, .float .f64 4626322717216342016] W fun e w' => e = .returned (.float .f64 1) ∧ w' = W) := fun W => by
    have := next_zero 4626322717216342016 W (by decide) (by decide) (by decide)
    rw [show FM.sgn 4626322717216342016 = false by decide] at this; exact this
  have D : Hid (∀ W, Calls Try.prog 15 #[.float .f64 0, .float .f64 13830554455654793216] W fun e w' => e = .returned (.float .f64 9223372036854775809) ∧ w' = W) := fun W => by
    have := next_zero 13830554455654793216 W (by decide) (by decide) (by decide)
    rw [show FM.sgn 13830554455654793216 = true by decide] at this; exact this
  have P2 : Hid (∀ W, Calls Try.prog 23 #[.float .f64 1] W fun e w' => e = .returned (.int .i64 1) ∧ w' = W) := fun W => by
    have := points_any 1 W (by decide)
    rw [points_min] at this; exact this
  have K2 : Hid (∀ W, Calls Try.prog 21 #[.float .f64 9223372036854775809] W fun e w' => e = .returned (.int .i64 1) ∧ w' = W) := fun W => check_no 9223372036854775809 W (by decide) (by decide)
  have hq : (binOp .quo 25 (.float .f64 (floatOfInt .f64 0)) (.float .f64 4625196817309499392)).run Try.prog w = .ok (.float .f64 0) w := hdiv w
  clear hx hv hdiv hm hn hs hp
  have en : ((n : Int) % 257) = (0 : Int) := hnk
  clear hnk
  go_enter Try.func8, Try.ntmps8
  go_wp2_with (first | (go_at_call 10; (with_reducible refine (A.out _).mono ?_); rintro e w1 ⟨rfl, rfl⟩) | (go_at_call 15; (with_reducible refine (U.out _).mono ?_); rintro e w1 ⟨rfl, rfl⟩) | (go_at_call 15; (with_reducible refine (D.out _).mono ?_); rintro e w1 ⟨rfl, rfl⟩) | (go_at_call 23; (with_reducible refine (P1.out _).mono ?_); rintro e w1 ⟨rfl, rfl⟩) | (go_at_call 21; (with_reducible refine (K1.out _).mono ?_); rintro e w1 ⟨rfl, rfl⟩) | (go_at_call 23; (with_reducible refine (P2.out _).mono ?_); rintro e w1 ⟨rfl, rfl⟩) | (go_at_call 21; (with_reducible refine (K2.out _).mono ?_); rintro e w1 ⟨rfl, rfl⟩))
  go_ret
  exact ⟨rfl, Below.refl _ _⟩
set_option maxRecDepth 100000 in
set_option maxHeartbeats 1600000 in
theorem steps_mid (n k : Nat) (hk : k ≤ 256) (hnk : ((n : Int) % 257) = (k : Int)) (x : Nat) (hx : x ≤ 4625196817309499392) (hv : FM.val x = k * FM.U) (hdiv : ∀ W, (binOp .quo 25 (.float .f64 (floatOfInt .f64 (k : Int))) (.float .f64 4625196817309499392)).run Try.prog W = .ok (.float .f64 x) W) (hk0 : 0 < k) (hk1 : k < 256) (w : World) :
    Calls Try.prog 8 #[.int .u16 n] w fun e w' => e = .returned (.bool true) ∧ Below w.heap.size w w' := by
  have A : Hid (∀ W, Calls Try.prog 10 #[] W fun e w' => e = .returned (.bool true) ∧ w' = W) := awake_any
  have hm := may_le hx
  have hn := nan_le hx
  have hs := srank_pos (b := x) (by omega)
  have hp := sixt_points x k hx hv
  have P1 : Hid (∀ W, Calls Try.prog 23 #[.float .f64 x] W fun e w' => e = .returned (.int .i64 k) ∧ w' = W) := fun W => by rw [← hp]; exact points_any x W (by unfold W64; omega)
  have K1 : Hid (∀ W, Calls Try.prog 21 #[.float .f64 x] W fun e w' => e = .returned (.int .i64 0) ∧ w' = W) := fun W => check_ok x W (by unfold W64; omega) hm
  obtain ⟨d1, d2⟩ := sixt_down x k hk0 hx hv
  obtain ⟨y, hy⟩ : ∃ y, y = x - 1 := ⟨_, rfl⟩
  have hy2 : y ≤ 4625196817309499392 := by omega
  obtain ⟨z, hz⟩ : ∃ z, z = x + 1 := ⟨_, rfl⟩
  have U : Hid (∀ W, Calls Try.prog 15 #[.float .f64 x, .float .f64 4626322717216342016] W fun e w' => e = .returned (.float .f64 z) ∧ w' = W) := fun W => by rw [hz]; exact next_up x 4626322717216342016 W hn (by decide) (by rw [hs]; omega) (by rw [hs, show FM.srank 4626322717216342016 = 4626322717216342016 by decide]; omega) (by unfold W64; omega)
  have D : Hid (∀ W, Calls Try.prog 15 #[.float .f64 x, .float .f64 13830554455654793216] W fun e w' => e = .returned (.float .f64 y) ∧ w' = W) := fun W => by rw [hy]; exact next_down x 13830554455654793216 W hn (by decide) (by rw [hs]; omega) (by rw [hs, show FM.srank 13830554455654793216 = -4607182418800017408 by decide]; omega) (by unfold W64; omega) d1
  have P3 : Hid (∀ W, Calls Try.prog 23 #[.float .f64 y] W fun e w' => e = .returned (.int .i64 k) ∧ w' = W) := fun W => by
    have := points_any y W (by unfold W64; omega)
    rw [hy, d2, ← hy] at this; exact this
  have c1 : cmpW y x = -1 := by
    rw [cmpW_rk, may_rk0 hy2, may_rk0 hx, if_pos (by omega)]
  have C1 : Hid (∀ W, Calls Try.prog 25 #[.float .f64 y, .float .f64 x] W fun e w' => e = .returned (.int .i64 (-1)) ∧ w' = W) := fun W => by rw [← c1]; exact compare_any y x W
  obtain ⟨e1, e2⟩ := sixt_up x k hk1 hx hv
  have c2 : cmpW z x = 1 := by
    rw [cmpW_rk, may_rk0 (by omega), may_rk0 hx, if_neg (by omega), if_pos (by omega)]
  have P2 : Hid (∀ W, Calls Try.prog 23 #[.float .f64 z] W fun e w' => e = .returned (.int .i64 ((k : Int) + 1)) ∧ w' = W) := fun W => by
    have := points_any z W (by unfold W64; omega)
    rw [hz, e2, ← hz] at this; exact this
  have C2 : Hid (∀ W, Calls Try.prog 25 #[.float .f64 z, .float .f64 x] W fun e w' => e = .returned (.int .i64 1) ∧ w' = W) := fun W => by rw [← c2]; exact compare_any z x W
  have k1 : (k : Int) < 256 := by omega
  have k2 : 0 < (k : Int) := by omega
  have k3 : ((k : Int) == 0) = false := by rw [beq_eq_false_iff_ne]; omega
  have hq : (binOp .quo 25 (.float .f64 (floatOfInt .f64 k)) (.float .f64 4625196817309499392)).run Try.prog w = .ok (.float .f64 x) w := hdiv w
  clear hx hv hdiv hm hn hs hp hy hy2 hz d1 d2 c1 c2 e1 e2 hk0 hk1 hk
  have en : ((n : Int) % 257) = (k : Int) := hnk
  clear hnk
  go_enter Try.func8, Try.ntmps8
  go_wp2_with (first | (go_at_call 10; (with_reducible refine (A.out _).mono ?_); rintro e w1 ⟨rfl, rfl⟩) | (go_at_call 15; (with_reducible refine (U.out _).mono ?_); rintro e w1 ⟨rfl, rfl⟩) | (go_at_call 15; (with_reducible refine (D.out _).mono ?_); rintro e w1 ⟨rfl, rfl⟩) | (go_at_call 23; (with_reducible refine (P1.out _).mono ?_); rintro e w1 ⟨rfl, rfl⟩) | (go_at_call 21; (with_reducible refine (K1.out _).mono ?_); rintro e w1 ⟨rfl, rfl⟩) | (go_at_call 23; (with_reducible refine (P2.out _).mono ?_); rintro e w1 ⟨rfl, rfl⟩) | (go_at_call 23; (with_reducible refine (P3.out _).mono ?_); rintro e w1 ⟨rfl, rfl⟩) | (go_at_call 25; (with_reducible refine (C1.out _).mono ?_); rintro e w1 ⟨rfl, rfl⟩) | (go_at_call 25; (with_reducible refine (C2.out _).mono ?_); rintro e w1 ⟨rfl, rfl⟩))
  go_ret
  exact ⟨rfl, Below.refl _ _⟩
set_option maxRecDepth 100000 in
set_option maxHeartbeats 1600000 in
theorem steps_top (n k : Nat) (hk : k ≤ 256) (hnk : ((n : Int) % 257) = (k : Int)) (x : Nat) (hx : x ≤ 4625196817309499392) (hv : FM.val x = k * FM.U) (hdiv : ∀ W, (binOp .quo 25 (.float .f64 (floatOfInt .f64 (k : Int))) (.float .f64 4625196817309499392)).run Try.prog W = .ok (.float .f64 x) W) (hk0 : 0 < k) (hk1 : k = 256) (w : World) :
    Calls Try.prog 8 #[.int .u16 n] w fun e w' => e = .returned (.bool true) ∧ Below w.heap.size w w' := by
  have A : Hid (∀ W, Calls Try.prog 10 #[] W fun e w' => e = .returned (.bool true) ∧ w' = W) := awake_any
  have hm := may_le hx
  have hn := nan_le hx
  have hs := srank_pos (b := x) (by omega)
  have hp := sixt_points x k hx hv
  have P1 : Hid (∀ W, Calls Try.prog 23 #[.float .f64 x] W fun e w' => e = .returned (.int .i64 k) ∧ w' = W) := fun W => by rw [← hp]; exact points_any x W (by unfold W64; omega)
  have K1 : Hid (∀ W, Calls Try.prog 21 #[.float .f64 x] W fun e w' => e = .returned (.int .i64 0) ∧ w' = W) := fun W => check_ok x W (by unfold W64; omega) hm
  obtain ⟨d1, d2⟩ := sixt_down x k hk0 hx hv
  obtain ⟨y, hy⟩ : ∃ y, y = x - 1 := ⟨_, rfl⟩
  have hy2 : y ≤ 4625196817309499392 := by omega
  obtain ⟨z, hz⟩ : ∃ z, z = x + 1 := ⟨_, rfl⟩
  have U : Hid (∀ W, Calls Try.prog 15 #[.float .f64 x, .float .f64 4626322717216342016] W fun e w' => e = .returned (.float .f64 z) ∧ w' = W) := fun W => by rw [hz]; exact next_up x 4626322717216342016 W hn (by decide) (by rw [hs]; omega) (by rw [hs, show FM.srank 4626322717216342016 = 4626322717216342016 by decide]; omega) (by unfold W64; omega)
  have D : Hid (∀ W, Calls Try.prog 15 #[.float .f64 x, .float .f64 13830554455654793216] W fun e w' => e = .returned (.float .f64 y) ∧ w' = W) := fun W => by rw [hy]; exact next_down x 13830554455654793216 W hn (by decide) (by rw [hs]; omega) (by rw [hs, show FM.srank 13830554455654793216 = -4607182418800017408 by decide]; omega) (by unfold W64; omega) d1
  have P3 : Hid (∀ W, Calls Try.prog 23 #[.float .f64 y] W fun e w' => e = .returned (.int .i64 k) ∧ w' = W) := fun W => by
    have := points_any y W (by unfold W64; omega)
    rw [hy, d2, ← hy] at this; exact this
  have c1 : cmpW y x = -1 := by
    rw [cmpW_rk, may_rk0 hy2, may_rk0 hx, if_pos (by omega)]
  have C1 : Hid (∀ W, Calls Try.prog 25 #[.float .f64 y, .float .f64 x] W fun e w' => e = .returned (.int .i64 (-1)) ∧ w' = W) := fun W => by rw [← c1]; exact compare_any y x W
  have hx2 := sixt_top x hx (by rw [hv, hk1])
  have c2 : cmpW z x = 1 := by
    rw [hz, hx2]; decide
  have K2 : Hid (∀ W, Calls Try.prog 21 #[.float .f64 z] W fun e w' => e = .returned (.int .i64 1) ∧ w' = W) := fun W => check_no z W (by unfold W64; omega) (by rw [hz, hx2]; decide)
  have C2 : Hid (∀ W, Calls Try.prog 25 #[.float .f64 z, .float .f64 x] W fun e w' => e = .returned (.int .i64 1) ∧ w' = W) := fun W => by rw [← c2]; exact compare_any z x W
  subst hk1
  have hq : (binOp .quo 25 (.float .f64 (floatOfInt .f64 256)) (.float .f64 4625196817309499392)).run Try.prog w = .ok (.float .f64 x) w := hdiv w
  clear hx hv hdiv hm hn hs hp hy hy2 hz d1 d2 c1 c2 hx2
  have en : ((n : Int) % 257) = (256 : Int) := hnk
  clear hnk
  go_enter Try.func8, Try.ntmps8
  go_wp2_with (first | (go_at_call 10; (with_reducible refine (A.out _).mono ?_); rintro e w1 ⟨rfl, rfl⟩) | (go_at_call 15; (with_reducible refine (U.out _).mono ?_); rintro e w1 ⟨rfl, rfl⟩) | (go_at_call 15; (with_reducible refine (D.out _).mono ?_); rintro e w1 ⟨rfl, rfl⟩) | (go_at_call 23; (with_reducible refine (P1.out _).mono ?_); rintro e w1 ⟨rfl, rfl⟩) | (go_at_call 21; (with_reducible refine (K1.out _).mono ?_); rintro e w1 ⟨rfl, rfl⟩) | (go_at_call 21; (with_reducible refine (K2.out _).mono ?_); rintro e w1 ⟨rfl, rfl⟩) | (go_at_call 23; (with_reducible refine (P3.out _).mono ?_); rintro e w1 ⟨rfl, rfl⟩) | (go_at_call 25; (with_reducible refine (C1.out _).mono ?_); rintro e w1 ⟨rfl, rfl⟩) | (go_at_call 25; (with_reducible refine (C2.out _).mono ?_); rintro e w1 ⟨rfl, rfl⟩))
  go_ret
  exact ⟨rfl, Below.refl _ _⟩
theorem walk (a0 : Int) (w0 : (Lit.int .u16 a0).wf = true) (w : World) :
    Calls Try.prog 8 #[.int .u16 a0] w fun e w' => e = .returned (.bool true) ∧ Below w.heap.size w w' := by
  obtain ⟨n, rfl, hn⟩ := u16_nat w0
  obtain ⟨k, hk⟩ : ∃ k, k = n % 257 := ⟨_, rfl⟩
  have hk2 : k ≤ 256 := by omega
  obtain ⟨x, h1, h2, h3⟩ := sixteenth k hk2
  have hnk : ((n : Int) % 257) = (k : Int) := by omega
  rcases Nat.eq_zero_or_pos k with h0 | h0
  · exact steps_zero n k hk2 hnk x h1 h2 h3 h0 w
  · rcases Nat.lt_or_ge k 256 with h4 | h4
    · exact steps_mid n k hk2 hnk x h1 h2 h3 h0 h4 w
    · exact steps_top n k hk2 hnk x h1 h2 h3 h0 (by omega) w

/-! ### THE ROW's STEP: WRITTEN OUT: LEAVE IT -/
set_option maxRecDepth 100000 in
theorem lifted (os : Os) (started : os.Started) (H : Type) (enc : TypeId × Value → H) :
    ReturnsInHanded {} Try.checked os 8 .any (Rows.weightStepsSpec.pre6 enc Try.prog Try.f8 Rows.weightStepsRow.domain false) (Rows.weightStepsSpec.post enc Try.prog Try.f8 false true false false) := by
  refine returnsInHanded_of_change (C := Try.checked) own started (by kernel_rfl) Try.func8
    (ChangeSpec.witness6 (enc := enc) (C := Try.checked) false ⟨#[], #[.int .u16 0], []⟩ 8 (by kernel_rfl) (by kernel_rfl) (by kernel_rfl) (by kernel_rfl)) ?_
  intro W base args ds gs before hval0 hW hcnd _
  have hval : ∀ (j : Nat) t v, Try.f8.params[j]? = some t → args[j]? = some v → Value.okWide Try.prog W .any base t v := hval0
  have hW' := hW
  obtain ⟨p, q, hA0, hV, rfl, hfz, hnd⟩ := hW
  have hA : DataW.TrodAll enc Try.prog W 0 (fun _ => true) true Try.f8.params.toList args.toList ds p := hA0
  rw [Try.params8] at hA hval
  obtain ⟨v0, vs0, d0, ds0, p0, q0, hargs, rfl, rfl, h0, r0⟩ := trodAll_cons hA
  obtain ⟨rfl, rfl, rfl⟩ := trodAll_nil r0
  obtain rfl : args = #[v0] := by cases args; simp_all
  obtain ⟨rfl, rfl⟩ := trodVars_none hV
  obtain ⟨a0, rfl, rfl, rfl, w0⟩ := open_int Try.underlying51 (hval 0 51 v0 rfl rfl) h0
  clear hA0 hval0
  simp only [List.append_nil] at hW'
  refine (walk a0 w0 W).mono fun e W' ⟨he, bel⟩ => ?_
  subst he
  exact ⟨_, rfl, _, _, _, [], [], [], hW', trodAll_mk1 (shut_bool Try.underlying4 _), (trodAll_cons_mk (shut_int Try.underlying51 w0) trodAll_mk0), rfl, bel.frame _, fun h => by cases h⟩

theorem over : Rows.weightStepsRow.holds Try.pinned (OpenSpec.ofChange Rows.weightStepsSpec) :=
  OpenClaim.holds_of_wide 8 Try.f8 rfl rfl rfl rfl rfl rfl rfl ⟨rfl, rfl, rfl, rfl, rfl⟩ rfl rfl rfl rfl rfl (by kernel_rfl) Try.func8 (by kernel_rfl)
    (of_decide_eq_true (by kernel_rfl)) (by unfold Func.isWrapper; first | (rw [if_pos (by decide +kernel)]; kernel_rfl) | (rw [if_neg (by decide +kernel)]; exact ⟨rfl, rfl⟩))
    (fun os started H enc _ => lifted os started H enc)

/-- ████ THE STATEMENT ████ -/
theorem proved : Rows.WeightStepsSaid :=
  over
#print axioms proved
end Go.Proofs.Ytdhgmpggophcmaa.weightSteps
