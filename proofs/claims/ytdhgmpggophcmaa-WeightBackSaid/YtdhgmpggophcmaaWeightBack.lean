/- The law WeightBack returns true for every input. -/
import Derived.Test.YtdhgmpggophcmaaRows
import Derived.WalkKit
import Derived.ProofKit
import Derived.OpenShut
import Derived.ShutString
import Derived.Test.YtdhgmpggophcmaaWalkD
namespace Go.Proofs.Ytdhgmpggophcmaa.weightBack
open Go.ChangeShapes Go.WideShapes Go.ChangeAt Go.RowKit
open Go.ChangeMaps (open_string shut_string)
set_option linter.unusedVariables false      -- a walk need not use every 'w<i>' (that an integer argument fits its kind)

theorem own : ownKnob Try.prog.godebug = none := by kernel_rfl

theorem u64_nat {a : Int} (h : (Lit.int .u64 a).wf = true) : ∃ b : Nat, a = b ∧ b < W64 := by
  have hmin : IntKind.u64.min = 0 := rfl
  have hmax : IntKind.u64.max = 18446744073709551615 := rfl
  simp only [Lit.wf, Bool.and_eq_true, decide_eq_true_eq] at h
  exact ⟨a.toNat, by omega, by unfold W64; omega⟩
theorem cmp_vals (a b : Nat) : cmpW a b = -1 ∨ cmpW a b = 0 ∨ cmpW a b = 1 := by
  rw [cmpW_rk]; split
  · exact .inl rfl
  · split
    · exact .inr (.inr rfl)
    · exact .inr (.inl rfl)
theorem cmp_self (a : Nat) : cmpW a a = 0 := by rw [cmpW_rk, if_neg (by omega), if_neg (by omega)]
theorem cmp_rev (a b : Nat) : cmpW b a = -cmpW a b := by
  rw [cmpW_rk, cmpW_rk]
  rcases Int.lt_trichotomy (rk a) (rk b) with h | h | h
  · rw [if_neg (by omega), if_pos h, if_pos h]; rfl
  · rw [if_neg (by omega), if_neg (by omega), if_neg (by omega), if_neg (by omega)]; rfl
  · rw [if_pos h, if_neg (by omega), if_pos h]
theorem cmp_le (a b : Nat) : cmpW a b ≤ 0 ↔ rk a ≤ rk b := by
  rw [cmpW_rk]
  rcases Int.lt_trichotomy (rk a) (rk b) with h | h | h
  · rw [if_pos h]; omega
  · rw [if_neg (by omega), if_neg (by omega)]; omega
  · rw [if_neg (by omega), if_pos h]; omega
theorem cmp_zero (a b : Nat) : cmpW a b = 0 ↔ rk a = rk b := by
  rw [cmpW_rk]
  rcases Int.lt_trichotomy (rk a) (rk b) with h | h | h
  · rw [if_pos h]; omega
  · rw [if_neg (by omega), if_neg (by omega)]; omega
  · rw [if_neg (by omega), if_pos h]; omega
theorem cmp_trans (a b c : Nat) (h1 : cmpW a b ≤ 0) (h2 : cmpW b c ≤ 0) : cmpW a c = min (cmpW a b) (cmpW b c) := by
  have k1 := (cmp_le a b).1 h1
  have k2 := (cmp_le b c).1 h2
  have z1 := cmp_zero a b
  have z2 := cmp_zero b c
  have z3 := cmp_zero a c
  have k3 := (cmp_le a c).2 (by omega)
  rcases cmp_vals a b with h | h | h <;> rcases cmp_vals b c with h' | h' | h' <;> rcases cmp_vals a c with h'' | h'' | h'' <;> omega
theorem may_nan {b : Nat} (h : FM.may b = true) : FM.nan b = false := by
  have := FM.may_rung h
  exact decide_eq_false (by omega)
theorem may_rk {b : Nat} (h : FM.may b = true) : rk b = (FM.rung b : Int) := by
  unfold rk
  rw [may_nan h, if_neg (by decide)]
  unfold FM.srank FM.sv
  rcases FM.may_sgn h with hs | hs
  · rw [hs, if_neg (by decide)]
  · rw [hs]; split <;> rfl
theorem rung_facts (a : Nat) (ha : a < W64) (hm : FM.may a = true) : FM.rung a < W64 ∧ FM.may (FM.rung a) = true ∧ FM.sgn (FM.rung a) = false ∧ cmpW (FM.rung a) a = 0 := by
  have h1 := FM.rung_lt a
  have h2 := FM.may_rung hm
  have h3 : FM.may (FM.rung a) = true := by
    have : FM.may (FM.rung a) = (decide (FM.rung (FM.rung a) = 0) || decide (FM.rung a ≤ 4625196817309499392)) := rfl
    rw [this, decide_eq_true h2, Bool.or_true]
  refine ⟨by unfold W64; omega, h3, ?_, ?_⟩
  · unfold FM.sgn
    rw [beq_eq_false_iff_ne]; omega
  · rw [cmp_zero, may_rk hm, may_rk h3]
    have : FM.rung (FM.rung a) = FM.rung a := Nat.mod_eq_of_lt h1
    rw [this]
theorem bits_cmp (a b : Nat) (ha : FM.may a = true) (hb : FM.may b = true) : FM.rung a = FM.rung b ↔ cmpW a b = 0 := by
  rw [cmp_zero, may_rk ha, may_rk hb]; omega
set_option maxRecDepth 100000 in
set_option maxHeartbeats 1600000 in
theorem walk (a0 : Int) (a1 : Int) (w0 : (Lit.int .u64 a0).wf = true) (w1 : (Lit.int .u64 a1).wf = true) (w : World) :
    Calls Try.prog 9 #[.int .u64 a0, .int .u64 a1] w fun e w' => e = .returned (.bool true) ∧ Below w.heap.size w w' := by
  obtain ⟨a, rfl, ha⟩ := u64_nat w0
  obtain ⟨b, rfl, hb⟩ := u64_nat w1
  clear w0 w1
  have A : Hid (∀ W, Calls Try.prog 10 #[] W fun e w' => e = .returned (.bool true) ∧ w' = W) := awake_any
  have r1 := from_run a w
  have r2 := from_run b w
  obtain ⟨r, hr⟩ : ∃ r, r = FM.rung a := ⟨_, rfl⟩
  obtain ⟨s, hs⟩ : ∃ s, s = FM.rung b := ⟨_, rfl⟩
  cases hm : FM.may a
  · have P : Hid (∀ W, Calls Try.prog 23 #[.float .f64 a] W fun e w' => e = .returned (.int .i64 0) ∧ w' = W) := fun W => points_no a W ha hm
    have B1 : Hid (∀ W, Calls Try.prog 16 #[.float .f64 a] W fun e w' => e = .returned (.tuple #[.int .u64 0, .int .i64 1]) ∧ w' = W) := fun W => wbits_no a W ha hm
    cases hn : FM.may b
    · have B2 : Hid (∀ W, Calls Try.prog 16 #[.float .f64 b] W fun e w' => e = .returned (.tuple #[.int .u64 0, .int .i64 1]) ∧ w' = W) := fun W => wbits_no b W hb hn
      clear ha hb hm hn hr hs
      go_enter Try.func9, Try.ntmps9
      go_wp2_with (first | (go_at_call 10; (with_reducible refine (A.out _).mono ?_); rintro e w1 ⟨rfl, rfl⟩) | (go_at_call 16; (with_reducible refine (B1.out _).mono ?_); rintro e w1 ⟨rfl, rfl⟩) | (go_at_call 16; (with_reducible refine (B2.out _).mono ?_); rintro e w1 ⟨rfl, rfl⟩) | (go_at_call 23; (with_reducible refine (P.out _).mono ?_); rintro e w1 ⟨rfl, rfl⟩))
      go_ret
      exact ⟨rfl, Below.refl _ _⟩
    · have B2 : Hid (∀ W, Calls Try.prog 16 #[.float .f64 b] W fun e w' => e = .returned (.tuple #[.int .u64 s, .int .i64 0]) ∧ w' = W) := fun W => by rw [hs]; exact wbits_ok b W hb hn
      clear ha hb hm hn hr hs
      go_enter Try.func9, Try.ntmps9
      go_wp2_with (first | (go_at_call 10; (with_reducible refine (A.out _).mono ?_); rintro e w1 ⟨rfl, rfl⟩) | (go_at_call 16; (with_reducible refine (B1.out _).mono ?_); rintro e w1 ⟨rfl, rfl⟩) | (go_at_call 16; (with_reducible refine (B2.out _).mono ?_); rintro e w1 ⟨rfl, rfl⟩) | (go_at_call 23; (with_reducible refine (P.out _).mono ?_); rintro e w1 ⟨rfl, rfl⟩))
      go_ret
      exact ⟨rfl, Below.refl _ _⟩
  · have B1 : Hid (∀ W, Calls Try.prog 16 #[.float .f64 a] W fun e w' => e = .returned (.tuple #[.int .u64 r, .int .i64 0]) ∧ w' = W) := fun W => by rw [hr]; exact wbits_ok a W ha hm
    obtain ⟨f1, f2, f3, f4⟩ := rung_facts a ha hm
    rw [← hr] at f1 f2 f3 f4
    have F : Hid (∀ W, Calls Try.prog 19 #[.int .u64 r] W fun e w' => e = .returned (.tuple #[.float .f64 r, .int .i64 0]) ∧ w' = W) := fun W => from_ok r W f1 f2 f3
    have S : Hid (∀ W, Calls Try.prog 27 #[.float .f64 r] W fun e w' => e = .returned (.bool false) ∧ w' = W) := fun W => by rw [← f3]; exact signbit_any r W f1
    have C1 : Hid (∀ W, Calls Try.prog 25 #[.float .f64 r, .float .f64 a] W fun e w' => e = .returned (.int .i64 0) ∧ w' = W) := fun W => by rw [← f4]; exact compare_any r a W
    cases hn : FM.may b
    · have B2 : Hid (∀ W, Calls Try.prog 16 #[.float .f64 b] W fun e w' => e = .returned (.tuple #[.int .u64 0, .int .i64 1]) ∧ w' = W) := fun W => wbits_no b W hb hn
      clear ha hb hm hn hr hs f1 f2 f3 f4
      go_enter Try.func9, Try.ntmps9
      go_wp2_with (first | (go_at_call 10; (with_reducible refine (A.out _).mono ?_); rintro e w1 ⟨rfl, rfl⟩) | (go_at_call 16; (with_reducible refine (B1.out _).mono ?_); rintro e w1 ⟨rfl, rfl⟩) | (go_at_call 16; (with_reducible refine (B2.out _).mono ?_); rintro e w1 ⟨rfl, rfl⟩) | (go_at_call 19; (with_reducible refine (F.out _).mono ?_); rintro e w1 ⟨rfl, rfl⟩) | (go_at_call 27; (with_reducible refine (S.out _).mono ?_); rintro e w1 ⟨rfl, rfl⟩) | (go_at_call 25; (with_reducible refine (C1.out _).mono ?_); rintro e w1 ⟨rfl, rfl⟩))
      go_ret
      exact ⟨rfl, Below.refl _ _⟩
    · have B2 : Hid (∀ W, Calls Try.prog 16 #[.float .f64 b] W fun e w' => e = .returned (.tuple #[.int .u64 s, .int .i64 0]) ∧ w' = W) := fun W => by rw [hs]; exact wbits_ok b W hb hn
      have hz := bits_cmp a b hm hn
      rw [← hr, ← hs] at hz
      obtain ⟨z, hzz⟩ : ∃ z, z = cmpW a b := ⟨_, rfl⟩
      have C2 : Hid (∀ W, Calls Try.prog 25 #[.float .f64 a, .float .f64 b] W fun e w' => e = .returned (.int .i64 z) ∧ w' = W) := fun W => by rw [hzz]; exact compare_any a b W
      rw [← hzz] at hz
      clear ha hb hm hn hr hs f1 f2 f3 f4 hzz
      by_cases h0 : r = s
      · have z0 := hz.1 h0
        clear hz
        subst h0 z0
        go_enter Try.func9, Try.ntmps9
        go_wp2_with (first | (go_at_call 10; (with_reducible refine (A.out _).mono ?_); rintro e w1 ⟨rfl, rfl⟩) | (go_at_call 16; (with_reducible refine (B1.out _).mono ?_); rintro e w1 ⟨rfl, rfl⟩) | (go_at_call 16; (with_reducible refine (B2.out _).mono ?_); rintro e w1 ⟨rfl, rfl⟩) | (go_at_call 19; (with_reducible refine (F.out _).mono ?_); rintro e w1 ⟨rfl, rfl⟩) | (go_at_call 27; (with_reducible refine (S.out _).mono ?_); rintro e w1 ⟨rfl, rfl⟩) | (go_at_call 25; (with_reducible refine (C1.out _).mono ?_); rintro e w1 ⟨rfl, rfl⟩) | (go_at_call 25; (with_reducible refine (C2.out _).mono ?_); rintro e w1 ⟨rfl, rfl⟩))
        go_ret
        exact ⟨rfl, Below.refl _ _⟩
      · have z0 : (z == 0) = false := by rw [beq_eq_false_iff_ne]; exact fun h => h0 (hz.2 h)
        have i0 : ((r : Int) == (s : Int)) = false := by rw [beq_eq_false_iff_ne]; omega
        clear hz h0
        go_enter Try.func9, Try.ntmps9
        go_wp2_with (first | (go_at_call 10; (with_reducible refine (A.out _).mono ?_); rintro e w1 ⟨rfl, rfl⟩) | (go_at_call 16; (with_reducible refine (B1.out _).mono ?_); rintro e w1 ⟨rfl, rfl⟩) | (go_at_call 16; (with_reducible refine (B2.out _).mono ?_); rintro e w1 ⟨rfl, rfl⟩) | (go_at_call 19; (with_reducible refine (F.out _).mono ?_); rintro e w1 ⟨rfl, rfl⟩) | (go_at_call 27; (with_reducible refine (S.out _).mono ?_); rintro e w1 ⟨rfl, rfl⟩) | (go_at_call 25; (with_reducible refine (C1.out _).mono ?_); rintro e w1 ⟨rfl, rfl⟩) | (go_at_call 25; (with_reducible refine (C2.out _).mono ?_); rintro e w1 ⟨rfl, rfl⟩))
        go_ret
        exact ⟨rfl, Below.refl _ _⟩

/-! ### THE ROW's STEP: WRITTEN OUT: LEAVE IT -/
set_option maxRecDepth 100000 in
theorem lifted (os : Os) (started : os.Started) (H : Type) (enc : TypeId × Value → H) :
    ReturnsInHanded {} Try.checked os 9 .any (Rows.weightBackSpec.pre6 enc Try.prog Try.f9 Rows.weightBackRow.domain false) (Rows.weightBackSpec.post enc Try.prog Try.f9 false true false false) := by
  refine returnsInHanded_of_change (C := Try.checked) own started (by kernel_rfl) Try.func9
    (ChangeSpec.witness6 (enc := enc) (C := Try.checked) false ⟨#[], #[.int .u64 0, .int .u64 0], []⟩ 8 (by kernel_rfl) (by kernel_rfl) (by kernel_rfl) (by kernel_rfl)) ?_
  intro W base args ds gs before hval0 hW hcnd _
  have hval : ∀ (j : Nat) t v, Try.f9.params[j]? = some t → args[j]? = some v → Value.okWide Try.prog W .any base t v := hval0
  have hW' := hW
  obtain ⟨p, q, hA0, hV, rfl, hfz, hnd⟩ := hW
  have hA : DataW.TrodAll enc Try.prog W 0 (fun _ => true) true Try.f9.params.toList args.toList ds p := hA0
  rw [Try.params9] at hA hval
  obtain ⟨v0, vs0, d0, ds0, p0, q0, hargs, rfl, rfl, h0, r0⟩ := trodAll_cons hA
  obtain ⟨v1, vs1, d1, ds1, p1, q1, rfl, rfl, rfl, h1, r1⟩ := trodAll_cons r0
  obtain ⟨rfl, rfl, rfl⟩ := trodAll_nil r1
  obtain rfl : args = #[v0, v1] := by cases args; simp_all
  obtain ⟨rfl, rfl⟩ := trodVars_none hV
  obtain ⟨a0, rfl, rfl, rfl, w0⟩ := open_int Try.underlying22 (hval 0 22 v0 rfl rfl) h0
  obtain ⟨a1, rfl, rfl, rfl, w1⟩ := open_int Try.underlying22 (hval 1 22 v1 rfl rfl) h1
  clear hA0 hval0
  simp only [List.append_nil] at hW'
  refine (walk a0 a1 w0 w1 W).mono fun e W' ⟨he, bel⟩ => ?_
  subst he
  exact ⟨_, rfl, _, _, _, [], [], [], hW', trodAll_mk1 (shut_bool Try.underlying4 _), (trodAll_cons_mk (shut_int Try.underlying22 w0) (trodAll_cons_mk (shut_int Try.underlying22 w1) trodAll_mk0)), rfl, bel.frame _, fun h => by cases h⟩

theorem over : Rows.weightBackRow.holds Try.pinned (OpenSpec.ofChange Rows.weightBackSpec) :=
  OpenClaim.holds_of_wide 9 Try.f9 rfl rfl rfl rfl rfl rfl rfl ⟨rfl, rfl, rfl, rfl, rfl⟩ rfl rfl rfl rfl rfl (by kernel_rfl) Try.func9 (by kernel_rfl)
    (of_decide_eq_true (by kernel_rfl)) (by unfold Func.isWrapper; first | (rw [if_pos (by decide +kernel)]; kernel_rfl) | (rw [if_neg (by decide +kernel)]; exact ⟨rfl, rfl⟩))
    (fun os started H enc _ => lifted os started H enc)

/-- ████ THE STATEMENT ████ -/
theorem proved : Rows.WeightBackSaid :=
  over
#print axioms proved
end Go.Proofs.Ytdhgmpggophcmaa.weightBack
