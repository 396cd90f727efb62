import Derived.Test.YtgonagkhnkhcnaaWalkA
/- The walks of package weight: Check, Points, Norm, Bits, From. -/
namespace Go.Proofs.Ytgonagkhnkhcnaa
set_option maxRecDepth 100000
open Go.RowKit
abbrev W64 : Nat := 18446744073709551616
theorem f64fmt : FloatKind.f64.format = Ieee.double := rfl
theorem check_ok (b : Nat) (w : World) (hb : b < W64) (h : FM.may b = true) : Calls Try.prog 30 #[.float .f64 b] w fun e w' => e = .returned (.int .i64 0) ∧ w' = w := by
  have ht := FM.may_tests b hb
  rw [h] at ht
  replace ht := ht.symm
  simp only [Bool.and_eq_true, Bool.not_eq_true'] at ht
  obtain ⟨⟨h1, h2⟩, h3⟩ := ht
  have C : ∀ W, Calls Try.prog 42 #[.float .f64 b] W fun e w' => e = .returned (.bool false) ∧ w' = W := fun W => by rw [← h1]; exact isNaN_any b W
  have C' := Lib.hid C
  clear C h1 h hb
  replace h2 : (FloatKind.f64.format.order b 0 == some .lt) = false := h2
  replace h3 : (FloatKind.f64.format.order b 4625196817309499392 == some .gt) = false := h3
  go_enter Try.func30, Try.ntmps30
  go_wp2_with (go_at_call 42; refine (C'.out _).mono ?_; rintro e w1 ⟨rfl, rfl⟩)
  go_ret
  exact ⟨rfl, rfl⟩
theorem check_no (b : Nat) (w : World) (hb : b < W64) (h : FM.may b = false) : Calls Try.prog 30 #[.float .f64 b] w fun e w' => e = .returned (.int .i64 1) ∧ w' = w := by
  have ht := FM.may_tests b hb
  rw [h] at ht
  have C := Lib.hid (fun W => isNaN_any b W)
  cases h1 : FM.nan b
  · rw [h1] at C ht
    cases h2 : (Ieee.double.order b 0 == some .lt)
    · have h3 : (Ieee.double.order b 4625196817309499392 == some .gt) = true := by rw [h2] at ht; simpa using ht.symm
      clear ht h hb h1
      replace h2 : (FloatKind.f64.format.order b 0 == some .lt) = false := h2
      replace h3 : (FloatKind.f64.format.order b 4625196817309499392 == some .gt) = true := h3
      go_enter Try.func30, Try.ntmps30
      go_wp2_with (go_at_call 42; refine (C.out _).mono ?_; rintro e w1 ⟨rfl, rfl⟩)
      go_ret
      exact ⟨rfl, rfl⟩
    · clear ht h hb h1
      replace h2 : (FloatKind.f64.format.order b 0 == some .lt) = true := h2
      go_enter Try.func30, Try.ntmps30
      go_wp2_with (go_at_call 42; refine (C.out _).mono ?_; rintro e w1 ⟨rfl, rfl⟩)
      go_ret
      exact ⟨rfl, rfl⟩
  · rw [h1] at C
    clear ht h hb h1
    go_enter Try.func30, Try.ntmps30
    go_wp2_with (go_at_call 42; refine (C.out _).mono ?_; rintro e w1 ⟨rfl, rfl⟩)
    go_ret
    exact ⟨rfl, rfl⟩
theorem ceil_any (b d : Nat) (w : World) (h : ∀ s t, Ieee.double.read b ≠ .nan s t) (hd : Ieee.double.write ((Ieee.double.read b).integral .up) = d) : Calls Try.prog 54 #[.float .f64 b] w fun e w' => e = .returned (.float .f64 d) ∧ w' = w := by
  have hr := ceil_run b d w h hd
  clear h hd
  go_enter Try.func54, Try.ntmps54
  go_wp2
  go_ret
  exact ⟨rfl, rfl⟩
theorem points_ok (b : Nat) (w : World) (hb : b < W64) (h : FM.may b = true) : Calls Try.prog 35 #[.float .f64 b] w fun e w' => e = .returned (.int .i64 (FM.points b)) ∧ w' = w := by
  obtain ⟨c, d, h1, h2, h3, h4⟩ := FM.points_run h
  have C1 := Lib.hid (fun W => check_ok b W hb h)
  have C2 := Lib.hid (fun W => ceil_any c d W h2 h3)
  have hp := FM.points_le b
  have hm : ∀ W, (binOp .mul 30 (.float .f64 b) (.float .f64 4625196817309499392)).run Try.prog W = .ok (.float .f64 c) W := fun W => run_float_arith W .mul 30 .f64 b _ c h1
  have hc : ∀ W, (convert 30 3 (.float .f64 d)).run Try.prog W = .ok (.int .i64 (FM.points b)) W := fun W => run_convert_float_int W 30 3 .f64 .i64 d _ (by rw [Try.underlying30]; rfl) Try.underlying3 (by
    unfold floatToIntVal
    rw [show FloatKind.f64.decode d = Ieee.double.read d from rfl, h4]
    have hmin : IntKind.i64.min = -9223372036854775808 := by decide
    have hmax : IntKind.i64.max = 9223372036854775807 := by decide
    simp only [hmin, hmax]
    rw [if_pos (by omega)])
  obtain ⟨n, hn⟩ : ∃ n, n = FM.points b := ⟨_, rfl⟩
  rw [← hn] at hc ⊢
  have hm' := hm w
  have hc' := hc w
  clear h1 h2 h3 h4 h hb hp hn hm hc
  go_enter Try.func35, Try.ntmps35
  go_wp2_with (first | (go_at_call 30; refine (C1.out _).mono ?_; rintro e w1 ⟨rfl, rfl⟩) | (go_at_call 54; refine (C2.out _).mono ?_; rintro e w2 ⟨rfl, rfl⟩))
  go_ret
  exact ⟨rfl, rfl⟩
theorem points_no (b : Nat) (w : World) (hb : b < W64) (h : FM.may b = false) : Calls Try.prog 35 #[.float .f64 b] w fun e w' => e = .returned (.int .i64 0) ∧ w' = w := by
  have C1 := Lib.hid (fun W => check_no b W hb h)
  clear hb h
  go_enter Try.func35, Try.ntmps35
  go_wp2_with (go_at_call 30; refine (C1.out _).mono ?_; rintro e w1 ⟨rfl, rfl⟩)
  go_ret
  exact ⟨rfl, rfl⟩
theorem points_any (b : Nat) (w : World) (hb : b < W64) : Calls Try.prog 35 #[.float .f64 b] w fun e w' => e = .returned (.int .i64 (FM.points b)) ∧ w' = w := by
  cases h : FM.may b
  · have : FM.points b = 0 := by unfold FM.points; rw [h]; rfl
    rw [this]; exact points_no b w hb h
  · exact points_ok b w hb h
/-- the sign bit off -/
theorem andNot_sign (b : Nat) (h : b < W64) : bits .andNot .u64 (b : Int) 9223372036854775808 = (FM.rung b : Int) := by
  unfold bits
  simp only [IntKind.bits]
  have e : IntKind.u64.wrap = fun n => n % 18446744073709551616 := by funext n; simp [IntKind.wrap, IntKind.bits, IntKind.signed]
  rw [e]
  simp only
  have e1 : (BitVec.ofInt 64 (b : Int)) = BitVec.ofNat 64 b := BitVec.ofInt_natCast ..
  have e2 : (BitVec.ofInt 64 9223372036854775808) = BitVec.ofNat 64 9223372036854775808 := by decide
  rw [e1, e2]
  have key : (BitVec.ofNat 64 b &&& ~~~BitVec.ofNat 64 9223372036854775808).toNat = b % 9223372036854775808 := by
    have e3 : (~~~BitVec.ofNat 64 9223372036854775808) = BitVec.ofNat 64 (2 ^ 63 - 1) := by decide
    rw [e3, BitVec.toNat_and, BitVec.toNat_ofNat, BitVec.toNat_ofNat, Nat.mod_eq_of_lt h, Nat.mod_eq_of_lt (by decide), Nat.and_two_pow_sub_one_eq_mod]
  show ((BitVec.ofNat 64 b &&& ~~~BitVec.ofNat 64 9223372036854775808).toNat : Int) % 18446744073709551616 = _
  rw [key]
  show ((b % 9223372036854775808 : Nat) : Int) % 18446744073709551616 = ((b % 9223372036854775808 : Nat) : Int)
  omega
theorem abs_any (b : Nat) (w : World) (hb : b < W64) : Calls Try.prog 31 #[.float .f64 b] w fun e w' => e = .returned (.float .f64 (FM.rung b)) ∧ w' = w := by
  have h1 := bits_run b w
  have h2 := andNot_sign b hb
  obtain ⟨r, hr⟩ : ∃ r, r = FM.rung b := ⟨_, rfl⟩
  rw [← hr] at h2 ⊢
  have h3 := from_run r w
  clear hb hr
  go_enter Try.func31, Try.ntmps31
  go_wp2
  go_ret
  exact ⟨rfl, rfl⟩
theorem sgn_wrap (b : Nat) (_h : b < W64) : decide (wrap64 (b : Int) < 0) = FM.sgn b := by
  unfold wrap64 FM.sgn
  rw [Bool.eq_iff_iff, decide_eq_true_eq, beq_iff_eq]
  omega
/-- how any two words stand: -1, 0, 1; a NaN is below all, and like another. -/
def cmpW (a b : Nat) : Int :=
  if FM.nan a then (if FM.nan b then 0 else -1) else if FM.nan b then 1 else if FM.srank a < FM.srank b then -1 else if FM.srank b < FM.srank a then 1 else 0

end Go.Proofs.Ytgonagkhnkhcnaa
