import Derived.Test.YtdhgmpggophcmaaWalkA
/- The walks of package weight: Check, Points, Norm, Bits, From. -/
namespace Go.Proofs.Ytdhgmpggophcmaa
open Go.RowKit
abbrev W64 : Nat := 18446744073709551616
theorem f64fmt : FloatKind.f64.format = Ieee.double := rfl
theorem check_ok (b : Nat) (w : World) (hb : b < W64) (h : FM.may b = true) : Calls Try.prog 21 #[.float .f64 b] w fun e w' => e = .returned (.int .i64 0) ∧ w' = w := by
  have ht := FM.may_tests b hb
  rw [h] at ht
  replace ht := ht.symm
  simp only [Bool.and_eq_true, Bool.not_eq_true'] at ht
  obtain ⟨⟨h1, h2⟩, h3⟩ := ht
  have C : ∀ W, Calls Try.prog 28 #[.float .f64 b] W fun e w' => e = .returned (.bool false) ∧ w' = W := fun W => by rw [← h1]; exact isNaN_any b W
  have C' := Lib.hid C
  clear C h1 h hb
  replace h2 : (FloatKind.f64.format.order b 0 == some .lt) = false := h2
  replace h3 : (FloatKind.f64.format.order b 4625196817309499392 == some .gt) = false := h3
  go_enter Try.func21, Try.ntmps21
  go_wp2_with (go_at_call 28; refine (C'.out _).mono ?_; rintro e w1 ⟨rfl, rfl⟩)
  go_ret
  exact ⟨rfl, rfl⟩
theorem check_no (b : Nat) (w : World) (hb : b < W64) (h : FM.may b = false) : Calls Try.prog 21 #[.float .f64 b] w fun e w' => e = .returned (.int .i64 1) ∧ w' = w := by
  have ht := FM.may_tests b hb
  rw [h] at ht
  have C := Lib.hid (fun W => isNaN_any b W)
  cases h1 : FM.nan b
  · rw [h1] at C ht
    cases h2 : (Ieee.double.order b 0 == some .lt)
    · have h3 : (Ieee.double.order b 4625196817309499392 == some .gt) = true := by rw [h2] at ht; simpa using ht.symm
      clear ht h hb h1
      replace h2 : (FloatKind.f64.format.order b 0 == some .lt) = false := h2
      replace h3 : (FloatKind.f64.format.order b 4625196817309499392 == some .gt) = true := h3
      go_enter Try.func21, Try.ntmps21
      go_wp2_with (go_at_call 28; refine (C.out _).mono ?_; rintro e w1 ⟨rfl, rfl⟩)
      go_ret
      exact ⟨rfl, rfl⟩
    · clear ht h hb h1
      replace h2 : (FloatKind.f64.format.order b 0 == some .lt) = true := h2
      go_enter Try.func21, Try.ntmps21
      go_wp2_with (go_at_call 28; refine (C.out _).mono ?_; rintro e w1 ⟨rfl, rfl⟩)
      go_ret
      exact ⟨rfl, rfl⟩
  · rw [h1] at C
    clear ht h hb h1
    go_enter Try.func21, Try.ntmps21
    go_wp2_with (go_at_call 28; refine (C.out _).mono ?_; rintro e w1 ⟨rfl, rfl⟩)
    go_ret
    exact ⟨rfl, rfl⟩
theorem ceil_any (b d : Nat) (w : World) (h : ∀ s t, Ieee.double.read b ≠ .nan s t) (hd : Ieee.double.write ((Ieee.double.read b).integral .up) = d) : Calls Try.prog 33 #[.float .f64 b] w fun e w' => e = .returned (.float .f64 d) ∧ w' = w := by
  have hr := ceil_run b d w h hd
  clear h hd
  go_enter Try.func33, Try.ntmps33
  go_wp2
  go_ret
  exact ⟨rfl, rfl⟩
theorem points_ok (b : Nat) (w : World) (hb : b < W64) (h : FM.may b = true) : Calls Try.prog 23 #[.float .f64 b] w fun e w' => e = .returned (.int .i64 (FM.points b)) ∧ w' = w := by
  obtain ⟨c, d, h1, h2, h3, h4⟩ := FM.points_run h
  have C1 := Lib.hid (fun W => check_ok b W hb h)
  have C2 := Lib.hid (fun W => ceil_any c d W h2 h3)
  have hp := FM.points_le b
  have hm : ∀ W, (binOp .mul 25 (.float .f64 b) (.float .f64 4625196817309499392)).run Try.prog W = .ok (.float .f64 c) W := fun W => run_float_arith W .mul 25 .f64 b _ c h1
  have hc : ∀ W, (convert 25 3 (.float .f64 d)).run Try.prog W = .ok (.int .i64 (FM.points b)) W := fun W => run_convert_float_int W 25 3 .f64 .i64 d _ rfl Try.underlying3 (by
    unfold floatToIntVal
    rw [show FloatKind.f64.decode d = Ieee.double.read d from rfl, h4]
    have hmin : IntKind.i64.min = -9223372036854775808 := by decide
    have hmax : IntKind.i64.max = 9223372036854775807 := by decide
    simp only [hmin, hmax]
    rw [if_pos (by omega)])
  obtain ⟨n, hn⟩ : ∃ n, n = FM.points b := ⟨_, rfl⟩
  rw [← hn] at hc ⊢
  have hm' := hm w
  have hc' := hc w
  clear h1 h2 h3 h4 h hb hp hn hm hc
  go_enter Try.func23, Try.ntmps23
  go_wp2_with (first | (go_at_call 21; refine (C1.out _).mono ?_; rintro e w1 ⟨rfl, rfl⟩) | (go_at_call 33; refine (C2.out _).mono ?_; rintro e w2 ⟨rfl, rfl⟩))
  go_ret
  exact ⟨rfl, rfl⟩
theorem points_no (b : Nat) (w : World) (hb : b < W64) (h : FM.may b = false) : Calls Try.prog 23 #[.float .f64 b] w fun e w' => e = .returned (.int .i64 0) ∧ w' = w := by
  have C1 := Lib.hid (fun W => check_no b W hb h)
  clear hb h
  go_enter Try.func23, Try.ntmps23
  go_wp2_with (go_at_call 21; refine (C1.out _).mono ?_; rintro e w1 ⟨rfl, rfl⟩)
  go_ret
  exact ⟨rfl, rfl⟩
theorem points_any (b : Nat) (w : World) (hb : b < W64) : Calls Try.prog 23 #[.float .f64 b] w fun e w' => e = .returned (.int .i64 (FM.points b)) ∧ w' = w := by
  cases h : FM.may b
  · have : FM.points b = 0 := by unfold FM.points; rw [h]; rfl
    rw [this]; exact points_no b w hb h
  · exact points_ok b w hb h
/-- the sign bit off -/
theorem andNot_sign (b : Nat) (h : b < W64) : bits .andNot .u64 (b : Int) 9223372036854775808 = (FM.rung b : Int) := by
  unfold bits
  simp only [IntKind.bits]
  have e : IntKind.u64.wrap = fun n => n % 18446744073709551616 := by funext n; simp [IntKind.wrap, IntKind.bits, IntKind.signed]
  rw [e]
  simp only
  have e1 : (BitVec.ofInt 64 (b : Int)) = BitVec.ofNat 64 b := BitVec.ofInt_natCast ..
  have e2 : (BitVec.ofInt 64 9223372036854775808) = BitVec.ofNat 64 9223372036854775808 := by decide
  rw [e1, e2]
  have key : (BitVec.ofNat 64 b &&& ~~~BitVec.ofNat 64 9223372036854775808).toNat = b % 9223372036854775808 := by
    have e3 : (~~~BitVec.ofNat 64 9223372036854775808) = BitVec.ofNat 64 (2 ^ 63 - 1) := by decide
    rw [e3, BitVec.toNat_and, BitVec.toNat_ofNat, BitVec.toNat_ofNat, Nat.mod_eq_of_lt h, Nat.mod_eq_of_lt (by decide), Nat.and_two_pow_sub_one_eq_mod]
  show ((BitVec.ofNat 64 b &&& ~~~BitVec.ofNat 64 9223372036854775808).toNat : Int) % 18446744073709551616 = _
  rw [key]
  show ((b % 9223372036854775808 : Nat) : Int) % 18446744073709551616 = ((b % 9223372036854775808 : Nat) : Int)
  omega
theorem abs_any (b : Nat) (w : World) (hb : b < W64) : Calls Try.prog 31 #[.float .f64 b] w fun e w' => e = .returned (.float .f64 (FM.rung b)) ∧ w' = w := by
  have h1 := bits_run b w
  have h2 := andNot_sign b hb
  obtain ⟨r, hr⟩ : ∃ r, r = FM.rung b := ⟨_, rfl⟩
  rw [← hr] at h2 ⊢
  have h3 := from_run r w
  clear hb hr
  go_enter Try.func31, Try.ntmps31
  go_wp2
  go_ret
  exact ⟨rfl, rfl⟩
theorem norm_ok (b : Nat) (w : World) (hb : b < W64) (h : FM.may b = true) : Calls Try.prog 18 #[.float .f64 b] w fun e w' => e = .returned (.tuple #[.float .f64 (FM.rung b), .int .i64 0]) ∧ w' = w := by
  have C1 := Lib.hid (fun W => check_ok b W hb h)
  have C2 := Lib.hid (fun W => abs_any b W hb)
  clear hb h
  go_enter Try.func18, Try.ntmps18
  go_wp2_with (first | (go_at_call 21; refine (C1.out _).mono ?_; rintro e w1 ⟨rfl, rfl⟩) | (go_at_call 31; refine (C2.out _).mono ?_; rintro e w2 ⟨rfl, rfl⟩))
  go_ret2
  exact ⟨rfl, rfl⟩
theorem norm_no (b : Nat) (w : World) (hb : b < W64) (h : FM.may b = false) : Calls Try.prog 18 #[.float .f64 b] w fun e w' => e = .returned (.tuple #[.float .f64 0, .int .i64 1]) ∧ w' = w := by
  have C1 := Lib.hid (fun W => check_no b W hb h)
  clear hb h
  go_enter Try.func18, Try.ntmps18
  go_wp2_with (go_at_call 21; refine (C1.out _).mono ?_; rintro e w1 ⟨rfl, rfl⟩)
  go_ret2
  exact ⟨rfl, rfl⟩
theorem wbits_ok (b : Nat) (w : World) (hb : b < W64) (h : FM.may b = true) : Calls Try.prog 16 #[.float .f64 b] w fun e w' => e = .returned (.tuple #[.int .u64 (FM.rung b), .int .i64 0]) ∧ w' = w := by
  have C1 := Lib.hid (fun W => norm_ok b W hb h)
  obtain ⟨r, hr⟩ : ∃ r, r = FM.rung b := ⟨_, rfl⟩
  rw [← hr] at C1 ⊢
  have h3 := bits_run r w
  clear hb h hr
  go_enter Try.func16, Try.ntmps16
  go_wp2_with (go_at_call 18; refine (C1.out _).mono ?_; rintro e w1 ⟨rfl, rfl⟩)
  go_ret2
  exact ⟨rfl, rfl⟩
theorem wbits_no (b : Nat) (w : World) (hb : b < W64) (h : FM.may b = false) : Calls Try.prog 16 #[.float .f64 b] w fun e w' => e = .returned (.tuple #[.int .u64 0, .int .i64 1]) ∧ w' = w := by
  have C1 := Lib.hid (fun W => norm_no b W hb h)
  have h3 := bits_run 0 w
  clear hb h
  go_enter Try.func16, Try.ntmps16
  go_wp2_with (go_at_call 18; refine (C1.out _).mono ?_; rintro e w1 ⟨rfl, rfl⟩)
  go_ret2
  exact ⟨rfl, rfl⟩
theorem sgn_wrap (b : Nat) (_h : b < W64) : decide (wrap64 (b : Int) < 0) = FM.sgn b := by
  unfold wrap64 FM.sgn
  rw [Bool.eq_iff_iff, decide_eq_true_eq, beq_iff_eq]
  omega
theorem signbit_any (b : Nat) (w : World) (hb : b < W64) : Calls Try.prog 27 #[.float .f64 b] w fun e w' => e = .returned (.bool (FM.sgn b)) ∧ w' = w := by
  have h1 := bits_run b w
  have h2 := Lib.hid (sgn_wrap b hb)
  go_enter Try.func27, Try.ntmps27
  go_wp2
  go_ret
  exact ⟨by rw [← h2.out]; rfl, rfl⟩
theorem from_no (b : Nat) (w : World) (hb : b < W64) (h : FM.may b = false) : Calls Try.prog 19 #[.int .u64 b] w fun e w' => e = .returned (.tuple #[.float .f64 0, .int .i64 1]) ∧ w' = w := by
  have C1 := Lib.hid (fun W => check_no b W hb h)
  have h3 := from_run b w
  clear hb h
  go_enter Try.func19, Try.ntmps19
  go_wp2_with (go_at_call 21; refine (C1.out _).mono ?_; rintro e w1 ⟨rfl, rfl⟩)
  go_ret2
  exact ⟨rfl, rfl⟩
theorem from_neg (b : Nat) (w : World) (hb : b < W64) (h : FM.may b = true) (hs : FM.sgn b = true) : Calls Try.prog 19 #[.int .u64 b] w fun e w' => e = .returned (.tuple #[.float .f64 0, .int .i64 9]) ∧ w' = w := by
  have C1 := Lib.hid (fun W => check_ok b W hb h)
  have C2 := Lib.hid (fun W => signbit_any b W hb)
  rw [hs] at C2
  have h3 := from_run b w
  clear hb h hs
  go_enter Try.func19, Try.ntmps19
  go_wp2_with (first | (go_at_call 21; refine (C1.out _).mono ?_; rintro e w1 ⟨rfl, rfl⟩) | (go_at_call 27; refine (C2.out _).mono ?_; rintro e w1 ⟨rfl, rfl⟩))
  go_ret2
  exact ⟨rfl, rfl⟩
theorem from_ok (b : Nat) (w : World) (hb : b < W64) (h : FM.may b = true) (hs : FM.sgn b = false) : Calls Try.prog 19 #[.int .u64 b] w fun e w' => e = .returned (.tuple #[.float .f64 b, .int .i64 0]) ∧ w' = w := by
  have C1 := Lib.hid (fun W => check_ok b W hb h)
  have C2 := Lib.hid (fun W => signbit_any b W hb)
  rw [hs] at C2
  have h3 := from_run b w
  clear hb h hs
  go_enter Try.func19, Try.ntmps19
  go_wp2_with (first | (go_at_call 21; refine (C1.out _).mono ?_; rintro e w1 ⟨rfl, rfl⟩) | (go_at_call 27; refine (C2.out _).mono ?_; rintro e w1 ⟨rfl, rfl⟩))
  go_ret2
  exact ⟨rfl, rfl⟩
theorem cisNaN_any (b : Nat) (w : World) : Calls Try.prog 38 #[.float .f64 b] w fun e w' => e = .returned (.bool (FM.nan b)) ∧ w' = w := by
  have h := FM.order_self b
  cases hn : FM.nan b
  · rw [hn] at h
    have h' : (FloatKind.f64.format.order b b != some .eq) = false := by rw [bne, show FloatKind.f64.format = Ieee.double from rfl, h]; rfl
    clear h
    go_enter Try.func38, Try.ntmps38
    go_wp2
    go_ret
    exact ⟨rfl, rfl⟩
  · rw [hn] at h
    have h' : (FloatKind.f64.format.order b b != some .eq) = true := by rw [bne, show FloatKind.f64.format = Ieee.double from rfl, h]; rfl
    clear h
    go_enter Try.func38, Try.ntmps38
    go_wp2
    go_ret
    exact ⟨rfl, rfl⟩
/-- how any two words stand: -1, 0, 1; a NaN is below all, and like another. -/
def cmpW (a b : Nat) : Int :=
  if FM.nan a then (if FM.nan b then 0 else -1) else if FM.nan b then 1 else if FM.srank a < FM.srank b then -1 else if FM.srank b < FM.srank a then 1 else 0
set_option maxHeartbeats 400000 in
theorem ccompare_any (a b : Nat) (w : World) : Calls Try.prog 34 #[.float .f64 a, .float .f64 b] w fun e w' => e = .returned (.int .i64 (cmpW a b)) ∧ w' = w := by
  have C1 := Lib.hid (fun W => cisNaN_any a W)
  have C2 := Lib.hid (fun W => cisNaN_any b W)
  have ho := FM.order_any a b
  unfold cmpW
  cases ha : FM.nan a
  · cases hb : FM.nan b
    · rw [ha] at C1; rw [hb] at C2
      rw [ha, hb] at ho
      simp only [Bool.or_self, Bool.false_eq_true, if_false] at ho ⊢
      have h1 : (FloatKind.f64.format.order a b == some .lt) = decide (FM.srank a < FM.srank b) := by rw [f64fmt]; show (FM.D.order a b == _) = _; rw [ho, FM.cmp_lt]
      have h2 : (FloatKind.f64.format.order a b == some .gt) = decide (FM.srank b < FM.srank a) := by rw [f64fmt]; show (FM.D.order a b == _) = _; rw [ho, FM.cmp_gt]
      clear ho ha hb
      by_cases hlt : FM.srank a < FM.srank b
      · rw [if_pos hlt]
        rw [decide_eq_true hlt] at h1
        clear h2 hlt
        go_enter Try.func34, Try.ntmps34
        go_wp2_with (first | (go_at_call 38; (with_reducible refine (C1.out _).mono ?_); rintro e w1 ⟨rfl, rfl⟩) | (go_at_call 38; refine (C2.out _).mono ?_; rintro e w1 ⟨rfl, rfl⟩))
        go_ret
        exact ⟨rfl, rfl⟩
      · rw [if_neg hlt]
        rw [decide_eq_false hlt] at h1
        by_cases hgt : FM.srank b < FM.srank a
        · rw [if_pos hgt]
          rw [decide_eq_true hgt] at h2
          clear hlt hgt
          go_enter Try.func34, Try.ntmps34
          go_wp2_with (first | (go_at_call 38; (with_reducible refine (C1.out _).mono ?_); rintro e w1 ⟨rfl, rfl⟩) | (go_at_call 38; refine (C2.out _).mono ?_; rintro e w1 ⟨rfl, rfl⟩))
          go_ret
          exact ⟨rfl, rfl⟩
        · rw [if_neg hgt]
          rw [decide_eq_false hgt] at h2
          clear hlt hgt
          go_enter Try.func34, Try.ntmps34
          go_wp2_with (first | (go_at_call 38; (with_reducible refine (C1.out _).mono ?_); rintro e w1 ⟨rfl, rfl⟩) | (go_at_call 38; refine (C2.out _).mono ?_; rintro e w1 ⟨rfl, rfl⟩))
          go_ret
          exact ⟨rfl, rfl⟩
    · rw [ha] at C1; rw [hb] at C2
      clear ho ha hb
      rw [if_neg (by decide), if_pos rfl]
      go_enter Try.func34, Try.ntmps34
      go_wp2_with (first | (go_at_call 38; (with_reducible refine (C1.out _).mono ?_); rintro e w1 ⟨rfl, rfl⟩) | (go_at_call 38; refine (C2.out _).mono ?_; rintro e w1 ⟨rfl, rfl⟩))
      go_ret
      exact ⟨rfl, rfl⟩
  · rw [ha] at C1
    cases hb : FM.nan b
    · rw [hb] at C2
      clear ho ha hb
      rw [if_pos rfl, if_neg (by decide)]
      go_enter Try.func34, Try.ntmps34
      go_wp2_with (first | (go_at_call 38; (with_reducible refine (C1.out _).mono ?_); rintro e w1 ⟨rfl, rfl⟩) | (go_at_call 38; refine (C2.out _).mono ?_; rintro e w1 ⟨rfl, rfl⟩))
      go_ret
      exact ⟨rfl, rfl⟩
    · rw [hb] at C2
      clear ho ha hb
      rw [if_pos rfl, if_pos rfl]
      go_enter Try.func34, Try.ntmps34
      go_wp2_with (first | (go_at_call 38; (with_reducible refine (C1.out _).mono ?_); rintro e w1 ⟨rfl, rfl⟩) | (go_at_call 38; refine (C2.out _).mono ?_; rintro e w1 ⟨rfl, rfl⟩))
      go_ret
      exact ⟨rfl, rfl⟩
theorem compare_any (a b : Nat) (w : World) : Calls Try.prog 25 #[.float .f64 a, .float .f64 b] w fun e w' => e = .returned (.int .i64 (cmpW a b)) ∧ w' = w := by
  go_enter Try.func25, Try.ntmps25
  go_wp2_with (go_at_call 34; refine (ccompare_any a b _).mono ?_; rintro e w1 ⟨rfl, rfl⟩)
  go_ret
  exact ⟨rfl, rfl⟩
end Go.Proofs.Ytdhgmpggophcmaa
