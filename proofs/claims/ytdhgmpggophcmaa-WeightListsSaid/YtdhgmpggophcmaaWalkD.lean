import Derived.Test.YtdhgmpggophcmaaWalkC
/- The walks of the reference's order of layer 21, and of math.Nextafter. -/
namespace Go.Proofs.Ytdhgmpggophcmaa
open Go.RowKit
def rk (b : Nat) : Int := if FM.nan b then -9223372036854775807 else FM.srank b
theorem cmpW_rk (a b : Nat) : cmpW a b = if rk a < rk b then -1 else if rk b < rk a then 1 else 0 := by
  have ha := FM.rung_lt a
  have hb := FM.rung_lt b
  unfold cmpW rk
  cases h1 : FM.nan a <;> cases h2 : FM.nan b
  · rfl
  · have h3 : ¬ 9218868437227405312 < FM.rung a := of_decide_eq_false h1
    have : -9223372036854775807 < FM.srank a := by unfold FM.srank FM.sv; split <;> omega
    simp only [Bool.false_eq_true, if_false, if_true]
    rw [if_neg (by omega), if_pos this]
  · have h3 : ¬ 9218868437227405312 < FM.rung b := of_decide_eq_false h2
    have : -9223372036854775807 < FM.srank b := by unfold FM.srank FM.sv; split <;> omega
    simp only [Bool.false_eq_true, if_false, if_true]
    rw [if_pos this]
  · simp only [if_true]
    rw [if_neg (by omega), if_neg (by omega)]
set_option maxHeartbeats 400000 in
theorem rank_any (b : Nat) (w : World) (hb : b < W64) : Calls Try.prog 35 #[.float .f64 b] w fun e w' => e = .returned (.int .i64 (rk b)) ∧ w' = w := by
  have C := Lib.hid (fun W => parts_any b W hb)
  have hr := FM.rung_lt b
  unfold rk
  have hnan : FM.nan b = decide (9218868437227405312 < FM.rung b) := rfl
  obtain ⟨e, he⟩ : ∃ e, e = FM.rung b / 4503599627370496 := ⟨_, rfl⟩
  obtain ⟨m, hm⟩ : ∃ m, m = FM.rung b % 4503599627370496 := ⟨_, rfl⟩
  rw [← he, ← hm] at C
  have hem : FM.rung b = e * 4503599627370496 + m := by omega
  have hm2 : (m : Int) < 4503599627370496 := by omega
  have he2 : (e : Int) ≤ 2047 := by omega
  cases hn : FM.nan b
  · have h1 : ¬ (9218868437227405312 < FM.rung b) := of_decide_eq_false hn
    rw [if_neg (by decide)]
    have hsr : FM.srank b = FM.sv (FM.sgn b) (e * 4503599627370496 + m) := by unfold FM.srank; rw [hem]
    rw [hsr]
    unfold FM.sv
    by_cases h2 : e = 2047
    · have hm0 : m = 0 := by omega
      have h2' : ((e : Int) == 2047) = true := by rw [beq_iff_eq]; omega
      have h3' : ((m : Int) != 0) = false := by rw [bne_eq_false_iff_eq]; omega
      cases hs : FM.sgn b
      · rw [hs] at C
        have HE := Lib.hid (show (e : Int) * 4503599627370496 + (m : Int) = ((e * 4503599627370496 + m : Nat) : Int) by omega)
        rw [if_neg (by decide)]
        clear hn h1 hsr hs he hm hem hr hnan h2 hm0
        go_enter Try.func35, Try.ntmps35
        go_wp2_with (go_at_call 32; refine (C.out _).mono ?_; rintro e w1 ⟨rfl, rfl⟩)
        go_ret
        exact ⟨by rw [← HE.out]; rfl, rfl⟩
      · rw [hs] at C
        have HE := Lib.hid (show (e : Int) * 4503599627370496 + (m : Int) = ((e * 4503599627370496 + m : Nat) : Int) by omega)
        rw [if_pos rfl]
        clear hn h1 hsr hs he hm hem hr hnan h2 hm0
        go_enter Try.func35, Try.ntmps35
        go_wp2_with (go_at_call 32; refine (C.out _).mono ?_; rintro e w1 ⟨rfl, rfl⟩)
        go_ret
        exact ⟨by rw [← HE.out]; rfl, rfl⟩
    · have h2' : ((e : Int) == 2047) = false := by rw [beq_eq_false_iff_ne]; omega
      cases hs : FM.sgn b
      · rw [hs] at C
        have HE := Lib.hid (show (e : Int) * 4503599627370496 + (m : Int) = ((e * 4503599627370496 + m : Nat) : Int) by omega)
        rw [if_neg (by decide)]
        clear hn h1 hsr hs he hm hem hr hnan h2
        go_enter Try.func35, Try.ntmps35
        go_wp2_with (go_at_call 32; refine (C.out _).mono ?_; rintro e w1 ⟨rfl, rfl⟩)
        go_ret
        exact ⟨by rw [← HE.out]; rfl, rfl⟩
      · rw [hs] at C
        have HE := Lib.hid (show (e : Int) * 4503599627370496 + (m : Int) = ((e * 4503599627370496 + m : Nat) : Int) by omega)
        rw [if_pos rfl]
        clear hn h1 hsr hs he hm hem hr hnan h2
        go_enter Try.func35, Try.ntmps35
        go_wp2_with (go_at_call 32; refine (C.out _).mono ?_; rintro e w1 ⟨rfl, rfl⟩)
        go_ret
        exact ⟨by rw [← HE.out]; rfl, rfl⟩
  · have h1 : 9218868437227405312 < FM.rung b := of_decide_eq_true hn
    have h2' : ((e : Int) == 2047) = true := by rw [beq_iff_eq]; omega
    have h3' : ((m : Int) != 0) = true := by rw [bne_iff_ne]; omega
    rw [if_pos rfl]
    clear hn h1 he hm hem hr hnan
    go_enter Try.func35, Try.ntmps35
    go_wp2_with (go_at_call 32; refine (C.out _).mono ?_; rintro e w1 ⟨rfl, rfl⟩)
    go_ret
    exact ⟨rfl, rfl⟩
theorem rcompare_any (a b : Nat) (w : World) (ha : a < W64) (hb : b < W64) : Calls Try.prog 26 #[.float .f64 a, .float .f64 b] w fun e w' => e = .returned (.int .i64 (cmpW a b)) ∧ w' = w := by
  have C1 := Lib.hid (fun W => rank_any a W ha)
  have C2 := Lib.hid (fun W => rank_any b W hb)
  rw [cmpW_rk]
  obtain ⟨x, hx⟩ : ∃ x, x = rk a := ⟨_, rfl⟩
  obtain ⟨y, hy⟩ : ∃ y, y = rk b := ⟨_, rfl⟩
  have C3 : Hid (∀ W, Calls Try.prog 35 #[.float .f64 a] W fun e w' => e = .returned (.int .i64 x) ∧ w' = W) := fun W => by rw [hx]; exact C1.out W
  have C4 : Hid (∀ W, Calls Try.prog 35 #[.float .f64 b] W fun e w' => e = .returned (.int .i64 y) ∧ w' = W) := fun W => by rw [hy]; exact C2.out W
  rw [← hx, ← hy]
  clear C1 C2 hx hy ha hb
  by_cases h1 : x < y
  · rw [if_pos h1]
    go_enter Try.func26, Try.ntmps26
    go_wp2_with (first | (go_at_call 35; (with_reducible refine (C3.out _).mono ?_); rintro e w1 ⟨rfl, rfl⟩) | (go_at_call 35; refine (C4.out _).mono ?_; rintro e w1 ⟨rfl, rfl⟩))
    go_ret
    exact ⟨rfl, rfl⟩
  · rw [if_neg h1]
    by_cases h2 : y < x
    · rw [if_pos h2]
      go_enter Try.func26, Try.ntmps26
      go_wp2_with (first | (go_at_call 35; (with_reducible refine (C3.out _).mono ?_); rintro e w1 ⟨rfl, rfl⟩) | (go_at_call 35; refine (C4.out _).mono ?_; rintro e w1 ⟨rfl, rfl⟩))
      go_ret
      exact ⟨rfl, rfl⟩
    · rw [if_neg h2]
      go_enter Try.func26, Try.ntmps26
      go_wp2_with (first | (go_at_call 35; (with_reducible refine (C3.out _).mono ?_); rintro e w1 ⟨rfl, rfl⟩) | (go_at_call 35; refine (C4.out _).mono ?_; rintro e w1 ⟨rfl, rfl⟩))
      go_ret
      exact ⟨rfl, rfl⟩
theorem and_pow (n k : Nat) : n &&& 2 ^ k = if n.testBit k then 2 ^ k else 0 := by
  apply Nat.eq_of_testBit_eq
  intro i
  rw [Nat.testBit_and, Nat.testBit_two_pow]
  by_cases h : k = i
  · subst h
    cases n.testBit k <;> simp
  · cases n.testBit k <;> simp [h]
theorem and_sign (c : Nat) (h : c < W64) : bits .and .u64 (c : Int) 9223372036854775808 = if FM.sgn c then 9223372036854775808 else 0 := by
  unfold bits
  simp only [IntKind.bits]
  have e : IntKind.u64.wrap = fun n => n % 18446744073709551616 := by funext n; simp [IntKind.wrap, IntKind.bits, IntKind.signed]
  rw [e]
  simp only
  have e1 : (BitVec.ofInt 64 (c : Int)) = BitVec.ofNat 64 c := BitVec.ofInt_natCast ..
  have e2 : (BitVec.ofInt 64 9223372036854775808) = BitVec.ofNat 64 (2 ^ 63) := by decide
  rw [e1, e2]
  have key : (BitVec.ofNat 64 c &&& BitVec.ofNat 64 (2 ^ 63)).toNat = if FM.sgn c then 9223372036854775808 else 0 := by
    rw [BitVec.toNat_and, BitVec.toNat_ofNat, BitVec.toNat_ofNat, Nat.mod_eq_of_lt h, Nat.mod_eq_of_lt (by decide), and_pow, Nat.testBit_eq_decide_div_mod_eq]
    unfold FM.sgn
    have h1 : c / 9223372036854775808 = 0 ∨ c / 9223372036854775808 = 1 := by unfold W64 at h; omega
    rcases h1 with h1 | h1
    · rw [show c / 2 ^ 63 = 0 from h1]; rfl
    · rw [show c / 2 ^ 63 = 1 from h1]; rfl
  show ((BitVec.ofNat 64 c &&& BitVec.ofNat 64 (2 ^ 63)).toNat : Int) % 18446744073709551616 = _
  rw [key]
  cases FM.sgn c <;> rfl
theorem copysign_one (c : Nat) (w : World) (hc : c < W64) : Calls Try.prog 30 #[.float .f64 1, .float .f64 c] w fun e w' => e = .returned (.float .f64 (if FM.sgn c then 9223372036854775809 else 1)) ∧ w' = w := by
  have h1 : (callFunc 14 #[.float .f64 1]).run Try.prog w = .ok (.value (.int .u64 1)) w := bits_run 1 w
  have h2 := bits_run c w
  have h3 := and_sign c hc
  have h4 : bits .andNot .u64 1 9223372036854775808 = 1 := by decide
  cases hs : FM.sgn c
  · rw [hs] at h3
    simp only [Bool.false_eq_true, if_false] at h3 ⊢
    have h5 : bits .or .u64 1 0 = 1 := by decide
    have h6 : (callFunc 11 #[.int .u64 1]).run Try.prog w = .ok (.value (.float .f64 1)) w := from_run 1 w
    clear hs hc
    go_enter Try.func30, Try.ntmps30
    go_wp2
    go_ret
    exact ⟨rfl, rfl⟩
  · rw [hs] at h3
    simp only [if_true] at h3 ⊢
    have h5 : bits .or .u64 1 9223372036854775808 = 9223372036854775809 := by decide
    have h6 : (callFunc 11 #[.int .u64 9223372036854775809]).run Try.prog w = .ok (.value (.float .f64 9223372036854775809)) w := from_run 9223372036854775809 w
    clear hs hc
    go_enter Try.func30, Try.ntmps30
    go_wp2
    go_ret
    exact ⟨rfl, rfl⟩
set_option maxHeartbeats 400000 in
theorem next_up (b c : Nat) (w : World) (h1 : FM.nan b = false) (h2 : FM.nan c = false) (h3 : 0 < FM.srank b) (h4 : FM.srank b < FM.srank c) (h5 : b + 1 < W64) : Calls Try.prog 15 #[.float .f64 b, .float .f64 c] w fun e w' => e = .returned (.float .f64 (b + 1)) ∧ w' = w := by
  have C1 := Lib.hid (fun W => isNaN_any b W)
  have C2 := Lib.hid (fun W => isNaN_any c W)
  rw [h1] at C1; rw [h2] at C2
  have o1 : (FloatKind.f64.format.order b c == some .eq) = false := by show (FM.D.order b c == _) = _; rw [FM.order_any, h1, h2, if_neg (by decide), FM.cmp_eq]; exact decide_eq_false (by omega)
  have o2 : (FloatKind.f64.format.order b 0 == some .eq) = false := by show (FM.D.order b 0 == _) = _; rw [FM.order_any, h1, if_neg (by decide), FM.cmp_eq, show FM.srank 0 = 0 by decide]; exact decide_eq_false (by omega)
  have o3 : (FloatKind.f64.format.order c b == some .gt) = true := by show (FM.D.order c b == _) = _; rw [FM.order_any, h1, h2, if_neg (by decide), FM.cmp_gt]; exact decide_eq_true (by omega)
  have o4 : (FloatKind.f64.format.order b 0 == some .gt) = true := by show (FM.D.order b 0 == _) = _; rw [FM.order_any, h1, if_neg (by decide), FM.cmp_gt, show FM.srank 0 = 0 by decide]; exact decide_eq_true (by omega)
  have r1 := bits_run b w
  have r3 : (((b : Int) + 1) % 18446744073709551616) = ((b + 1 : Nat) : Int) := by unfold W64 at h5; omega
  obtain ⟨d, hd⟩ : ∃ d, d = b + 1 := ⟨_, rfl⟩
  rw [← hd] at r3 ⊢
  have r2 := from_run d w
  have r4 : IntKind.u64.wrap ((b : Int) + 1) = (d : Int) := by rw [← r3]; simp [IntKind.wrap, IntKind.bits, IntKind.signed]
  clear h1 h2 h3 h4 h5 hd r3
  go_enter Try.func15, Try.ntmps15
  go_wp2_with (first | (go_at_call 28; (with_reducible refine (C1.out _).mono ?_); rintro e w1 ⟨rfl, rfl⟩) | (go_at_call 28; refine (C2.out _).mono ?_; rintro e w1 ⟨rfl, rfl⟩))
  go_ret
  exact ⟨rfl, rfl⟩
set_option maxHeartbeats 400000 in
theorem next_down (b c : Nat) (w : World) (h1 : FM.nan b = false) (h2 : FM.nan c = false) (h3 : 0 < FM.srank b) (h4 : FM.srank c < FM.srank b) (h5 : b < W64) (h6 : 0 < b) : Calls Try.prog 15 #[.float .f64 b, .float .f64 c] w fun e w' => e = .returned (.float .f64 (b - 1)) ∧ w' = w := by
  have C1 := Lib.hid (fun W => isNaN_any b W)
  have C2 := Lib.hid (fun W => isNaN_any c W)
  rw [h1] at C1; rw [h2] at C2
  have o1 : (FloatKind.f64.format.order b c == some .eq) = false := by show (FM.D.order b c == _) = _; rw [FM.order_any, h1, h2, if_neg (by decide), FM.cmp_eq]; exact decide_eq_false (by omega)
  have o2 : (FloatKind.f64.format.order b 0 == some .eq) = false := by show (FM.D.order b 0 == _) = _; rw [FM.order_any, h1, if_neg (by decide), FM.cmp_eq, show FM.srank 0 = 0 by decide]; exact decide_eq_false (by omega)
  have o3 : (FloatKind.f64.format.order c b == some .gt) = false := by show (FM.D.order c b == _) = _; rw [FM.order_any, h1, h2, if_neg (by decide), FM.cmp_gt]; exact decide_eq_false (by omega)
  have o4 : (FloatKind.f64.format.order b 0 == some .gt) = true := by show (FM.D.order b 0 == _) = _; rw [FM.order_any, h1, if_neg (by decide), FM.cmp_gt, show FM.srank 0 = 0 by decide]; exact decide_eq_true (by omega)
  have r1 := bits_run b w
  have r3 : (((b : Int) - 1) % 18446744073709551616) = ((b - 1 : Nat) : Int) := by unfold W64 at h5; omega
  obtain ⟨d, hd⟩ : ∃ d, d = b - 1 := ⟨_, rfl⟩
  rw [← hd] at r3 ⊢
  have r2 := from_run d w
  have r4 : IntKind.u64.wrap ((b : Int) - 1) = (d : Int) := by rw [← r3]; simp [IntKind.wrap, IntKind.bits, IntKind.signed]
  clear h1 h2 h3 h4 h5 h6 hd r3
  go_enter Try.func15, Try.ntmps15
  go_wp2_with (first | (go_at_call 28; (with_reducible refine (C1.out _).mono ?_); rintro e w1 ⟨rfl, rfl⟩) | (go_at_call 28; refine (C2.out _).mono ?_; rintro e w1 ⟨rfl, rfl⟩))
  go_ret
  exact ⟨rfl, rfl⟩
set_option maxHeartbeats 400000 in
theorem next_zero (c : Nat) (w : World) (h2 : FM.nan c = false) (h3 : FM.srank c ≠ 0) (hc : c < W64) : Calls Try.prog 15 #[.float .f64 0, .float .f64 c] w fun e w' => e = .returned (.float .f64 (if FM.sgn c then 9223372036854775809 else 1)) ∧ w' = w := by
  have C1 : Hid (∀ W, Calls Try.prog 28 #[.float .f64 0] W fun e w' => e = .returned (.bool false) ∧ w' = W) := fun W => by
    have := isNaN_any 0 W
    rw [show FM.nan 0 = false by decide] at this; exact this
  have C2 := Lib.hid (fun W => isNaN_any c W)
  have C3 := Lib.hid (fun W => copysign_one c W hc)
  rw [h2] at C2
  have o1 : (FloatKind.f64.format.order 0 c == some .eq) = false := by show (FM.D.order 0 c == _) = _; rw [FM.order_any, h2, show FM.nan 0 = false by decide, if_neg (by decide), FM.cmp_eq, show FM.srank 0 = 0 by decide]; exact decide_eq_false (fun h => h3 h.symm)
  have o2 : (FloatKind.f64.format.order 0 0 == some .eq) = true := by decide
  have r1 : (callFunc 11 #[.int .u64 1]).run Try.prog w = .ok (.value (.float .f64 1)) w := from_run 1 w
  obtain ⟨d, hd⟩ : ∃ d, d = (if FM.sgn c then 9223372036854775809 else 1) := ⟨_, rfl⟩
  rw [← hd] at C3 ⊢
  clear h2 h3 hc hd
  go_enter Try.func15, Try.ntmps15
  go_wp2_with (first | (go_at_call 28; (with_reducible refine (C1.out _).mono ?_); rintro e w1 ⟨rfl, rfl⟩) | (go_at_call 28; refine (C2.out _).mono ?_; rintro e w1 ⟨rfl, rfl⟩) | (go_at_call 30; refine (C3.out _).mono ?_; rintro e w1 ⟨rfl, rfl⟩))
  go_ret
  exact ⟨rfl, rfl⟩
/-- NaN's rank apart: finite words of no sign stand as they are. -/
theorem srank_pos {b : Nat} (h : b < 9223372036854775808) : FM.srank b = (b : Int) := by
  unfold FM.srank FM.sv FM.sgn FM.rung
  rw [if_neg (by rw [beq_iff_eq]; omega)]
  omega
theorem points_const (b n : Nat) (h : b ≤ 4625196817309499392) (hb : FM.val b ≤ n * FM.U) (hn : ∀ m, FM.val b ≤ m * FM.U → n ≤ m) : FM.points b = n := by
  have hm : FM.may b = true := by unfold FM.may; rw [decide_eq_true h, Bool.or_true]
  have hr : FM.rung b = b := by unfold FM.rung; omega
  rw [points_eq b hm, hr]
  have h1 := FM.pts_spec (FM.val b) n
  have h2 := FM.pts_spec (FM.val b) (FM.pts (FM.val b))
  have h3 := hn _ (h2.1 (Nat.le_refl _))
  have h4 := h1.2 hb
  omega
theorem points_0 : FM.points 0 = 0 := points_const 0 0 (by decide) (by rw [FM.val_zero]; exact Nat.zero_le _) (fun m _ => Nat.zero_le _)
theorem points_min : FM.points 1 = 1 := by
  have hU := FM.U_pos
  refine points_const 1 1 (by decide) (by rw [show FM.val 1 = 1 by decide, Nat.one_mul]; exact hU) (fun m h => ?_)
  rcases Nat.eq_zero_or_pos m with rfl | h'
  · rw [show FM.val 1 = 1 by decide, Nat.zero_mul] at h; omega
  · exact h'
theorem val_one : FM.val 4607182418800017408 = 16 * FM.U := by
  unfold FM.val
  rw [if_neg (by decide), show 4607182418800017408 % 4503599627370496 = 0 by decide, show 4607182418800017408 / 4503599627370496 - 1 = 1022 by decide, Nat.add_zero]
  unfold FM.U
  exact FM.pow_form 4503599627370496 1070 1022 16 (by decide) (by decide)
theorem mul_U_le {a b : Nat} (h : a * FM.U ≤ b * FM.U) : a ≤ b := Nat.le_of_mul_le_mul_right h FM.U_pos
theorem points_one : FM.points 4607182418800017408 = 16 := points_const _ 16 (by decide) (by rw [val_one]; exact Nat.le_refl _) (fun m h => by rw [val_one] at h; exact mul_U_le h)
theorem points_16 : FM.points 4625196817309499392 = 256 := points_const _ 256 (by decide) (by rw [FM.val_16]; exact Nat.le_refl _) (fun m h => by rw [FM.val_16] at h; exact mul_U_le h)
set_option maxRecDepth 100000 in
theorem awake_any (w : World) : Calls Try.prog 10 #[] w fun e w' => e = .returned (.bool true) ∧ w' = w := by
  have P0 : Hid (∀ W, Calls Try.prog 23 #[.float .f64 0] W fun e w' => e = .returned (.int .i64 0) ∧ w' = W) := fun W => by
    have := points_any 0 W (by decide); rw [points_0] at this; exact this
  have P1 : Hid (∀ W, Calls Try.prog 23 #[.float .f64 1] W fun e w' => e = .returned (.int .i64 1) ∧ w' = W) := fun W => by
    have := points_any 1 W (by decide); rw [points_min] at this; exact this
  have P2 : Hid (∀ W, Calls Try.prog 23 #[.float .f64 4607182418800017408] W fun e w' => e = .returned (.int .i64 16) ∧ w' = W) := fun W => by
    have := points_any 4607182418800017408 W (by decide); rw [points_one] at this; exact this
  have P3 : Hid (∀ W, Calls Try.prog 23 #[.float .f64 4625196817309499392] W fun e w' => e = .returned (.int .i64 256) ∧ w' = W) := fun W => by
    have := points_any 4625196817309499392 W (by decide); rw [points_16] at this; exact this
  have N : Hid (∀ W, Calls Try.prog 15 #[.float .f64 4625196817309499392, .float .f64 4625478292286210048] W fun e w' => e = .returned (.float .f64 4625196817309499393) ∧ w' = W) := fun W =>
    next_up 4625196817309499392 4625478292286210048 W (by decide) (by decide) (by decide) (by decide) (by decide)
  have K : Hid (∀ W, Calls Try.prog 21 #[.float .f64 4625196817309499393] W fun e w' => e = .returned (.int .i64 1) ∧ w' = W) := fun W =>
    check_no 4625196817309499393 W (by decide) (by decide)
  go_enter Try.func10, Try.ntmps10
  go_wp2_with (first | (go_at_call 23; (with_reducible refine (P0.out _).mono ?_); rintro e w1 ⟨rfl, rfl⟩) | (go_at_call 23; (with_reducible refine (P1.out _).mono ?_); rintro e w1 ⟨rfl, rfl⟩) | (go_at_call 23; (with_reducible refine (P2.out _).mono ?_); rintro e w1 ⟨rfl, rfl⟩) | (go_at_call 23; (with_reducible refine (P3.out _).mono ?_); rintro e w1 ⟨rfl, rfl⟩) | (go_at_call 15; (with_reducible refine (N.out _).mono ?_); rintro e w1 ⟨rfl, rfl⟩) | (go_at_call 21; (with_reducible refine (K.out _).mono ?_); rintro e w1 ⟨rfl, rfl⟩))
  go_ret
  exact ⟨rfl, rfl⟩
end Go.Proofs.Ytdhgmpggophcmaa
