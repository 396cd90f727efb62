import Derived.Test.YtgonagkhnkhcnaaFMath
/- what weights are: which words may be, how many points each has. -/
namespace FM
set_option maxRecDepth 100000
open Ieee
/-- may a word be a weight? -/
def may (b : Nat) : Bool := decide (rung b = 0) || decide (b ≤ 4625196817309499392)
theorem may_rung {b : Nat} (h : may b = true) : rung b ≤ 4625196817309499392 := by
  unfold may at h
  rw [Bool.or_eq_true] at h
  rcases h with h | h
  · have := of_decide_eq_true h; omega
  · have := of_decide_eq_true h
    unfold rung; omega
theorem may_sgn {b : Nat} (h : may b = true) : sgn b = false ∨ rung b = 0 := by
  unfold may at h
  rw [Bool.or_eq_true] at h
  rcases h with h | h
  · exact .inr (of_decide_eq_true h)
  · left
    have := of_decide_eq_true h
    unfold sgn
    rw [beq_eq_false_iff_ne]; omega
theorem order_self (b : Nat) : (D.order b b == some .eq) = !nan b := by
  rw [order_any]
  cases nan b
  · simp [compare, compareOfLessAndEq]
  · rfl
theorem cmp_lt (a b : Int) : (some (compare a b) == some Ordering.lt) = decide (a < b) := by
  simp only [compare, compareOfLessAndEq]
  by_cases h : a < b
  · simp [h]
  · rw [if_neg h]; split <;> simp [h]
theorem cmp_gt (a b : Int) : (some (compare a b) == some Ordering.gt) = decide (b < a) := by
  simp only [compare, compareOfLessAndEq]
  by_cases h : a < b
  · have : ¬ b < a := by omega
    simp [h, this]
  · rw [if_neg h]
    by_cases h2 : a = b
    · have : ¬ b < a := by omega
      simp [h2]
    · have : b < a := by omega
      simp [h2, this]
theorem cmp_eq (a b : Int) : (some (compare a b) == some Ordering.eq) = decide (a = b) := by
  simp only [compare, compareOfLessAndEq]
  by_cases h : a < b
  · have : ¬ a = b := by omega
    simp [h, this]
  · rw [if_neg h]
    by_cases h2 : a = b
    · simp [h2]
    · simp [h2]
theorem lt_zero (b : Nat) (hn : nan b = false) : (D.order b 0 == some .lt) = (sgn b && decide (0 < rung b)) := by
  rw [order_any, hn, show nan 0 = false by decide]
  simp only [Bool.or_self, Bool.false_eq_true, if_false]
  rw [cmp_lt, show srank 0 = 0 by decide]
  unfold srank sv
  cases sgn b
  · have : ¬ (rung b : Int) < 0 := by omega
    simp [this]
  · simp
theorem gt_16 (b : Nat) (hn : nan b = false) : (D.order b 4625196817309499392 == some .gt) = (!sgn b && decide (4625196817309499392 < rung b)) := by
  rw [order_any, hn, show nan 4625196817309499392 = false by decide]
  simp only [Bool.or_self, Bool.false_eq_true, if_false]
  rw [cmp_gt, show srank 4625196817309499392 = 4625196817309499392 by decide]
  unfold srank sv
  cases sgn b
  · simp; omega
  · have : ¬ (4625196817309499392 : Int) < -(rung b : Int) := by omega
    simp [this]
theorem split_word (b : Nat) (h : b < 18446744073709551616) : b = (if sgn b then 9223372036854775808 else 0) + rung b := by
  unfold sgn rung
  by_cases hs : b / 9223372036854775808 % 2 = 1
  · rw [if_pos (by rw [beq_iff_eq]; exact hs)]; omega
  · rw [if_neg (by rw [beq_iff_eq]; exact hs)]; omega
/-- Check's three tests say just 'may'. -/
theorem may_tests (b : Nat) (h : b < 18446744073709551616) : may b = (!nan b && !(D.order b 0 == some .lt) && !(D.order b 4625196817309499392 == some .gt)) := by
  cases hn : nan b
  · rw [lt_zero b hn, gt_16 b hn]
    have hw := split_word b h
    unfold may
    cases hs : sgn b
    · rw [hs, if_neg (by decide), Nat.zero_add] at hw
      simp only [Bool.not_false, Bool.true_and, Bool.false_and]
      rw [Bool.eq_iff_iff]
      simp only [Bool.or_eq_true, decide_eq_true_eq, Bool.not_eq_true', decide_eq_false_iff_not]
      omega
    · rw [hs, if_pos rfl] at hw
      simp only [Bool.not_false, Bool.true_and, Bool.not_true, Bool.false_and, Bool.and_true]
      rw [Bool.eq_iff_iff]
      simp only [Bool.or_eq_true, decide_eq_true_eq, Bool.not_eq_true', decide_eq_false_iff_not]
      omega
  · simp only [Bool.not_true, Bool.false_and]
    have := of_decide_eq_true hn
    unfold may
    rw [Bool.or_eq_false_iff]
    have hr : rung b ≤ b := Nat.mod_le _ _
    exact ⟨decide_eq_false (by omega), decide_eq_false (by omega)⟩
/-- the points of a word that may be a weight -/
def points (b : Nat) : Nat := if may b then pts (val (rung b)) else 0
theorem pow_form (a K p c : Nat) (h : p ≤ K) (h2 : c * 2 ^ (K - p) = a) : a * 2 ^ p = c * 2 ^ K := by rw [split_pow K p h, ← Nat.mul_assoc, h2]
theorem val_16 : val 4625196817309499392 = 256 * U := by
  unfold val
  rw [if_neg (by decide), show 4625196817309499392 % 4503599627370496 = 0 by decide, show 4625196817309499392 / 4503599627370496 - 1 = 1026 by decide, Nat.add_zero]
  unfold U
  exact pow_form 4503599627370496 1070 1026 256 (by decide) (by decide)
theorem val_le {r r' : Nat} (h : r ≤ r') : val r ≤ val r' := by
  rcases Nat.eq_or_lt_of_le h with h | h
  · rw [h]; exact Nat.le_refl _
  · exact Nat.le_of_lt (val_lt h)
theorem may_val {b : Nat} (h : may b = true) : val (rung b) ≤ 256 * U := by rw [← val_16]; exact val_le (may_rung h)
theorem points_le (b : Nat) : points b ≤ 256 := by
  unfold points
  cases h : may b
  · simp
  · rw [if_pos rfl, pts_spec]; exact may_val h
theorem pts_mono {v u : Nat} (h : v ≤ u) : pts v ≤ pts u := by rw [pts_spec]; exact Nat.le_trans h ((pts_spec u _).1 (Nat.le_refl _))
theorem pts_zero (v : Nat) : pts v = 0 ↔ v = 0 := by
  have := pts_spec v 0
  omega
theorem is_may {b : Nat} (h : may b = true) : Is b (sgn b) (val (rung b)) := read_fin b (by have := may_rung h; omega)
/-- times 16, the ceiling, as an integer: the points -/
theorem points_run {b : Nat} (h : may b = true) : ∃ c d, D.mul b 4625196817309499392 = some c ∧ (∀ s t, D.read c ≠ .nan s t) ∧ D.write ((D.read c).integral .up) = d ∧ (D.read d).toInt .zero = some (points b : Int) := by
  obtain ⟨c, h1, h2⟩ := mul16 (is_may h) (may_rung h)
  have hc : ∀ s t, D.read c ≠ .nan s t := by
    intro s t
    obtain ⟨m, p, h3, _⟩ := h2
    rw [h3]; intro hh; cases hh
  have hp : points b = pts (val (rung b)) := by unfold points; rw [if_pos h]
  rcases may_sgn h with hs | hz
  · rw [hs] at h2
    have hb : 16 * val (rung b) ≤ 4294967296 * 2 ^ 1074 := by
      have := may_val h
      rw [U16]
      have hU := U_pos
      omega
    obtain ⟨n, h3, h4, h5⟩ := ceil_pos h2 hb
    refine ⟨c, _, h1, hc, rfl, ?_⟩
    rw [h3]
    show (D.read (D.nearest false n 0)).toInt .zero = _
    rw [toInt_is (is_nat n h5)]
    have : n = points b := by
      rw [hp, h4, U16]
      unfold pts
      have hU := U_pos
      generalize U = u at *
      rw [show 16 * val (rung b) + (16 * u - 1) = (16 * u - 1) + 16 * val (rung b) by omega]
      have e : ∀ x, (16 * x + (16 * u - 1)) / (16 * u) = (x + (u - 1)) / u := by
        intro x
        symm
        rw [Nat.div_eq_iff hU]
        have k1 := Nat.div_add_mod (16 * x + (16 * u - 1)) (16 * u)
        have k2 := Nat.mod_lt (16 * x + (16 * u - 1)) (show 0 < 16 * u by omega)
        generalize (16 * x + (16 * u - 1)) / (16 * u) = q at *
        have k3 : 16 * u * q = 16 * (q * u) := by rw [Nat.mul_assoc, Nat.mul_comm u q]
        omega
      rw [Nat.add_comm, e]
    rw [this]; rfl
  · rw [hz, val_zero] at h2
    have h3 := ceil_zero (sgn b) h2
    refine ⟨c, _, h1, hc, rfl, ?_⟩
    rw [h3]
    show (D.read (D.nearest (sgn b) 0 0)).toInt .zero = _
    rw [nearest_zero]
    have hz0 : ∀ X, Is (D.word (sgn b) 0) (sgn b) (0 * X) := fun X => by rw [Nat.zero_mul]; exact is_zero (sgn b)
    rw [toInt_is (hz0 _)]
    have : points b = 0 := by rw [hp, hz, val_zero]; exact (pts_zero 0).2 rfl
    rw [this]
    cases sgn b <;> rfl
theorem alg16 (m n K P A : Nat) (h : m * P = n * (16 * A)) : 2 * (m * K) * (P * 2 ^ 48) = n * A * (K * 2 ^ 1 * 2 ^ 52) := by
  have e1 : ∀ Q, 2 * (m * K) * (P * Q) = (m * P) * (K * (2 * Q)) := by intro Q; ac_rfl
  rw [e1, h]
  have e2 : ∀ Q, n * (16 * A) * (K * Q) = n * A * (K * (16 * Q)) := by intro Q; ac_rfl
  rw [e2, Nat.mul_assoc K]
/-- a whole number by sixteen -/
theorem div16 (n : Nat) (h : n ≤ 4294967296) : ∃ c, D.div (D.nearest false n 0) 4625196817309499392 = some c ∧ Is c false (n * U) := by
  obtain ⟨m, p, h1, h2⟩ := is_nat n h
  have h16 : D.read 4625196817309499392 = .number false 4503599627370496 (-48) := by decide
  have hl : (4503599627370496 : Nat).log2 = 52 := by decide
  unfold Format.div
  rw [h1, h16]
  show ∃ c, Option.map D.write (Datum.quotient 54 _ _) = some c ∧ _
  unfold Datum.quotient
  simp only
  rw [if_neg (by decide), hl]
  refine ⟨_, rfl, ?_⟩
  show Is (D.nearest (false ^^ false) (2 * (m <<< (54 + 52 - m.log2) / 4503599627370496) + (m <<< (54 + 52 - m.log2) % 4503599627370496 != 0).toNat) _) false (n * U)
  have hm : m.log2 ≤ 53 := by
    by_cases h0 : m = 0
    · subst h0; decide
    · obtain ⟨hf, _, hv⟩ := is_fin ⟨m, p, h1, h2⟩
      have : m < 9007199254740992 := by
        have hr := read_fin _ hf
        unfold Format.read at h1
        rw [bin, infR, sgnW, leastP] at h1
        simp only at h1
        split at h1
        · injection h1; omega
        · split at h1
          · injection h1; omega
          · split at h1 <;> cases h1
      have : m.log2 < 53 := (Nat.log2_lt h0).2 (by omega)
      omega
  obtain ⟨k, hk⟩ : ∃ k, 54 + 52 - m.log2 = 52 + k := ⟨54 - m.log2, by omega⟩
  rw [hk]
  have e1 : m <<< (52 + k) = (m * 2 ^ k) * 4503599627370496 := by
    rw [Nat.shiftLeft_eq, Nat.pow_add, Nat.mul_comm (2 ^ 52), ← Nat.mul_assoc]
  rw [e1, Nat.mul_div_cancel _ (by decide), Nat.mul_mod_left]
  simp only [bne_self_eq_false, Bool.toNat_false, Nat.add_zero]
  have key := nearest_ex false (2 * (m * 2 ^ k)) (p + 48) (52 + k + 1) n 1070 (by omega) (by
      by_cases h0 : n = 0
      · subst h0; decide
      · have : n.log2 < 33 := (Nat.log2_lt h0).2 (by omega)
        omega) (by
      rw [show 52 + k + 1 = k + 1 + 52 by omega, Nat.pow_add, Nat.pow_add 2 (k + 1), Nat.pow_add 2 k 1]
      have h2' : m * 2 ^ p = n * (16 * 2 ^ 1070) := h2.trans (congrArg (n * ·) (two_pow4 1074 1070 (by decide)))
      revert h2'
      generalize 2 ^ 1070 = A
      intro h2'
      exact alg16 m n (2 ^ k) (2 ^ p) A h2')
  have hpl : ((p : Int) - 1074 - (-48) - ((52 + k : Nat) : Int) - 1) = ((p + 48 : Nat) : Int) - ((52 + k + 1 : Nat) : Int) - 1074 := by omega
  rw [hpl]
  rw [U]
  exact key
end FM
