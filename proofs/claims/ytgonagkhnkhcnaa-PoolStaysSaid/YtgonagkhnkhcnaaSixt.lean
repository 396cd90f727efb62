import Derived.Test.YtgonagkhnkhcnaaWalkD
import Derived.Laws.FloatBits
/- Sixteenths: their words, and the words beside them. -/
namespace Go.Proofs.Ytgonagkhnkhcnaa
set_option maxRecDepth 100000
open Go.RowKit
theorem val_inv {x y : Nat} (h : FM.val x ≤ FM.val y) : x ≤ y := by
  rcases Nat.lt_or_ge y x with h1 | h1
  · have := FM.val_lt h1; omega
  · exact h1
theorem pow_lt_U (n : Nat) (h : n ≤ 1060) : 2 ^ n < FM.U := by
  have h1 := Nat.pow_lt_pow_right (a := 2) (m := n) (n := 1070) (by decide) (by omega)
  rw [FM.U]
  exact h1
theorem val_gap (r : Nat) (h : r < 4625196817309499392) : FM.val (r + 1) < FM.val r + FM.U := by
  have h1U : 1 < FM.U := by have := pow_lt_U 0 (by omega); simpa using this
  unfold FM.val
  by_cases h1 : r + 1 < 4503599627370496
  · rw [if_pos h1, if_pos (show r < 4503599627370496 by omega)]; omega
  · rw [if_neg h1]
    by_cases h2 : r < 4503599627370496
    · rw [if_pos h2]
      have e1 : (r + 1) % 4503599627370496 = 0 := by omega
      have e2 : (r + 1) / 4503599627370496 - 1 = 0 := by omega
      rw [e1, e2, Nat.pow_zero]; omega
    · rw [if_neg h2]
      have hlt := pow_lt_U (r / 4503599627370496 - 1) (by omega)
      by_cases h3 : r % 4503599627370496 + 1 < 4503599627370496
      · have e1 : (r + 1) % 4503599627370496 = r % 4503599627370496 + 1 := by omega
        have e2 : (r + 1) / 4503599627370496 = r / 4503599627370496 := by omega
        rw [e1, e2]
        generalize 2 ^ (r / 4503599627370496 - 1) = P at *
        rw [show 4503599627370496 + (r % 4503599627370496 + 1) = (4503599627370496 + r % 4503599627370496) + 1 by omega, Nat.add_mul _ 1 P]
        omega
      · have e1 : (r + 1) % 4503599627370496 = 0 := by omega
        have e2 : (r + 1) / 4503599627370496 - 1 = (r / 4503599627370496 - 1) + 1 := by omega
        have e3 : r % 4503599627370496 = 4503599627370495 := by omega
        rw [e1, e2, e3, Nat.pow_succ]
        generalize 2 ^ (r / 4503599627370496 - 1) = P at *
        omega
/-- the word of so many sixteenths -/
theorem sixteenth (k : Nat) (hk : k ≤ 256) : ∃ x : Nat, x ≤ 4625196817309499392 ∧ FM.val x = k * FM.U ∧ ∀ W, (binOp .quo 30 (.float .f64 (floatOfInt .f64 (k : Int))) (.float .f64 4625196817309499392)).run Try.prog W = .ok (.float .f64 x) W := by
  obtain ⟨c, h1, h2⟩ := FM.div16 k (by omega)
  have h3 : floatBits .quo .f64 (floatOfInt .f64 (k : Int)) 4625196817309499392 = some c := by rw [fb_quo, of_nat]; exact h1
  obtain ⟨f1, f2, f3⟩ := FM.is_fin h2
  have hc : c < 2 ^ FM.D.width := Ieee.Format.div_lt FM.D h1
  have hc' : c < 18446744073709551616 := hc
  have hw := FM.split_word c hc'
  rw [f2, if_neg (by decide), Nat.zero_add] at hw
  rw [← hw] at f3
  refine ⟨c, ?_, f3, fun W => run_float_arith W .quo 30 .f64 _ _ c h3⟩
  apply val_inv
  rw [f3, FM.val_16]
  exact Nat.mul_le_mul_right _ hk
theorem sixt_points (x k : Nat) (h1 : x ≤ 4625196817309499392) (h2 : FM.val x = k * FM.U) : FM.points x = k :=
  points_const x k h1 (by rw [h2]; exact Nat.le_refl _) (fun m h => by rw [h2] at h; exact mul_U_le h)
theorem sixt_up (x k : Nat) (hk : k < 256) (h1 : x ≤ 4625196817309499392) (h2 : FM.val x = k * FM.U) : x + 1 ≤ 4625196817309499392 ∧ FM.points (x + 1) = k + 1 := by
  obtain ⟨y, g1, g2, _⟩ := sixteenth (k + 1) (by omega)
  have hU := FM.U_pos
  have hxy : x < y := by
    rcases Nat.lt_or_ge x y with h | h
    · exact h
    · have := FM.val_le h
      rw [g2, h2] at this
      have := mul_U_le this
      omega
  refine ⟨by omega, points_const _ _ (by omega) (by rw [← g2]; exact FM.val_le (by omega)) (fun m h => ?_)⟩
  have h3 : FM.val x < m * FM.U := Nat.lt_of_lt_of_le (FM.val_succ x) h
  rw [h2] at h3
  exact Nat.lt_of_mul_lt_mul_right h3
theorem sixt_top (x : Nat) (_h1 : x ≤ 4625196817309499392) (h2 : FM.val x = 256 * FM.U) : x = 4625196817309499392 := by
  apply FM.val_inj; rw [h2, FM.val_16]
theorem sixt_down (x k : Nat) (hk : 0 < k) (h1 : x ≤ 4625196817309499392) (h2 : FM.val x = k * FM.U) : 0 < x ∧ FM.points (x - 1) = k := by
  have hU := FM.U_pos
  have hx : 0 < x := by
    rcases Nat.eq_zero_or_pos x with rfl | h
    · rw [FM.val_zero] at h2
      have := Nat.mul_pos hk hU
      omega
    · exact h
  obtain ⟨y, rfl⟩ : ∃ y, x = y + 1 := ⟨x - 1, by omega⟩
  refine ⟨hx, ?_⟩
  rw [Nat.add_sub_cancel]
  refine points_const y k (by omega) (by rw [← h2]; exact Nat.le_of_lt (FM.val_succ y)) (fun m h => ?_)
  have g := val_gap y (by omega)
  rw [h2] at g
  have : k * FM.U < (m + 1) * FM.U := by rw [Nat.add_mul, Nat.one_mul]; omega
  have := Nat.lt_of_mul_lt_mul_right this
  omega
theorem may_le {x : Nat} (h : x ≤ 4625196817309499392) : FM.may x = true := by unfold FM.may; rw [decide_eq_true h, Bool.or_true]
theorem nan_le {x : Nat} (h : x ≤ 4625196817309499392) : FM.nan x = false := may_nan' (may_le h)
where
  may_nan' {b : Nat} (h : FM.may b = true) : FM.nan b = false := by
    have := FM.may_rung h
    exact decide_eq_false (by omega)

end Go.Proofs.Ytgonagkhnkhcnaa
