import Derived.Test.YtgonagkhnkhcnaaWalkC
/- The walks of the reference's order of layer 21, and of math.Nextafter. -/
namespace Go.Proofs.Ytgonagkhnkhcnaa
set_option maxRecDepth 100000
open Go.RowKit
def rk (b : Nat) : Int := if FM.nan b then -9223372036854775807 else FM.srank b
theorem cmpW_rk (a b : Nat) : cmpW a b = if rk a < rk b then -1 else if rk b < rk a then 1 else 0 := by
  have ha := FM.rung_lt a
  have hb := FM.rung_lt b
  unfold cmpW rk
  cases h1 : FM.nan a <;> cases h2 : FM.nan b
  · rfl
  · have h3 : ¬ 9218868437227405312 < FM.rung a := of_decide_eq_false h1
    have : -9223372036854775807 < FM.srank a := by unfold FM.srank FM.sv; split <;> omega
    simp only [Bool.false_eq_true, if_false, if_true]
    rw [if_neg (by omega), if_pos this]
  · have h3 : ¬ 9218868437227405312 < FM.rung b := of_decide_eq_false h2
    have : -9223372036854775807 < FM.srank b := by unfold FM.srank FM.sv; split <;> omega
    simp only [Bool.false_eq_true, if_false, if_true]
    rw [if_pos this]
  · simp only [if_true]
    rw [if_neg (by omega), if_neg (by omega)]
theorem and_pow (n k : Nat) : n &&& 2 ^ k = if n.testBit k then 2 ^ k else 0 := by
  apply Nat.eq_of_testBit_eq
  intro i
  rw [Nat.testBit_and, Nat.testBit_two_pow]
  by_cases h : k = i
  · subst h
    cases n.testBit k <;> simp
  · cases n.testBit k <;> simp [h]
theorem and_sign (c : Nat) (h : c < W64) : bits .and .u64 (c : Int) 9223372036854775808 = if FM.sgn c then 9223372036854775808 else 0 := by
  unfold bits
  simp only [IntKind.bits]
  have e : IntKind.u64.wrap = fun n => n % 18446744073709551616 := by funext n; simp [IntKind.wrap, IntKind.bits, IntKind.signed]
  rw [e]
  simp only
  have e1 : (BitVec.ofInt 64 (c : Int)) = BitVec.ofNat 64 c := BitVec.ofInt_natCast ..
  have e2 : (BitVec.ofInt 64 9223372036854775808) = BitVec.ofNat 64 (2 ^ 63) := by decide
  rw [e1, e2]
  have key : (BitVec.ofNat 64 c &&& BitVec.ofNat 64 (2 ^ 63)).toNat = if FM.sgn c then 9223372036854775808 else 0 := by
    rw [BitVec.toNat_and, BitVec.toNat_ofNat, BitVec.toNat_ofNat, Nat.mod_eq_of_lt h, Nat.mod_eq_of_lt (by decide), and_pow, Nat.testBit_eq_decide_div_mod_eq]
    unfold FM.sgn
    have h1 : c / 9223372036854775808 = 0 ∨ c / 9223372036854775808 = 1 := by unfold W64 at h; omega
    rcases h1 with h1 | h1
    · rw [show c / 2 ^ 63 = 0 from h1]; rfl
    · rw [show c / 2 ^ 63 = 1 from h1]; rfl
  show ((BitVec.ofNat 64 c &&& BitVec.ofNat 64 (2 ^ 63)).toNat : Int) % 18446744073709551616 = _
  rw [key]
  cases FM.sgn c <;> rfl
theorem copysign_one (c : Nat) (w : World) (hc : c < W64) : Calls Try.prog 93 #[.float .f64 1, .float .f64 c] w fun e w' => e = .returned (.float .f64 (if FM.sgn c then 9223372036854775809 else 1)) ∧ w' = w := by
  have h1 : (callFunc 26 #[.float .f64 1]).run Try.prog w = .ok (.value (.int .u64 1)) w := bits_run 1 w
  have h2 := bits_run c w
  have h3 := and_sign c hc
  have h4 : bits .andNot .u64 1 9223372036854775808 = 1 := by decide
  cases hs : FM.sgn c
  · rw [hs] at h3
    simp only [Bool.false_eq_true, if_false] at h3 ⊢
    have h5 : bits .or .u64 1 0 = 1 := by decide
    have h6 : (callFunc 43 #[.int .u64 1]).run Try.prog w = .ok (.value (.float .f64 1)) w := from_run 1 w
    clear hs hc
    go_enter Try.func93, Try.ntmps93
    go_wp2
    go_ret
    exact ⟨rfl, rfl⟩
  · rw [hs] at h3
    simp only [if_true] at h3 ⊢
    have h5 : bits .or .u64 1 9223372036854775808 = 9223372036854775809 := by decide
    have h6 : (callFunc 43 #[.int .u64 9223372036854775809]).run Try.prog w = .ok (.value (.float .f64 9223372036854775809)) w := from_run 9223372036854775809 w
    clear hs hc
    go_enter Try.func93, Try.ntmps93
    go_wp2
    go_ret
    exact ⟨rfl, rfl⟩
/-- NaN's rank apart: finite words of no sign stand as they are. -/
theorem srank_pos {b : Nat} (h : b < 9223372036854775808) : FM.srank b = (b : Int) := by
  unfold FM.srank FM.sv FM.sgn FM.rung
  rw [if_neg (by rw [beq_iff_eq]; omega)]
  omega
theorem points_const (b n : Nat) (h : b ≤ 4625196817309499392) (hb : FM.val b ≤ n * FM.U) (hn : ∀ m, FM.val b ≤ m * FM.U → n ≤ m) : FM.points b = n := by
  have hm : FM.may b = true := by unfold FM.may; rw [decide_eq_true h, Bool.or_true]
  have hr : FM.rung b = b := by unfold FM.rung; omega
  rw [points_eq b hm, hr]
  have h1 := FM.pts_spec (FM.val b) n
  have h2 := FM.pts_spec (FM.val b) (FM.pts (FM.val b))
  have h3 := hn _ (h2.1 (Nat.le_refl _))
  have h4 := h1.2 hb
  omega
theorem points_0 : FM.points 0 = 0 := points_const 0 0 (by decide) (by rw [FM.val_zero]; exact Nat.zero_le _) (fun m _ => Nat.zero_le _)
theorem points_min : FM.points 1 = 1 := by
  have hU := FM.U_pos
  refine points_const 1 1 (by decide) (by rw [show FM.val 1 = 1 by decide, Nat.one_mul]; exact hU) (fun m h => ?_)
  rcases Nat.eq_zero_or_pos m with rfl | h'
  · rw [show FM.val 1 = 1 by decide, Nat.zero_mul] at h; omega
  · exact h'
theorem val_one : FM.val 4607182418800017408 = 16 * FM.U := by
  unfold FM.val
  rw [if_neg (by decide), show 4607182418800017408 % 4503599627370496 = 0 by decide, show 4607182418800017408 / 4503599627370496 - 1 = 1022 by decide, Nat.add_zero]
  unfold FM.U
  exact FM.pow_form 4503599627370496 1070 1022 16 (by decide) (by decide)
theorem mul_U_le {a b : Nat} (h : a * FM.U ≤ b * FM.U) : a ≤ b := Nat.le_of_mul_le_mul_right h FM.U_pos
theorem points_one : FM.points 4607182418800017408 = 16 := points_const _ 16 (by decide) (by rw [val_one]; exact Nat.le_refl _) (fun m h => by rw [val_one] at h; exact mul_U_le h)
theorem points_16 : FM.points 4625196817309499392 = 256 := points_const _ 256 (by decide) (by rw [FM.val_16]; exact Nat.le_refl _) (fun m h => by rw [FM.val_16] at h; exact mul_U_le h)

end Go.Proofs.Ytgonagkhnkhcnaa
