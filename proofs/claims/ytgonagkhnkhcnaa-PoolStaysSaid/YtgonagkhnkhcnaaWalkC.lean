import Derived.Test.YtgonagkhnkhcnaaWalkB
/- The walks of the reference of layer 21. -/
namespace Go.Proofs.Ytgonagkhnkhcnaa
set_option maxRecDepth 100000
open Go.RowKit
theorem and_mask (n k : Nat) (h : n < W64) (hk : k ≤ 64) : bits .and .u64 (n : Int) ((2 ^ k - 1 : Nat) : Int) = ((n % 2 ^ k : Nat) : Int) := by
  unfold bits
  simp only [IntKind.bits]
  have e : IntKind.u64.wrap = fun n => n % 18446744073709551616 := by funext n; simp [IntKind.wrap, IntKind.bits, IntKind.signed]
  rw [e]
  simp only
  have e1 : (BitVec.ofInt 64 (n : Int)) = BitVec.ofNat 64 n := BitVec.ofInt_natCast ..
  have e2 : (BitVec.ofInt 64 ((2 ^ k - 1 : Nat) : Int)) = BitVec.ofNat 64 (2 ^ k - 1) := BitVec.ofInt_natCast ..
  rw [e1, e2]
  have hle : 2 ^ k ≤ 2 ^ 64 := Nat.pow_le_pow_right (by omega) hk
  have hp : 0 < 2 ^ k := Nat.pow_pos (by omega)
  have key : (BitVec.ofNat 64 n &&& BitVec.ofNat 64 (2 ^ k - 1)).toNat = n % 2 ^ k := by
    rw [BitVec.toNat_and, BitVec.toNat_ofNat, BitVec.toNat_ofNat, Nat.mod_eq_of_lt h, Nat.mod_eq_of_lt (by omega), Nat.and_two_pow_sub_one_eq_mod]
  show ((BitVec.ofNat 64 n &&& BitVec.ofNat 64 (2 ^ k - 1)).toNat : Int) % 18446744073709551616 = _
  rw [key]
  have : n % 2 ^ k ≤ n := Nat.mod_le _ _
  unfold W64 at h
  omega
theorem parts_facts (b : Nat) (hb : b < W64) : ((b : Int) / 9223372036854775808 == 1) = FM.sgn b ∧ bits .and .u64 ((b : Int) / 4503599627370496) 2047 = ((FM.rung b / 4503599627370496 : Nat) : Int) ∧ bits .and .u64 (b : Int) 4503599627370495 = ((FM.rung b % 4503599627370496 : Nat) : Int) := by
  refine ⟨?_, ?_, ?_⟩
  · unfold FM.sgn
    unfold W64 at hb
    rw [Bool.eq_iff_iff, beq_iff_eq, beq_iff_eq]; omega
  · have h := and_mask (b / 4503599627370496) 11 (by unfold W64 at *; omega) (by omega)
    have e : ((b / 4503599627370496 : Nat) : Int) = (b : Int) / 4503599627370496 := by omega
    rw [e] at h
    refine h.trans ?_
    unfold FM.rung
    unfold W64 at hb
    omega
  · have h := and_mask b 52 hb (by omega)
    refine h.trans ?_
    unfold FM.rung
    omega
/-- what From tells of bits: 1, 9 or 0 -/
def fromE (b : Nat) : Int := if FM.may b then (if FM.sgn b then 9 else 0) else 1
theorem order_sv (b : Nat) (hm : FM.may b = true) (n c : Nat) (h2 : FM.Is c false (n * FM.U)) : (FM.D.order c b == some .lt) = decide (FM.sv false (n * FM.U) < FM.sv (FM.sgn b) (FM.val (FM.rung b))) := by
  have ho := FM.order_is h2 (FM.is_may hm)
  rw [ho, FM.cmp_lt]
theorem sv_pos (b n : Nat) (hs : FM.sgn b = false) : decide (FM.sv false (n * FM.U) < FM.sv (FM.sgn b) (FM.val (FM.rung b))) = decide (n < FM.pts (FM.val (FM.rung b))) := by
  rw [Bool.eq_iff_iff, decide_eq_true_eq, decide_eq_true_eq]
  have hpts := FM.pts_spec (FM.val (FM.rung b)) n
  generalize FM.U = u at *
  rw [hs]
  unfold FM.sv
  simp only [Bool.false_eq_true, if_false]
  omega
theorem sv_zero (n : Nat) (s : Bool) : decide (FM.sv false (n * FM.U) < FM.sv s 0) = decide (n < FM.pts 0) := by
  rw [Bool.eq_iff_iff, decide_eq_true_eq, decide_eq_true_eq]
  rw [(FM.pts_zero 0).2 rfl]
  unfold FM.sv
  generalize FM.U = u at *
  have : (0 : Int) ≤ ((n * u : Nat) : Int) := by omega
  cases s <;> simp only [Bool.false_eq_true, if_false, if_true] <;> omega
theorem points_eq (b : Nat) (hm : FM.may b = true) : FM.points b = FM.pts (FM.val (FM.rung b)) := by unfold FM.points; rw [if_pos hm]
theorem div_order (b : Nat) (hm : FM.may b = true) (n : Nat) (hn : n ≤ 4294967296) : ∃ c, FM.D.div (FM.D.nearest false n 0) 4625196817309499392 = some c ∧ (FM.D.order c b == some .lt) = decide (n < FM.points b) := by
  obtain ⟨c, h1, h2⟩ := FM.div16 n hn
  refine ⟨c, h1, ?_⟩
  rw [order_sv b hm n c h2, points_eq b hm]
  rcases FM.may_sgn hm with hs | hz0
  · exact sv_pos b n hs
  · rw [hz0, FM.val_zero]; exact sv_zero n _
theorem of_nat (n : Nat) : floatOfInt .f64 (n : Int) = FM.D.nearest false n 0 := by
  have h : decide ((n : Int) < 0) = false := decide_eq_false (by omega)
  have e : floatOfInt .f64 (n : Int) = FM.D.nearest (decide ((n : Int) < 0)) (n : Int).natAbs 0 := rfl
  rw [e, h, Int.natAbs_natCast]
theorem fb_quo (x y : Nat) : floatBits .quo .f64 x y = FM.D.div x y := rfl
theorem div_key (b : Nat) (hm : FM.may b = true) (n : Nat) (hn : n ≤ 4294967296) : ∃ c, (∀ W, (binOp .quo 30 (.float .f64 (floatOfInt .f64 (n : Int))) (.float .f64 4625196817309499392)).run Try.prog W = .ok (.float .f64 c) W) ∧ (FloatKind.f64.format.order c b == some .lt) = decide (n < FM.points b) := by
  obtain ⟨c, h1, h2⟩ := div_order b hm n hn
  have h3 : floatBits .quo .f64 (floatOfInt .f64 (n : Int)) 4625196817309499392 = some c := by rw [fb_quo, of_nat]; exact h1
  exact ⟨c, fun W => run_float_arith W .quo 30 .f64 _ _ c h3, h2⟩
end Go.Proofs.Ytgonagkhnkhcnaa
