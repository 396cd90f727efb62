import Derived.Test.YtmijfhfjhbckdaaBare
/- Three numbers ored: all of one byte? -/
namespace Go.Proofs.Ytmijfhfjhbckdaa
theorem mask_zero (A : BitVec 64) : A &&& ~~~255#64 = 0#64 ↔ A.toNat < 256 := by
  have e255 : (A &&& 255#64).toNat = A.toNat % 256 := by
    rw [BitVec.toNat_and]
    exact Nat.and_two_pow_sub_one_eq_mod A.toNat 8
  constructor
  · intro h
    have hA : A = A &&& 255#64 := by
      have h2 : A = (A &&& 255#64) ||| (A &&& ~~~255#64) := by
        rw [← BitVec.and_or_distrib_left, BitVec.or_not_self, BitVec.and_allOnes]
      rw [h, BitVec.or_zero] at h2
      exact h2
    have := congrArg BitVec.toNat hA
    rw [e255] at this
    omega
  · intro h
    have hA : A &&& 255#64 = A := by
      apply BitVec.eq_of_toNat_eq
      rw [e255]
      omega
    rw [← hA, BitVec.and_assoc, BitVec.and_not_self]
    exact BitVec.and_zero
theorem or_mask (A B M : BitVec 64) : (A ||| B) &&& M = 0#64 ↔ A &&& M = 0#64 ∧ B &&& M = 0#64 := by
  have e : (A ||| B) &&& M = (A &&& M) ||| (B &&& M) := by
    apply BitVec.eq_of_getLsbD_eq
    intro i hi
    simp
    cases A.getLsbD i <;> cases B.getLsbD i <;> cases M.getLsbD i <;> simp
  rw [e]
  constructor
  · intro h
    constructor
    · have : (A &&& M) &&& (A &&& M ||| B &&& M) = (A &&& M) := by
        rw [BitVec.and_or_distrib_left, BitVec.and_self]
        apply BitVec.eq_of_getLsbD_eq
        intro i hi
        simp
        cases A.getLsbD i <;> cases M.getLsbD i <;> simp
      rw [h, BitVec.and_zero] at this
      exact this.symm
    · have : (B &&& M) &&& (A &&& M ||| B &&& M) = (B &&& M) := by
        rw [BitVec.and_or_distrib_left, BitVec.and_self]
        apply BitVec.eq_of_getLsbD_eq
        intro i hi
        simp
        cases B.getLsbD i <;> cases M.getLsbD i <;> simp
      rw [h, BitVec.and_zero] at this
      exact this.symm
  · rintro ⟨h1, h2⟩
    rw [h1, h2]
    rfl
theorem ofInt_wrap (X : BitVec 64) : BitVec.ofInt 64 (IntKind.i64.wrap (X.toNat : Int)) = X := by
  apply BitVec.eq_of_toNat_eq
  rw [BitVec.toNat_ofInt, IntKind.wrap_i64]
  have := X.isLt
  omega
theorem small_ofInt (a : Int) (h1 : -9223372036854775808 ≤ a) (h2 : a ≤ 9223372036854775807) : (BitVec.ofInt 64 a).toNat < 256 ↔ 0 ≤ a ∧ a ≤ 255 := by
  rw [BitVec.toNat_ofInt]
  omega
theorem bits_or (a b : Int) : BitVec.ofInt 64 (bits .or .i64 a b) = BitVec.ofInt 64 a ||| BitVec.ofInt 64 b := by
  unfold bits
  exact ofInt_wrap _
theorem bits_andNot (a b : Int) : bits .andNot .i64 a b = IntKind.i64.wrap ((BitVec.ofInt 64 a &&& ~~~(BitVec.ofInt 64 b)).toNat : Int) := rfl
theorem wrap_zero (X : BitVec 64) : (IntKind.i64.wrap (X.toNat : Int) = 0) ↔ X = 0#64 := by
  constructor
  · intro h
    have := ofInt_wrap X
    rw [h] at this
    exact this.symm
  · rintro rfl; rfl
/-- are all of them of one byte? -/
def byte3 (a b c : Int) : Bool := decide ((0 ≤ a ∧ a ≤ 255) ∧ (0 ≤ b ∧ b ≤ 255) ∧ (0 ≤ c ∧ c ≤ 255))
def inI (a : Int) : Prop := -9223372036854775808 ≤ a ∧ a ≤ 9223372036854775807
theorem byte3_eq (a b c : Int) (ha : inI a) (hb : inI b) (hc : inI c) : (bits .andNot .i64 (bits .or .i64 (bits .or .i64 a b) c) 255 == 0) = byte3 a b c := by
  unfold byte3
  rw [Bool.eq_iff_iff, beq_iff_eq, decide_eq_true_iff, bits_andNot, wrap_zero, bits_or, bits_or]
  show _ &&& ~~~255#64 = _ ↔ _
  rw [or_mask, or_mask, mask_zero, mask_zero, mask_zero, small_ofInt a ha.1 ha.2, small_ofInt b hb.1 hb.2, small_ofInt c hc.1 hc.2, and_assoc]
def byte2 (a b : Int) : Bool := decide ((0 ≤ a ∧ a ≤ 255) ∧ (0 ≤ b ∧ b ≤ 255))
theorem byte2_eq (a b : Int) (ha : inI a) (hb : inI b) : (bits .andNot .i64 (bits .or .i64 a b) 255 == 0) = byte2 a b := by
  unfold byte2
  rw [Bool.eq_iff_iff, beq_iff_eq, decide_eq_true_iff, bits_andNot, wrap_zero, bits_or]
  show _ &&& ~~~255#64 = _ ↔ _
  rw [or_mask, mask_zero, mask_zero, small_ofInt a ha.1 ha.2, small_ofInt b hb.1 hb.2]
end Go.Proofs.Ytmijfhfjhbckdaa
