import Derived.Test.YtfagkmmenfeppaaDoorBackP
import Derived.Test.YtfagkmmenfeppaaDoorFlips
/- One bit of a sealed header changed: in plain Lean. -/
namespace Go.Proofs.YtfagkmmenfeppaaDoor
set_option maxRecDepth 100000
open Crc (flip bitAt)
theorem bit_ne (b : UInt8) (j : Nat) (hj : j < 8) : b ^^^ bitAt j ≠ b := by
  have : ∀ (b : Fin 256) (j : Fin 8), UInt8.ofNat b.val ^^^ bitAt j.val ≠ UInt8.ofNat b.val := by decide +kernel
  have h := this ⟨b.toNat, b.toNat_lt⟩ ⟨j, hj⟩
  rw [UInt8.ofNat_toNat] at h
  exact h
theorem flip_set (l : List UInt8) (p : Nat) (hp : p < 8 * l.length) : ∃ x, flip l p = l.set (p / 8) x ∧ ∃ h : p / 8 < l.length, x = l[p / 8] ^^^ bitAt (p % 8) ∧ x ≠ l[p / 8] := by
  have h : p / 8 < l.length := by omega
  refine ⟨_, rfl, h, ?_, ?_⟩
  · rw [List.getD_eq_getElem?_getD, List.getElem?_eq_getElem h, Option.getD_some]
  · rw [List.getD_eq_getElem?_getD, List.getElem?_eq_getElem h, Option.getD_some]
    exact bit_ne _ _ (by omega)
theorem bv_inj : ∀ (a b : List UInt8), a.length = b.length → bv a = bv b → a = b
  | [], [], _, _ => rfl
  | x :: a, y :: b, hl, h => by
    have hl' : a.length = b.length := by simpa using hl
    rw [bv_cons, bv_cons, hl'] at h
    have h1 := bv_lt a
    have h2 := bv_lt b
    rw [hl'] at h1
    have hx : x.toNat = y.toNat := by
      have e1 : (x.toNat * 256 ^ b.length + bv a) / 256 ^ b.length = x.toNat := by
        rw [Nat.mul_comm, Nat.mul_add_div (Nat.pow_pos (by omega)), Nat.div_eq_of_lt h1, Nat.add_zero]
      have e2 : (y.toNat * 256 ^ b.length + bv b) / 256 ^ b.length = y.toNat := by
        rw [Nat.mul_comm, Nat.mul_add_div (Nat.pow_pos (by omega)), Nat.div_eq_of_lt h2, Nat.add_zero]
      rw [← e1, ← e2, h]
    rw [hx] at h
    have := bv_inj a b hl' (by omega)
    rw [UInt8.toNat_inj.1 hx, this]
/-- a seal's field, whatever its number -/
theorem flE_seal' (k tot : Nat) (S : List UInt8) (hS : S.length = 4) : flE (k + 1) tot ([3, 0, 4] ++ S) [] 0 0 false = .ok ([], tot - 4, bv S) := by
  have e1 : ([3, 0, 4] ++ S).length = 7 := by rw [List.length_append, hS]; rfl
  have e2 : ([3, 0, 4] ++ S).drop 3 = S := rfl
  have e3 : (([3, 0, 4] ++ S).drop 1).take 2 = [0, 4] := rfl
  have e4 : ([3, 0, 4] ++ S).take 1 = [3] := rfl
  have b1 : bv [0, 4] = 4 := rfl
  have b2 : bv [3] = 3 := rfl
  have e5 : S.drop 4 = [] := List.drop_eq_nil_of_le (by omega)
  have e6 : S.take 4 = S := List.take_of_length_le (by omega)
  rw [flE, e1, e2, e3, e4, b1, b2, hS, if_neg (by omega), if_neg (by omega), if_neg (by omega), if_neg (by omega), if_neg (by omega), e5, e6, flE_nil]
  rfl
/-- a seal's field, its type, its length changed -/
theorem flE_typ (k tot : Nat) (x : UInt8) (S : List UInt8) (hS : S.length = 4) (hx : x ≠ 3) (fs : List Fd) (a n : Nat) (h : flE (k + 1) tot (x :: 0 :: 4 :: S) [] 0 0 false = .ok (fs, a, n)) : a = 0 := by
  have e3 : ((x :: 0 :: 4 :: S).drop 1).take 2 = [0, 4] := rfl
  have b1 : bv [0, 4] = 4 := rfl
  have b2 : bv ((x :: 0 :: 4 :: S).take 1) = x.toNat := bv_one _ _
  have e2 : (x :: 0 :: 4 :: S).drop 3 = S := rfl
  have e5 : S.drop 4 = [] := List.drop_eq_nil_of_le (by omega)
  have hx3 : x.toNat ≠ 3 := fun he => hx (UInt8.toNat_inj.1 he)
  rw [flE, e2, e3, b1, b2, hS, if_neg (by simp), if_neg (by simp [hS]), if_neg (by omega), if_pos hx3, e5, flE_nil] at h
  rw [if_neg (by simp)] at h
  injection h with h
  injection h with _ h
  injection h with h _
  exact h.symm
theorem flE_len1 (k tot : Nat) (x : UInt8) (S : List UInt8) (hS : S.length = 4) (hx : x ≠ 0) : flE (k + 1) tot (3 :: x :: 4 :: S) [] 0 0 false = .error 4 := by
  have e3 : ((3 :: x :: 4 :: S).drop 1).take 2 = [x, 4] := rfl
  have b1 : bv [x, 4] = x.toNat * 256 + 4 := by simp [bv]
  have e2 : (3 :: x :: 4 :: S).drop 3 = S := rfl
  have hx0 : x.toNat ≠ 0 := fun he => hx (UInt8.toNat_inj.1 he)
  rw [flE, e2, e3, b1, hS, if_neg (by simp), if_neg (by simp [hS]), if_pos (by omega)]
theorem flE_len2 (k tot : Nat) (x : UInt8) (S : List UInt8) (hS : S.length = 4) (hx : x ≠ 4) : flE (k + 1) tot (3 :: 0 :: x :: S) [] 0 0 false = .error 4 := by
  have e3 : ((3 :: 0 :: x :: S).drop 1).take 2 = [0, x] := rfl
  have b1 : bv [0, x] = x.toNat := by simp [bv]
  have e2 : (3 :: 0 :: x :: S).drop 3 = S := rfl
  have b2 : bv ((3 :: 0 :: x :: S).take 1) = 3 := rfl
  have hx0 : x.toNat ≠ 4 := fun he => hx (UInt8.toNat_inj.1 he)
  rw [flE, e2, e3, b1, b2, hS, if_neg (by simp), if_neg (by simp [hS])]
  by_cases h4 : 4 < x.toNat
  · rw [if_pos h4]
  · rw [if_neg h4, if_neg (by omega), if_pos hx0]
/-- a seal's field cut off -/
theorem flE_cut (k tot q : Nat) (S : List UInt8) (hq : q < 7) (hS : S.length = 4) (fs : List Fd) (a n : Nat) (h : flE k tot (([3, 0, 4] ++ S).take q) [] 0 0 false = .ok (fs, a, n)) : a = 0 := by
  cases k with
  | zero => simp [flE] at h; exact h.2.1.symm
  | succ k =>
    have hlen : (([3, 0, 4] ++ S).take q).length = q := by rw [List.length_take, List.length_append, hS]; simp; omega
    by_cases h0 : q = 0
    · subst h0
      rw [List.take_zero, flE_nil] at h
      simp at h; exact h.2.1.symm
    · by_cases h3 : q < 3
      · rw [flE, hlen, if_neg h0, if_pos h3] at h; cases h
      · obtain ⟨r, rfl⟩ : ∃ r, q = r + 3 := ⟨q - 3, by omega⟩
        have e : ([3, 0, 4] ++ S).take (r + 3) = 3 :: 0 :: 4 :: S.take r := rfl
        rw [e] at h hlen
        have e2 : (3 :: 0 :: 4 :: S.take r).drop 3 = S.take r := rfl
        have e3 : ((3 :: 0 :: 4 :: S.take r).drop 1).take 2 = [0, 4] := rfl
        have b1 : bv [0, 4] = 4 := rfl
        rw [flE, hlen, e2, e3, b1, if_neg h0, if_neg h3, if_pos (by rw [List.length_take]; omega)] at h
        cases h
end Go.Proofs.YtfagkmmenfeppaaDoor
