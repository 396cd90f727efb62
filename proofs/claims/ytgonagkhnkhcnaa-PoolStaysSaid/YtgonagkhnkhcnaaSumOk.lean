import Derived.Test.YtgonagkhnkhcnaaFErr
import Derived.Test.YtgonagkhnkhcnaaRShare
/- The sum of all shares is 1, as near as float64 come. -/
namespace Go.Proofs.Ytgonagkhnkhcnaa
set_option maxRecDepth 100000
open Go.RowKit FM
/-- behind k shares: the sum stands near what it should be -/
def SumOk (T S k s : Nat) : Prop := ∃ t, Is s false t ∧ Near (t * T) (S * 2 ^ (1023 + 51)) (k * (T * 2 ^ (1023 + 2)))
theorem pw_eq (a b : Nat) (h : a = b) : 2 ^ a = 2 ^ b := by rw [h]
theorem sum_start (T : Nat) : SumOk T 0 0 0 := by
  have h := near_zero T (2 ^ (1023 + 51)) (0 * (T * 2 ^ (1023 + 2)))
  exact ⟨0, is_zero false, h⟩
theorem step_plain (K t T S k u p t2 : Nat) (h1 : Near (t * T) (S * 2 ^ (K + 51)) (k * (T * 2 ^ (K + 2)))) (h2 : Near (u * T) (p * 2 ^ (K + 51)) (T * 2 ^ (K + 1))) (h3 : Near t2 (t + u) (2 ^ K)) :
    Near (t2 * T) ((S + p) * 2 ^ (K + 51)) ((k + 1) * (T * 2 ^ (K + 2))) := by
  have h4 := h3.mul T
  rw [Nat.add_mul t u] at h4
  have e1 : 2 ^ K * T + T * 2 ^ (K + 1) ≤ T * 2 ^ (K + 2) := by
    rw [Nat.pow_succ, Nat.pow_succ, Nat.pow_succ, Nat.mul_comm (2 ^ K) T]
    have : ∀ A, T * A + T * (A * 2) ≤ T * (A * 2 * 2) := fun A => by
      have e : T * (A * 2) = 2 * (T * A) := by rw [Nat.mul_comm A 2, Nat.mul_left_comm]
      have e2 : T * (A * 2 * 2) = 4 * (T * A) := by rw [Nat.mul_assoc A, Nat.mul_comm A, Nat.mul_left_comm]
      omega
    exact this _
  rw [Nat.add_mul S p, Nat.add_mul k 1, Nat.one_mul]
  generalize T * 2 ^ (K + 2) = A at *
  generalize 2 ^ K * T = B at *
  generalize T * 2 ^ (K + 1) = C at *
  generalize S * 2 ^ (K + 51) = X at *
  generalize p * 2 ^ (K + 51) = Y at *
  obtain ⟨a1, a2⟩ := h1
  obtain ⟨b1, b2⟩ := h2
  obtain ⟨c1, c2⟩ := h4
  exact ⟨by omega, by omega⟩
theorem bound_plain (K t T S k : Nat) (hT : 0 < T) (hS : S ≤ T) (hk : k ≤ 100) (h : Near (t * T) (S * 2 ^ (K + 51)) (k * (T * 2 ^ (K + 2)))) : t ≤ 2 ^ (K + 51) + 400 * 2 ^ K := by
  have h1 : t * T ≤ T * 2 ^ (K + 51) + 100 * (T * 2 ^ (K + 2)) := by
    have a := h.1
    have b : S * 2 ^ (K + 51) ≤ T * 2 ^ (K + 51) := Nat.mul_le_mul_right _ hS
    have c : k * (T * 2 ^ (K + 2)) ≤ 100 * (T * 2 ^ (K + 2)) := Nat.mul_le_mul_right _ hk
    omega
  have e : T * 2 ^ (K + 51) + 100 * (T * 2 ^ (K + 2)) = (2 ^ (K + 51) + 400 * 2 ^ K) * T := by
    rw [Nat.pow_succ 2 (K + 1), Nat.pow_succ 2 K, Nat.add_mul, Nat.mul_comm T]
    congr 1
    generalize 2 ^ K = A
    rw [Nat.mul_comm T (A * 2 * 2)]
    have : ∀ x, 100 * (x * 2 * 2 * T) = 400 * x * T := fun x => by
      rw [Nat.mul_assoc x, Nat.mul_comm x, Nat.mul_assoc, Nat.mul_assoc, Nat.mul_assoc, ← Nat.mul_assoc 100]
      omega
    exact this A
  rw [e] at h1
  exact Nat.le_of_mul_le_mul_right h1 hT
theorem small_plain (K a b : Nat) (ha : a ≤ 2 ^ (K + 51) + 400 * 2 ^ K) (hb : b ≤ 2 ^ (K + 51) + 400 * 2 ^ K) : a + b < 2 ^ (K + 53) := by
  have e : ∀ j, 2 ^ (K + j) = 2 ^ K * 2 ^ j := fun j => Nat.pow_add ..
  rw [e] at ha hb ⊢
  have hp := pow_pos K
  generalize 2 ^ K = A at *
  omega
theorem sum_step (T S k s p : Nat) (hT : T ≠ 0) (hTm : T ≤ 4294967296) (hp : p ≤ T) (hS : S ≤ T) (hk : k ≤ 100) (h : SumOk T S k s) : ∃ r, D.add s (quoW p T) = some r ∧ SumOk T (S + p) (k + 1) r := by
  obtain ⟨t, h1, h2⟩ := h
  obtain ⟨u, h3, h4⟩ := div_err p T hp hTm hT _ (div_some p T (by omega) hTm hT)
  rw [pw_eq 1074 (1023 + 51) (by decide)] at h4
  have b1 := bound_plain 1023 t T S k (Nat.pos_of_ne_zero hT) hS hk h2
  have h5 : Near (u * T) (p * 2 ^ (1023 + 51)) (1 * (T * 2 ^ (1023 + 2))) := h4.mono (one_plain T 1023)
  have b2 := bound_plain 1023 u T p 1 (Nat.pos_of_ne_zero hT) hp (by decide) h5
  obtain ⟨r, t2, g1, g2, g3⟩ := add_err 1023 (by decide) h1 h3 (small_plain 1023 t u b1 b2)
  exact ⟨r, g1, t2, g2, step_plain 1023 t T S k u p t2 h2 h4 g3⟩
where
  one_plain (T K : Nat) : T * 2 ^ (K + 1) ≤ 1 * (T * 2 ^ (K + 2)) := by
    rw [Nat.one_mul]; exact Nat.mul_le_mul_left _ (Nat.pow_le_pow_right (by omega) (by omega))
theorem end_plain (K t T k : Nat) (hT : 0 < T) (hk : k ≤ 100) (h : Near (t * T) (T * 2 ^ (K + 51)) (k * (T * 2 ^ (K + 2)))) : Near t (2 ^ (K + 51)) (400 * 2 ^ K) := by
  have h1 : Near (t * T) (2 ^ (K + 51) * T) (400 * 2 ^ K * T) := by
    rw [Nat.mul_comm T] at h
    refine h.mono ?_
    have c : k * (T * 2 ^ (K + 2)) ≤ 100 * (T * 2 ^ (K + 2)) := Nat.mul_le_mul_right _ hk
    refine Nat.le_trans c ?_
    rw [Nat.pow_add 2 K 2]
    generalize 2 ^ K = A
    have : 100 * (T * (A * 2 ^ 2)) = 400 * A * T := by
      rw [show (2 : Nat) ^ 2 = 4 from rfl, Nat.mul_comm T, Nat.mul_comm A 4, ← Nat.mul_assoc, ← Nat.mul_assoc]
    omega
  exact Near.cancel hT h1
theorem val_of (c e f : Nat) (h : ¬ c < 4503599627370496) (he : c / 4503599627370496 - 1 = e) (hf : 4503599627370496 + c % 4503599627370496 = f) : val c = f * 2 ^ e := by
  unfold val; rw [if_neg h, he, hf]
theorem lt_plain (K E t f1 f2 : Nat) (hK : K = E + 2) (h : Near t (2 ^ (K + 51)) (400 * 2 ^ K)) (h1 : f1 + 1600 < 9007199254740992) (h2 : 9007199254740992 + 1600 < 2 * f2) : f1 * 2 ^ E < t ∧ t < f2 * 2 ^ (E + 1) := by
  subst hK
  obtain ⟨a1, a2⟩ := h
  rw [show E + 2 + 51 = E + 53 by omega, Nat.pow_add 2 E 53] at a1 a2
  rw [Nat.pow_add 2 E 2] at a1 a2
  rw [Nat.pow_succ]
  have hp := pow_pos E
  generalize 2 ^ E = A at *
  have k1 : (f1 + 1600) * A < 9007199254740992 * A := Nat.mul_lt_mul_of_pos_right h1 hp
  have k2 : (9007199254740992 + 1600) * A < 2 * f2 * A := Nat.mul_lt_mul_of_pos_right h2 hp
  rw [Nat.add_mul] at k1 k2
  have e3 : f2 * (A * 2) = 2 * f2 * A := by rw [Nat.mul_comm A 2, ← Nat.mul_assoc, Nat.mul_comm f2]
  rw [e3]
  constructor <;> omega
theorem sum_end (T k s : Nat) (hT : T ≠ 0) (hk : k ≤ 100) (h : SumOk T T k s) : (D.order s 4607182409792818153 == some .gt) = true ∧ (D.order s 4607182423303617035 == some .lt) = true := by
  obtain ⟨t, h1, h2⟩ := h
  have h3 := end_plain 1023 t T k (Nat.pos_of_ne_zero hT) hk h2
  have v1 : val 4607182409792818153 = 9007190247541737 * 2 ^ 1021 := val_of 4607182409792818153 1021 9007190247541737 (by decide) (by decide) (by decide)
  have v2 : ∀ E, E = 1022 → val 4607182423303617035 = 4503604130970123 * 2 ^ E := fun E hE => val_of _ E _ (by decide) (by rw [hE]) (by decide)
  have i1 := read_fin 4607182409792818153 (by unfold rung; omega)
  have i2 := read_fin 4607182423303617035 (by unfold rung; omega)
  rw [show sgn 4607182409792818153 = false from rfl, show rung 4607182409792818153 = 4607182409792818153 from rfl, v1] at i1
  rw [show sgn 4607182423303617035 = false from rfl, show rung 4607182423303617035 = 4607182423303617035 from rfl, v2 (1021 + 1) (by decide)] at i2
  obtain ⟨l1, l2⟩ := lt_plain 1023 1021 t 9007190247541737 4503604130970123 (by decide) h3 (by decide) (by decide)
  exact ⟨sv_gt h1 i1 l1, sv_lt h1 i2 l2⟩
where
  sv_gt {b c v u : Nat} (hb : Is b false v) (hc : Is c false u) (h : u < v) : (D.order b c == some .gt) = true := by
    rw [order_is hb hc, cmp_gt]
    unfold sv
    rw [if_neg (by decide), if_neg (by decide)]
    exact decide_eq_true (by omega)
  sv_lt {b c v u : Nat} (hb : Is b false v) (hc : Is c false u) (h : v < u) : (D.order b c == some .lt) = true := by
    rw [order_is hb hc, cmp_lt]
    unfold sv
    rw [if_neg (by decide), if_neg (by decide)]
    exact decide_eq_true (by omega)
end Go.Proofs.Ytgonagkhnkhcnaa
