import Derived.Test.YtgonagkhnkhcnaaFMath2
/- How far rounding goes astray: quotients of whole numbers, and sums, below 4. -/
namespace FM
set_option maxRecDepth 100000
open Ieee
/-- |a - b| ≤ c, without signs -/
def Near (a b c : Nat) : Prop := a ≤ b + c ∧ b ≤ a + c
theorem is_carry (neg : Bool) (e kept : Nat) (h : kept ≤ 9007199254740992) (hk : 4503599627370496 ≤ kept ∨ e = 0) (he : e ≤ 2044) : Is (D.word neg (e * 4503599627370496 + kept)) neg (kept * 2 ^ e) := by
  rcases Nat.lt_or_ge kept 9007199254740992 with h1 | h1
  · exact is_word neg e kept h1 hk (by omega)
  · obtain rfl : kept = 9007199254740992 := by omega
    have := is_word neg (e + 1) 4503599627370496 (by omega) (.inl (by omega)) (by omega)
    rw [show (e + 1) * 4503599627370496 + 4503599627370496 = e * 4503599627370496 + 9007199254740992 by omega] at this
    rw [show 4503599627370496 * 2 ^ (e + 1) = 9007199254740992 * 2 ^ e by rw [Nat.pow_succ]; omega] at this
    exact this
theorem nearest_err (K : Nat) (hK : K ≤ 2000) (neg : Bool) (mag p q : Nat) (hm : mag ≠ 0) (hb : mag.log2 + p ≤ K + 52 + q) :
    ∃ t, Is (D.nearest neg mag ((p : Int) - q - 1074)) neg t ∧ Near (t * 2 ^ q) (mag * 2 ^ p) (2 ^ K * 2 ^ q) := by
  obtain ⟨e, he⟩ : ∃ e : Nat, (e : Int) - 1074 = max (((p : Int) - q - 1074) + mag.log2 - 52) (-1074) := ⟨(max (((p : Int) - q - 1074) + mag.log2 - 52) (-1074) + 1074).toNat, by omega⟩
  have he2 : e ≤ K := by omega
  have hEle : 2 ^ e ≤ 2 ^ K := Nat.pow_le_pow_right (by omega) he2
  obtain ⟨h1, h2⟩ := log2_bounds hm
  obtain ⟨kept, hk⟩ : ∃ kept, kept = Toward.even.cut neg (mag <<< (((p : Int) - q - 1074) - ((e : Int) - 1074)).toNat) (((e : Int) - 1074) - ((p : Int) - q - 1074)).toNat := ⟨_, rfl⟩
  have hk' := hk
  rw [show (((p : Int) - q - 1074) - ((e : Int) - 1074)).toNat = p - (e + q) by omega, show (((e : Int) - 1074) - ((p : Int) - q - 1074)).toNat = (e + q) - p by omega, Nat.shiftLeft_eq] at hk'
  have hnear : Near (kept * 2 ^ (e + q)) (mag * 2 ^ p) (2 ^ (e + q)) ∧ kept ≤ 9007199254740992 ∧ (4503599627370496 ≤ kept ∨ e = 0) := by
    rcases Nat.le_total (e + q) p with hep | hep
    · rw [show (e + q) - p = 0 by omega, cut_exact _ _ _ (by simp)] at hk'
      simp only [Nat.pow_zero, Nat.div_one] at hk'
      have hv : kept * 2 ^ (e + q) = mag * 2 ^ p := by rw [hk', Nat.mul_assoc, ← Nat.pow_add, show p - (e + q) + (e + q) = p by omega]
      have hpp := pow_pos (e + q)
      refine ⟨⟨by omega, by omega⟩, ?_, ?_⟩
      · have : mag * 2 ^ (p - (e + q)) < 2 ^ (mag.log2 + 1) * 2 ^ (p - (e + q)) := Nat.mul_lt_mul_of_pos_right h2 (pow_pos _)
        rw [← Nat.pow_add] at this
        have h3 : 2 ^ (mag.log2 + 1 + (p - (e + q))) ≤ 2 ^ 53 := Nat.pow_le_pow_right (by omega) (by omega)
        omega
      · by_cases h0 : e = 0
        · exact .inr h0
        · left
          have : 2 ^ mag.log2 * 2 ^ (p - (e + q)) ≤ mag * 2 ^ (p - (e + q)) := Nat.mul_le_mul_right _ h1
          rw [← Nat.pow_add] at this
          have h3 : 2 ^ 52 ≤ 2 ^ (mag.log2 + (p - (e + q))) := Nat.pow_le_pow_right (by omega) (by omega)
          omega
    · rw [show p - (e + q) = 0 by omega, Nat.pow_zero, Nat.mul_one] at hk'
      obtain ⟨d, hd⟩ : ∃ d, e + q = p + d := ⟨e + q - p, by omega⟩
      rw [show (e + q) - p = d by omega] at hk'
      obtain ⟨c1, c2⟩ := cut_near neg mag d
      rw [← hk'] at c1 c2
      have hdp := pow_pos d
      have hdm := Nat.div_add_mod mag (2 ^ d)
      have hml := Nat.mod_lt mag hdp
      have hlo : mag ≤ (kept + 1) * 2 ^ d := by
        have : mag / 2 ^ d * 2 ^ d ≤ kept * 2 ^ d := Nat.mul_le_mul_right _ c1
        rw [Nat.mul_comm] at this
        rw [Nat.add_mul]; omega
      have hhi : kept * 2 ^ d ≤ mag + 2 ^ d := by
        have : kept * 2 ^ d ≤ (mag / 2 ^ d + 1) * 2 ^ d := Nat.mul_le_mul_right _ c2
        rw [Nat.add_mul, Nat.mul_comm (mag / 2 ^ d)] at this
        omega
      refine ⟨⟨?_, ?_⟩, ?_, ?_⟩
      · rw [hd, Nat.pow_add, Nat.mul_comm (2 ^ p), ← Nat.mul_assoc, ← Nat.add_mul]
        exact Nat.mul_le_mul_right _ hhi
      · rw [hd, Nat.pow_add, Nat.mul_comm (2 ^ p), ← Nat.mul_assoc, ← Nat.add_mul]
        refine Nat.mul_le_mul_right _ ?_
        rw [Nat.add_mul] at hlo; omega
      · have h3 : mag < 2 ^ 53 * 2 ^ d := by
          rw [← Nat.pow_add]
          have : 2 ^ (mag.log2 + 1) ≤ 2 ^ (53 + d) := Nat.pow_le_pow_right (by omega) (by omega)
          omega
        have h4 : mag / 2 ^ d < 2 ^ 53 := (Nat.div_lt_iff_lt_mul hdp).2 h3
        omega
      · by_cases h0 : e = 0
        · exact .inr h0
        · left
          have h3 : 2 ^ 52 * 2 ^ d ≤ mag := by
            rw [← Nat.pow_add]
            have : 2 ^ (52 + d) ≤ 2 ^ mag.log2 := Nat.pow_le_pow_right (by omega) (by omega)
            omega
          have h4 : 2 ^ 52 ≤ mag / 2 ^ d := (Nat.le_div_iff_mul_le hdp).2 h3
          omega
  obtain ⟨hn, hk1, hk2⟩ := hnear
  rw [nearest_word neg mag _ e kept hm he hk (by omega)]
  refine ⟨_, is_carry neg e kept hk1 hk2 (by omega), ?_⟩
  rw [Nat.mul_assoc, ← Nat.pow_add]
  obtain ⟨a1, a2⟩ := hn
  have : 2 ^ (e + q) ≤ 2 ^ K * 2 ^ q := by rw [Nat.pow_add]; exact Nat.mul_le_mul_right _ hEle
  exact ⟨by omega, by omega⟩
/-- a sum of two that are not negative, below 2 -/
theorem add_err (K : Nat) (hK : K ≤ 2000) {a b u v : Nat} (ha : Is a false u) (hb : Is b false v) (h : u + v < 2 ^ (K + 53)) : ∃ r t, D.add a b = some r ∧ Is r false t ∧ Near t (u + v) (2 ^ K) := by
  obtain ⟨m, p, h1, h2⟩ := ha
  obtain ⟨n, q, h3, h4⟩ := hb
  have key : ∃ (T k : Nat), T * 2 ^ k = u + v ∧ (D.read a).sum (D.read b) = some (.number false T ((k : Int) - 1074)) := by
    rw [h1, h3]
    unfold Datum.sum
    simp only
    rcases Nat.le_total p q with h | h
    · have hm : min ((p : Int) - 1074) ((q : Int) - 1074) = (p : Int) - 1074 := by omega
      rw [hm, show ((p : Int) - 1074 - ((p : Int) - 1074)).toNat = 0 by omega, show ((q : Int) - 1074 - ((p : Int) - 1074)).toNat = q - p by omega]
      rw [signed_eq, signed_eq]
      refine ⟨m + n * 2 ^ (q - p), p, by rw [Nat.add_mul, Nat.mul_assoc, ← Nat.pow_add, show q - p + p = q by omega, h2, h4], ?_⟩
      have e : sv false (m * 2 ^ 0) + sv false (n * 2 ^ (q - p)) = ((m + n * 2 ^ (q - p) : Nat) : Int) := by
        unfold sv; rw [if_neg (by decide), if_neg (by decide), Nat.pow_zero, Nat.mul_one]; omega
      rw [e]
      congr 2
      · split
        · rfl
        · exact decide_eq_false (by omega)
    · have hm : min ((p : Int) - 1074) ((q : Int) - 1074) = (q : Int) - 1074 := by omega
      rw [hm, show ((p : Int) - 1074 - ((q : Int) - 1074)).toNat = p - q by omega, show ((q : Int) - 1074 - ((q : Int) - 1074)).toNat = 0 by omega]
      rw [signed_eq, signed_eq]
      refine ⟨m * 2 ^ (p - q) + n, q, by rw [Nat.add_mul, Nat.mul_assoc, ← Nat.pow_add, show p - q + q = p by omega, h2, h4], ?_⟩
      have e : sv false (m * 2 ^ (p - q)) + sv false (n * 2 ^ 0) = ((m * 2 ^ (p - q) + n : Nat) : Int) := by
        unfold sv; rw [if_neg (by decide), if_neg (by decide), Nat.pow_zero, Nat.mul_one]; omega
      rw [e]
      congr 2
      · split
        · rfl
        · exact decide_eq_false (by omega)
  obtain ⟨T, k, hT, hs⟩ := key
  unfold Format.add
  rw [hs]
  by_cases h0 : T = 0
  · subst h0
    rw [Nat.zero_mul] at hT
    refine ⟨_, 0, rfl, ?_, ?_⟩
    · show Is (D.nearest false 0 _) false 0
      rw [nearest_zero]; exact is_zero false
    · have hpp := pow_pos K
      exact ⟨by omega, by omega⟩
  · have hl : T.log2 + k ≤ K + 52 + 0 := by
      have h5 := log2_shift h0 k
      have h6 : (T * 2 ^ k).log2 < K + 53 := (Nat.log2_lt (by have := Nat.mul_pos (Nat.pos_of_ne_zero h0) (pow_pos k); omega)).2 (by rw [hT]; exact h)
      omega
    obtain ⟨t, h5, h6⟩ := nearest_err K hK false T k 0 h0 hl
    rw [show ((k : Int) - ((0 : Nat) : Int) - 1074) = (k : Int) - 1074 by omega] at h5
    rw [Nat.pow_zero, Nat.mul_one, Nat.mul_one, hT] at h6
    exact ⟨_, t, rfl, h5, h6⟩
theorem pow52 (K : Nat) (h : 52 ≤ K) : 4503599627370496 ≤ 2 ^ K := show 2 ^ 52 ≤ 2 ^ K from Nat.pow_le_pow_right (by omega) h
/-- the word of a whole number, its digits full -/
theorem read_norm (n : Nat) (h0 : n ≠ 0) (h : n ≤ 4294967296) : ∃ (a p : Nat), D.read (D.nearest false n 0) = .number false a ((p : Int) - 1074) ∧ a * 2 ^ p = n * 2 ^ 1074 ∧ a.log2 = 52 ∧ p = n.log2 + 1022 := by
  obtain ⟨m, p, h1, h2⟩ := is_nat n h
  have hm52 : m.log2 = 52 := by
    obtain ⟨hf, _, hv⟩ := is_fin ⟨m, p, h1, h2⟩
    have hbig : ¬ rung (D.nearest false n 0) < 4503599627370496 := by
      intro hlt
      have : val (rung (D.nearest false n 0)) < 2 ^ 1074 := by
        unfold val
        rw [if_pos hlt]
        exact Nat.lt_of_lt_of_le hlt (pow52 1074 (by decide))
      rw [hv] at this
      exact absurd this (Nat.not_lt.2 (Nat.le_mul_of_pos_left _ (Nat.pos_of_ne_zero h0)))
    have hb' : ¬ D.nearest false n 0 % 9223372036854775808 < 4503599627370496 := hbig
    have hf' : D.nearest false n 0 % 9223372036854775808 < 9218868437227405312 := hf
    unfold Format.read at h1
    rw [bin, infR, sgnW, leastP] at h1
    simp only at h1
    rw [if_neg hb', if_pos hf'] at h1
    injection h1 with e1 e2 e3
    refine (Nat.log2_eq_iff (by omega)).2 ?_
    constructor
    · rw [← e2]; show 4503599627370496 ≤ _; omega
    · rw [← e2]; show _ < 9007199254740992; omega
  have hm0 : m ≠ 0 := by rintro rfl; simp at hm52
  refine ⟨m, p, h1, h2, hm52, ?_⟩
  have h3 := log2_shift hm0 p
  have h4 := log2_shift h0 1074
  rw [h2, h4, hm52] at h3
  omega
/-- plain: the quotient's digits, with the one more that tells of a rest -/
theorem quot_near (b c q st : Nat) (hb : 0 < b) (hq : q = c / b) (hst : st = (c % b != 0).toNat) : Near ((2 * q + st) * b) (2 * c) (2 * b) := by
  have h1 := Nat.div_add_mod c b
  have h2 := Nat.mod_lt c hb
  have hs : st ≤ 1 := by rw [hst]; cases (c % b != 0) <;> simp
  rw [← hq] at h1
  have e : (2 * q + st) * b = 2 * (b * q) + st * b := by rw [Nat.add_mul, Nat.mul_assoc, Nat.mul_comm q b]
  have h3 : st * b ≤ 1 * b := Nat.mul_le_mul_right _ hs
  rw [e]
  exact ⟨by omega, by omega⟩
theorem Near.mul {a b c : Nat} (h : Near a b c) (k : Nat) : Near (a * k) (b * k) (c * k) := by
  obtain ⟨h1, h2⟩ := h
  constructor
  · rw [← Nat.add_mul]; exact Nat.mul_le_mul_right _ h1
  · rw [← Nat.add_mul]; exact Nat.mul_le_mul_right _ h2
theorem Near.trans {a b c x y : Nat} (h : Near a b x) (k : Near b c y) : Near a c (x + y) := by
  obtain ⟨h1, h2⟩ := h
  obtain ⟨h3, h4⟩ := k
  exact ⟨by omega, by omega⟩
theorem Near.mono {a b x y : Nat} (h : Near a b x) (hxy : x ≤ y) : Near a b y := ⟨by have := h.1; omega, by have := h.2; omega⟩
theorem Near.cancel {a b c k : Nat} (hk : 0 < k) (h : Near (a * k) (b * k) (c * k)) : Near a b c := by
  obtain ⟨h1, h2⟩ := h
  rw [← Nat.add_mul] at h1 h2
  exact ⟨Nat.le_of_mul_le_mul_right h1 hk, Nat.le_of_mul_le_mul_right h2 hk⟩
theorem scale_eq (b p n l S T : Nat) (h : b * 2 ^ p = n * 2 ^ T) (hp : p = l + S) (hT : T = 52 + S) : b * 2 ^ l = n * 2 ^ 52 := by
  subst hp hT
  rw [Nat.pow_add, ← Nat.mul_assoc, Nat.pow_add, ← Nat.mul_assoc] at h
  exact Nat.eq_of_mul_eq_mul_right (pow_pos S) h
theorem div_plain (t m n b a g P Q K T l k : Nat) (hP : P = 2 ^ l) (hQ : Q = 2 ^ k) (hT : T = K + 51) (hb : b * Q = m * 2 ^ 52) (ha : a * P = n * 2 ^ 52) (hPQ : P ≤ Q)
    (k1 : Near (t * 2 ^ (k + 55) * b) (g * 2 ^ (l + T) * b) (2 ^ K * 2 ^ (k + 55) * b)) (k2 : Near (g * b * 2 ^ (l + T)) (2 * (a * 2 ^ 54) * 2 ^ (l + T)) (2 * b * 2 ^ (l + T))) :
    Near (t * m) (n * 2 ^ T) (m * 2 ^ (K + 1)) := by
  have e1 : t * 2 ^ (k + 55) * b = t * m * 2 ^ 107 := by
    rw [Nat.pow_add, ← hQ]
    have : t * (Q * 2 ^ 55) * b = t * (b * Q) * 2 ^ 55 := by ac_rfl
    rw [this, hb]
    have : t * (m * 2 ^ 52) * 2 ^ 55 = t * m * (2 ^ 52 * 2 ^ 55) := by ac_rfl
    rw [this]
  have e2 : g * 2 ^ (l + T) * b = g * b * 2 ^ (l + T) := by ac_rfl
  have e3 : 2 * (a * 2 ^ 54) * 2 ^ (l + T) = n * 2 ^ T * 2 ^ 107 := by
    rw [Nat.pow_add, ← hP]
    have : 2 * (a * 2 ^ 54) * (P * 2 ^ T) = (a * P) * (2 * 2 ^ 54) * 2 ^ T := by ac_rfl
    rw [this, ha]
    have : n * 2 ^ 52 * (2 * 2 ^ 54) * 2 ^ T = n * 2 ^ T * (2 ^ 52 * (2 * 2 ^ 54)) := by ac_rfl
    rw [this]
  have e4 : 2 ^ K * 2 ^ (k + 55) * b = m * 2 ^ K * 2 ^ 107 := by
    rw [Nat.pow_add, ← hQ]
    have : 2 ^ K * (Q * 2 ^ 55) * b = (b * Q) * 2 ^ K * 2 ^ 55 := by ac_rfl
    rw [this, hb]
    have : m * 2 ^ 52 * 2 ^ K * 2 ^ 55 = m * 2 ^ K * (2 ^ 52 * 2 ^ 55) := by ac_rfl
    rw [this]
  have e5 : 2 * b * 2 ^ (l + T) ≤ m * 2 ^ K * 2 ^ 107 := by
    rw [Nat.pow_add, ← hP]
    have h1 : 2 * b * (P * 2 ^ T) ≤ 2 * b * (Q * 2 ^ T) := Nat.mul_le_mul_left _ (Nat.mul_le_mul_right _ hPQ)
    have h2 : 2 * b * (Q * 2 ^ T) = (b * Q) * 2 * 2 ^ T := by ac_rfl
    rw [h2, hb, hT, Nat.pow_add] at h1
    have h3 : m * 2 ^ 52 * 2 * (2 ^ K * 2 ^ 51) = m * 2 ^ K * (2 ^ 52 * 2 * 2 ^ 51) := by ac_rfl
    rw [h3] at h1
    refine Nat.le_trans ?_ (Nat.le_trans h1 (Nat.mul_le_mul_left _ (by decide)))
    rw [hT, Nat.pow_add]
    exact Nat.le_refl _
  rw [e2] at k1
  have k3 := k1.trans k2
  rw [e1, e3, e4] at k3
  have k4 := k3.mono (Nat.add_le_add_left e5 _)
  rw [← Nat.add_mul] at k4
  have k5 := Near.cancel (pow_pos 107) k4
  have e6 : m * 2 ^ K + m * 2 ^ K = m * 2 ^ (K + 1) := by rw [Nat.pow_succ, ← Nat.mul_assoc]; omega
  rw [e6] at k5
  exact k5
theorem bd_plain (x l k : Nat) (h : x ≤ 56) (hl : l ≤ k) : x + (l + 1074) ≤ 1023 + 52 + (k + 55) := by omega
theorem near_zero (m A B : Nat) : Near (0 * m) (0 * A) B := ⟨by rw [Nat.zero_mul]; exact Nat.zero_le _, by rw [Nat.zero_mul]; exact Nat.zero_le _⟩
/-- THE QUOTIENT OF TWO WHOLE NUMBERS, the first not greater. -/
theorem div_err (n m : Nat) (hn : n ≤ m) (hm : m ≤ 4294967296) (h0 : m ≠ 0) (r : Nat) (hr : D.div (D.nearest false n 0) (D.nearest false m 0) = some r) :
    ∃ t, Is r false t ∧ Near (t * m) (n * 2 ^ 1074) (m * 2 ^ (1023 + 1)) := by
  obtain ⟨b, p2, hb1, hb2, hb3, hb4⟩ := read_norm m h0 hm
  have hb0 : b ≠ 0 := by rintro rfl; simp at hb3
  by_cases hz : n = 0
  · subst hz
    have hr0 : D.read (D.nearest false 0 0) = .number false 0 (-1074) := by decide
    unfold Format.div at hr
    rw [hr0, hb1] at hr
    unfold Datum.quotient at hr
    simp only at hr
    rw [if_neg hb0] at hr
    simp only [Nat.zero_shiftLeft, Nat.zero_div, Nat.zero_mod, bne_self_eq_false, Bool.toNat_false, Nat.mul_zero, Nat.add_zero, Option.map_some, Option.some.injEq] at hr
    refine ⟨0, ?_, ?_⟩
    · rw [← hr]
      show Is (D.nearest _ 0 _) false 0
      rw [nearest_zero]; exact is_zero false
    · have hz := near_zero m (2 ^ 1074) (m * 2 ^ (1023 + 1))
      exact hz
  · obtain ⟨a, p1, ha1, ha2, ha3, ha4⟩ := read_norm n hz (by omega)
    have ha0 : a ≠ 0 := by rintro rfl; simp at ha3
    unfold Format.div at hr
    rw [ha1, hb1] at hr
    unfold Datum.quotient at hr
    simp only at hr
    rw [if_neg hb0, ha3, hb3] at hr
    obtain ⟨q, hq⟩ : ∃ q, q = a <<< (D.fractionBits + 2 + 52 - 52) / b := ⟨_, rfl⟩
    obtain ⟨st, hst⟩ : ∃ st, st = (a <<< (D.fractionBits + 2 + 52 - 52) % b != 0).toNat := ⟨_, rfl⟩
    rw [← hq, ← hst] at hr
    have e54 : D.fractionBits + 2 + 52 - 52 = 54 := by decide
    rw [e54] at hq hst hr
    rw [Nat.shiftLeft_eq] at hq hst
    have hnear := quot_near b (a * 2 ^ 54) q st (Nat.pos_of_ne_zero hb0) hq hst
    have hlog : n.log2 ≤ m.log2 := (Nat.le_log2 h0).2 (Nat.le_trans (Nat.log2_self_le hz) hn)
    have hpl : ((p1 : Int) - 1074) - ((p2 : Int) - 1074) - ((54 : Nat) : Int) - 1 = ((n.log2 + 1074 : Nat) : Int) - ((m.log2 + 55 : Nat) : Int) - 1074 := by omega
    rw [hpl] at hr
    obtain ⟨a1, a2⟩ := log2_bounds ha0
    obtain ⟨b1, b2⟩ := log2_bounds hb0
    rw [ha3] at a1 a2
    rw [hb3] at b1 b2
    have hql : q < 2 ^ 55 := by
      rw [hq]
      rw [Nat.div_lt_iff_lt_mul (Nat.pos_of_ne_zero hb0)]
      omega
    have hs : st ≤ 1 := by rw [hst]; cases (a * 2 ^ 54 % b != 0) <;> simp
    have hmag : 2 * q + st ≠ 0 := by
      intro hc
      have h1 : q = 0 := by omega
      have h2 : a * 2 ^ 54 < b := by
        rw [h1] at hq
        rcases Nat.div_eq_zero_iff.1 hq.symm with h | h
        · exact absurd h hb0
        · exact h
      omega
    have hmagl : (2 * q + st).log2 ≤ 56 := by
      have : (2 * q + st).log2 < 57 := (Nat.log2_lt hmag).2 (by omega)
      omega
    have hr' : r = D.nearest false (2 * q + st) (((n.log2 + 1074 : Nat) : Int) - ((m.log2 + 55 : Nat) : Int) - 1074) := by
      simp only [Option.map_some, Option.some.injEq] at hr
      exact hr.symm
    obtain ⟨t, ht1, ht2⟩ := nearest_err 1023 (by decide) false (2 * q + st) (n.log2 + 1074) (m.log2 + 55) hmag (bd_plain _ _ _ hmagl hlog)
    rw [← hr'] at ht1
    refine ⟨t, ht1, ?_⟩
    -- scaled: b is m's digits, a is n's
    have hbm : b * 2 ^ m.log2 = m * 2 ^ 52 := scale_eq b p2 m m.log2 1022 1074 hb2 (by omega) (by decide)
    have han : a * 2 ^ n.log2 = n * 2 ^ 52 := scale_eq a p1 n n.log2 1022 1074 ha2 (by omega) (by decide)
    have hln : 2 ^ n.log2 ≤ 2 ^ m.log2 := Nat.pow_le_pow_right (by omega) hlog
    have k1 := ht2.mul b
    have k2 := hnear.mul (2 ^ (n.log2 + 1074))
    obtain ⟨P, hP⟩ : ∃ P, P = 2 ^ n.log2 := ⟨_, rfl⟩
    obtain ⟨Q, hQ⟩ : ∃ Q, Q = 2 ^ m.log2 := ⟨_, rfl⟩
    rw [← hQ] at hbm hln
    rw [← hP] at han hln
    obtain ⟨K, hK⟩ : ∃ K, K = 1023 := ⟨_, rfl⟩
    obtain ⟨T, hT⟩ : ∃ T, T = 1074 := ⟨_, rfl⟩
    rw [← hT] at k1 k2 ⊢
    rw [← hK] at k1 ⊢
    exact div_plain t m n b a (2 * q + st) P Q K T n.log2 m.log2 hP hQ (by omega) hbm han hln k1 k2
end FM
