/- float64 as the model has them: what words stand for, exact results, orders. -/
import Ieee.Arith
namespace FM
set_option maxRecDepth 100000
open Ieee
abbrev D : Format := double
theorem leastP : D.leastPlace = -1074 := by decide
theorem bin : D.binade = 4503599627370496 := by decide
theorem frac : D.fractionBits = 52 := rfl
theorem infR : D.infRung = 9218868437227405312 := by decide
theorem sgnW : D.signWeight = 9223372036854775808 := by decide
/-- the value of a rung, in units of 2^-1074 -/
def val (r : Nat) : Nat := if r < 4503599627370496 then r else (4503599627370496 + r % 4503599627370496) * 2 ^ (r / 4503599627370496 - 1)
def rung (b : Nat) : Nat := b % 9223372036854775808
def sgn (b : Nat) : Bool := b / 9223372036854775808 % 2 == 1
/-- a finite word: its sign and value -/
def Is (b : Nat) (s : Bool) (v : Nat) : Prop :=
  ∃ (m : Nat) (p : Nat), D.read b = .number s m ((p : Int) - 1074) ∧ m * 2 ^ p = v
theorem read_fin (b : Nat) (h : rung b < 9218868437227405312) : Is b (sgn b) (val (rung b)) := by
  unfold Is Format.read
  rw [bin, infR, sgnW, leastP]
  simp only
  change rung b < _ at h
  by_cases h1 : rung b < 4503599627370496
  · refine ⟨rung b, 0, ?_, by simp [val, h1]⟩
    rw [if_pos (show b % 9223372036854775808 < 4503599627370496 from h1)]
    rfl
  · refine ⟨4503599627370496 + rung b % 4503599627370496, rung b / 4503599627370496 - 1, ?_, by simp [val, h1]⟩
    rw [if_neg (show ¬ b % 9223372036854775808 < 4503599627370496 from h1), if_pos (show b % 9223372036854775808 < 9218868437227405312 from h)]
    show Datum.number _ _ (-1074 + ((rung b / 4503599627370496 - 1 : Nat) : Int)) = Datum.number _ _ (((rung b / 4503599627370496 - 1 : Nat) : Int) - 1074)
    rw [show (-1074 + ((rung b / 4503599627370496 - 1 : Nat) : Int)) = (((rung b / 4503599627370496 - 1 : Nat) : Int) - 1074) by omega]
    rfl
theorem read_word (s : Bool) (r : Nat) (h : r < 9223372036854775808) : rung (D.word s r) = r ∧ sgn (D.word s r) = s := by
  unfold rung sgn Format.word
  rw [sgnW]
  cases s
  · rw [if_neg (by decide)]
    exact ⟨by omega, by rw [beq_eq_false_iff_ne]; omega⟩
  · rw [if_pos rfl]
    exact ⟨by omega, by rw [beq_iff_eq]; omega⟩
theorem val_kept (e kept : Nat) (h : kept < 9007199254740992) (hk : 4503599627370496 ≤ kept ∨ e = 0) : val (e * 4503599627370496 + kept) = kept * 2 ^ e := by
  unfold val
  rcases hk with hk | rfl
  · rw [if_neg (by omega)]
    have h1 : (e * 4503599627370496 + kept) / 4503599627370496 = e + 1 := by omega
    have h2 : (e * 4503599627370496 + kept) % 4503599627370496 = kept - 4503599627370496 := by omega
    rw [h1, h2]
    rw [show 4503599627370496 + (kept - 4503599627370496) = kept by omega]
    rfl
  · by_cases h1 : 0 * 4503599627370496 + kept < 4503599627370496
    · rw [if_pos h1]; omega
    · rw [if_neg h1]
      have h1 : (0 * 4503599627370496 + kept) / 4503599627370496 = 1 := by omega
      have h2 : (0 * 4503599627370496 + kept) % 4503599627370496 = kept - 4503599627370496 := by omega
      rw [h1, h2]
      rw [show 4503599627370496 + (kept - 4503599627370496) = kept by omega]
theorem pow_pos (n : Nat) : 0 < 2 ^ n := Nat.pow_pos (by omega)
theorem log2_bounds {n : Nat} (h : n ≠ 0) : 2 ^ n.log2 ≤ n ∧ n < 2 ^ (n.log2 + 1) := ⟨Nat.log2_self_le h, Nat.lt_log2_self⟩
theorem cut_exact (neg : Bool) (n drop : Nat) (h : 2 ^ drop ∣ n) : Toward.even.cut neg n drop = n / 2 ^ drop := by
  obtain ⟨k, rfl⟩ := h
  unfold Toward.cut
  simp only
  have hp := pow_pos drop
  rcases Nat.eq_zero_or_pos k with rfl | hk
  · simp
  have hd : drop ≤ (2 ^ drop * k).log2 + 2 := by
    have hne : 2 ^ drop * k ≠ 0 := by
      have := Nat.mul_pos hp hk; omega
    have : drop ≤ (2 ^ drop * k).log2 := (Nat.le_log2 hne).2 (Nat.le_mul_of_pos_right _ hk)
    omega
  rw [Nat.min_eq_left hd, Nat.one_shiftLeft, Nat.mul_div_cancel_left _ hp, Nat.mul_mod_right]
  have : ¬ (2 ^ drop < 2 * 0) := by omega
  have h2 : (2 ^ drop == 2 * 0) = false := by rw [beq_eq_false_iff_ne]; omega
  simp [this]
/-- what the rounding keeps lies between the floor and one more -/
theorem cut_near (neg : Bool) (n drop : Nat) : n / 2 ^ drop ≤ Toward.even.cut neg n drop ∧ Toward.even.cut neg n drop ≤ n / 2 ^ drop + 1 := by
  unfold Toward.cut
  simp only
  have key : n / (1 <<< min drop (n.log2 + 2)) = n / 2 ^ drop := by
    rw [Nat.one_shiftLeft]
    by_cases hd : drop ≤ n.log2 + 2
    · rw [Nat.min_eq_left hd]
    · rw [Nat.min_eq_right (by omega)]
      have h1 : n < 2 ^ (n.log2 + 1) := Nat.lt_log2_self
      have h2 : 2 ^ (n.log2 + 1) ≤ 2 ^ (n.log2 + 2) := Nat.pow_le_pow_right (by omega) (by omega)
      have h3 : 2 ^ (n.log2 + 2) ≤ 2 ^ drop := Nat.pow_le_pow_right (by omega) (by omega)
      rw [Nat.div_eq_of_lt (by omega), Nat.div_eq_of_lt (by omega)]
  rw [key]
  have : ∀ b : Bool, b.toNat ≤ 1 := by intro b; cases b <;> simp
  constructor
  · omega
  · have := this (decide (1 <<< min drop (n.log2 + 2) < 2 * (n % 1 <<< min drop (n.log2 + 2))) || 1 <<< min drop (n.log2 + 2) == 2 * (n % 1 <<< min drop (n.log2 + 2)) && n / 2 ^ drop % 2 == 1)
    omega
/-- A number's nearest word, its kept digits and their place named. -/
theorem nearest_word (neg : Bool) (mag : Nat) (place : Int) (e kept : Nat) (hm : mag ≠ 0)
    (hl : (e : Int) - 1074 = max (place + mag.log2 - 52) (-1074)) (hk : kept = Toward.even.cut neg (mag <<< (place - ((e : Int) - 1074)).toNat) (((e : Int) - 1074) - place).toNat)
    (he : e * 4503599627370496 + kept ≤ 9218868437227405312) : D.nearest neg mag place = D.word neg (e * 4503599627370496 + kept) := by
  unfold Format.nearest
  rw [if_neg hm, leastP, bin, infR, frac]
  simp only
  rw [show max (place + (mag.log2 : Int) - ((52 : Nat) : Int)) (-1074) = (e : Int) - 1074 from hl.symm, ← hk]
  rw [show ((e : Int) - 1074 - -1074).toNat = e by omega, Nat.min_eq_left he]
theorem is_word (neg : Bool) (e kept : Nat) (h : kept < 9007199254740992) (hk : 4503599627370496 ≤ kept ∨ e = 0) (he : e * 4503599627370496 + kept < 9218868437227405312) : Is (D.word neg (e * 4503599627370496 + kept)) neg (kept * 2 ^ e) := by
  obtain ⟨h1, h2⟩ := read_word neg (e * 4503599627370496 + kept) (by omega)
  have := read_fin (D.word neg (e * 4503599627370496 + kept)) (by rw [h1]; exact he)
  rw [h1, h2, val_kept e kept h hk] at this
  exact this
theorem log2_shift {a : Nat} (h : a ≠ 0) (p : Nat) : (a * 2 ^ p).log2 = a.log2 + p := by
  refine (Nat.log2_eq_iff (by have := pow_pos p; have : 0 < a * 2 ^ p := Nat.mul_pos (by omega) this; omega)).2 ?_
  obtain ⟨h1, h2⟩ := log2_bounds h
  constructor
  · rw [Nat.pow_add]; exact Nat.mul_le_mul_right _ h1
  · rw [show a.log2 + p + 1 = (a.log2 + 1) + p by omega, Nat.pow_add]
    exact Nat.mul_lt_mul_of_pos_right h2 (pow_pos p)
/-- EXACT: a number that the format has. 'mag * 2^place' is 'u * 2^(e - 1074)', u short of 54 digits. -/
theorem nearest_exact (neg : Bool) (mag p q u e : Nat) (hm : mag ≠ 0) (hu : u < 9007199254740992) (hue : 4503599627370496 ≤ u ∨ e = 0) (he : e ≤ 2045) (hv : mag * 2 ^ p = u * 2 ^ e * 2 ^ q) :
    Is (D.nearest neg mag ((p : Int) - q - 1074)) neg (u * 2 ^ e) := by
  have hu0 : u ≠ 0 := by
    rintro rfl
    have := Nat.mul_pos (Nat.pos_of_ne_zero hm) (pow_pos p)
    omega
  rw [Nat.mul_assoc, ← Nat.pow_add] at hv
  have hlog : mag.log2 + p = u.log2 + (e + q) := by rw [← log2_shift hm, ← log2_shift hu0, hv]
  have hul : u.log2 ≤ 52 := by
    have : u.log2 < 53 := (Nat.log2_lt hu0).2 (by omega)
    omega
  have hu52 : 4503599627370496 ≤ u → u.log2 = 52 := by
    intro h
    have : 52 ≤ u.log2 := (Nat.le_log2 hu0).2 (by omega)
    omega
  have hl : (e : Int) - 1074 = max (((p : Int) - q - 1074) + mag.log2 - 52) (-1074) := by
    rcases hue with h | rfl
    · have := hu52 h; omega
    · omega
  have hcut : u = Toward.even.cut neg (mag <<< (((p : Int) - q - 1074) - ((e : Int) - 1074)).toNat) (((e : Int) - 1074) - ((p : Int) - q - 1074)).toNat := by
    rw [show (((p : Int) - q - 1074) - ((e : Int) - 1074)).toNat = p - (e + q) by omega, show (((e : Int) - 1074) - ((p : Int) - q - 1074)).toNat = (e + q) - p by omega, Nat.shiftLeft_eq]
    rcases Nat.le_total (e + q) p with hep | hep
    · rw [show (e + q) - p = 0 by omega, cut_exact _ _ _ (by simp)]
      simp only [Nat.pow_zero, Nat.div_one]
      have : mag * 2 ^ (p - (e + q)) * 2 ^ (e + q) = u * 2 ^ (e + q) := by rw [Nat.mul_assoc, ← Nat.pow_add, show p - (e + q) + (e + q) = p by omega, hv]
      exact (Nat.eq_of_mul_eq_mul_right (pow_pos _) this).symm
    · have hmu : mag = u * 2 ^ ((e + q) - p) := by
        have : mag * 2 ^ p = u * 2 ^ ((e + q) - p) * 2 ^ p := by rw [Nat.mul_assoc, ← Nat.pow_add, show (e + q) - p + p = e + q by omega, hv]
        exact Nat.eq_of_mul_eq_mul_right (pow_pos p) this
      rw [show p - (e + q) = 0 by omega, Nat.pow_zero, Nat.mul_one, cut_exact _ _ _ ⟨u, by rw [hmu, Nat.mul_comm]⟩, hmu, Nat.mul_div_cancel _ (pow_pos _)]
  rw [nearest_word neg mag _ e u hm hl hcut (by omega)]
  exact is_word neg e u hu hue (by omega)
theorem nearest_zero (neg : Bool) (place : Int) : D.nearest neg 0 place = D.word neg 0 := by unfold Format.nearest; rw [if_pos rfl]
theorem is_zero (neg : Bool) : Is (D.word neg 0) neg 0 := by
  have := is_word neg 0 0 (by decide) (.inr rfl) (by decide)
  simpa using this
theorem normal_form (a k : Nat) (ha : a < 9007199254740992) (h0 : a ≠ 0) (hk : a.log2 + k ≤ 2097) : ∃ u e, a * 2 ^ k = u * 2 ^ e ∧ u < 9007199254740992 ∧ (4503599627370496 ≤ u ∨ e = 0) ∧ e ≤ 2045 := by
  have hl : a.log2 < 53 := (Nat.log2_lt h0).2 (by omega)
  obtain ⟨h1, h2⟩ := log2_bounds h0
  rcases Nat.le_total k (52 - a.log2) with h | h
  · refine ⟨a * 2 ^ k, 0, by simp, ?_, .inr rfl, by omega⟩
    have : a * 2 ^ k < 2 ^ (a.log2 + 1) * 2 ^ k := Nat.mul_lt_mul_of_pos_right h2 (pow_pos k)
    rw [← Nat.pow_add] at this
    have h3 : 2 ^ (a.log2 + 1 + k) ≤ 2 ^ 53 := Nat.pow_le_pow_right (by omega) (by omega)
    omega
  · refine ⟨a * 2 ^ (52 - a.log2), k - (52 - a.log2), ?_, ?_, .inl ?_, by omega⟩
    · rw [Nat.mul_assoc, ← Nat.pow_add, show 52 - a.log2 + (k - (52 - a.log2)) = k by omega]
    · have : a * 2 ^ (52 - a.log2) < 2 ^ (a.log2 + 1) * 2 ^ (52 - a.log2) := Nat.mul_lt_mul_of_pos_right h2 (pow_pos _)
      rw [← Nat.pow_add, show a.log2 + 1 + (52 - a.log2) = 53 by omega] at this
      exact this
    · have : 2 ^ a.log2 * 2 ^ (52 - a.log2) ≤ a * 2 ^ (52 - a.log2) := Nat.mul_le_mul_right _ h1
      rw [← Nat.pow_add, show a.log2 + (52 - a.log2) = 52 by omega] at this
      exact this
/-- EXACT, of whatever spelling: 'a' short of 54 digits. -/
theorem nearest_ex (neg : Bool) (mag p q a k : Nat) (ha : a < 9007199254740992) (hk : a.log2 + k ≤ 2097) (hv : mag * 2 ^ p = a * 2 ^ k * 2 ^ q) :
    Is (D.nearest neg mag ((p : Int) - q - 1074)) neg (a * 2 ^ k) := by
  by_cases hm : mag = 0
  · subst hm
    have h0 : a = 0 := by
      rw [Nat.zero_mul] at hv
      rcases Nat.eq_zero_or_pos a with h | h
      · exact h
      · have := Nat.mul_pos (Nat.mul_pos h (pow_pos k)) (pow_pos q); omega
    subst h0
    rw [nearest_zero, Nat.zero_mul]; exact is_zero neg
  · have h0 : a ≠ 0 := by
      rintro rfl
      have := Nat.mul_pos (Nat.pos_of_ne_zero hm) (pow_pos p)
      omega
    obtain ⟨u, e, h1, h2, h3, h4⟩ := normal_form a k ha h0 hk
    rw [h1] at hv ⊢
    exact nearest_exact neg mag p q u e hm h2 h3 h4 hv
/-- every finite word's value has few digits -/
theorem val_form (r : Nat) (h : r < 9218868437227405312) : ∃ u e, val r = u * 2 ^ e ∧ u < 9007199254740992 ∧ (4503599627370496 ≤ u ∨ e = 0) ∧ e ≤ 2045 := by
  unfold val
  by_cases h1 : r < 4503599627370496
  · rw [if_pos h1]; exact ⟨r, 0, by simp, by omega, .inr rfl, by omega⟩
  · rw [if_neg h1]; exact ⟨_, _, rfl, by omega, .inl (by omega), by omega⟩
/-- any word of a value is the word of its rung -/
theorem is_fin {b : Nat} {s : Bool} {v : Nat} (h : Is b s v) : rung b < 9218868437227405312 ∧ sgn b = s ∧ val (rung b) = v := by
  by_cases hr : rung b < 9218868437227405312
  · obtain ⟨m, p, h1, h2⟩ := h
    obtain ⟨m', p', h1', h2'⟩ := read_fin b hr
    rw [h1] at h1'
    injection h1' with e1 e2 e3
    subst e2
    have : p = p' := by omega
    subst this
    exact ⟨hr, e1.symm, by rw [← h2', h2]⟩
  · exfalso
    obtain ⟨m, p, h1, _⟩ := h
    unfold Format.read at h1
    rw [bin, infR, sgnW, leastP] at h1
    simp only at h1
    have hr' : ¬ b % 9223372036854775808 < 9218868437227405312 := hr
    rw [if_neg (by omega), if_neg hr'] at h1
    split at h1 <;> cases h1
/-! ### orders -/
theorem val_succ (r : Nat) : val r < val (r + 1) := by
  unfold val
  by_cases h1 : r + 1 < 4503599627370496
  · rw [if_pos (by omega), if_pos h1]; omega
  · rw [if_neg h1]
    by_cases h2 : r < 4503599627370496
    · rw [if_pos h2]
      have e1 : (r + 1) % 4503599627370496 = 0 := by omega
      have e2 : (r + 1) / 4503599627370496 - 1 = 0 := by omega
      rw [e1, e2, Nat.pow_zero]; omega
    · rw [if_neg h2]
      have hp := pow_pos (r / 4503599627370496 - 1)
      by_cases h3 : r % 4503599627370496 + 1 < 4503599627370496
      · have e1 : (r + 1) % 4503599627370496 = r % 4503599627370496 + 1 := by omega
        have e2 : (r + 1) / 4503599627370496 = r / 4503599627370496 := by omega
        rw [e1, e2]
        exact Nat.mul_lt_mul_of_pos_right (by omega) hp
      · have e1 : (r + 1) % 4503599627370496 = 0 := by omega
        have e2 : (r + 1) / 4503599627370496 - 1 = (r / 4503599627370496 - 1) + 1 := by omega
        rw [e1, e2, Nat.pow_succ]
        have : (4503599627370496 + r % 4503599627370496) * 2 ^ (r / 4503599627370496 - 1) < 9007199254740992 * 2 ^ (r / 4503599627370496 - 1) := Nat.mul_lt_mul_of_pos_right (by omega) hp
        omega
theorem val_lt {r r' : Nat} (h : r < r') : val r < val r' := by
  induction r' with
  | zero => omega
  | succ n ih =>
    have := val_succ n
    by_cases h' : r < n
    · have := ih h'; omega
    · have : r = n := by omega
      subst this; exact val_succ r
theorem val_zero : val 0 = 0 := rfl
theorem val_inj {r r' : Nat} (h : val r = val r') : r = r' := by
  rcases Nat.lt_trichotomy r r' with h1 | h1 | h1
  · have := val_lt h1; omega
  · exact h1
  · have := val_lt h1; omega
def sv (s : Bool) (v : Nat) : Int := if s then -(v : Int) else v
def srank (b : Nat) : Int := sv (sgn b) (rung b)
def nan (b : Nat) : Bool := decide (9218868437227405312 < rung b)
theorem cmp_sv (s t : Bool) {r r' : Nat} : compare (sv s (val r)) (sv t (val r')) = compare (sv s r) (sv t r') := by
  have key : ∀ {a b c d : Int}, (a < b ↔ c < d) → (a = b ↔ c = d) → compare a b = compare c d := by
    intro a b c d h1 h2
    simp only [compare, compareOfLessAndEq]
    by_cases h : a < b
    · rw [if_pos h, if_pos (h1.1 h)]
    · rw [if_neg h, if_neg (fun hc => h (h1.2 hc))]
      by_cases h' : a = b
      · rw [if_pos h', if_pos (h2.1 h')]
      · rw [if_neg h', if_neg (fun hc => h' (h2.2 hc))]
  have hz : ∀ x, x = 0 ∨ (0 < x ∧ val 0 < val x) := fun x => by
    rcases Nat.eq_zero_or_pos x with h | h
    · exact .inl h
    · exact .inr ⟨h, val_lt h⟩
  rw [val_zero] at hz
  have hr := hz r
  have hr' := hz r'
  rcases Nat.lt_trichotomy r r' with h1 | h1 | h1
  · have h2 := val_lt h1
    apply key <;> cases s <;> cases t <;> simp only [sv, if_true, if_false, Bool.false_eq_true] <;> (rcases hr with rfl | hr <;> rcases hr' with rfl | hr' <;> (try rw [val_zero] at *) <;> omega)
  · subst h1
    apply key <;> cases s <;> cases t <;> simp only [sv, if_true, if_false, Bool.false_eq_true] <;> (rcases hr with rfl | hr <;> (try rw [val_zero] at *) <;> omega)
  · have h2 := val_lt h1
    apply key <;> cases s <;> cases t <;> simp only [sv, if_true, if_false, Bool.false_eq_true] <;> (rcases hr with rfl | hr <;> rcases hr' with rfl | hr' <;> (try rw [val_zero] at *) <;> omega)
theorem signed_eq (s : Bool) (m k : Nat) : signed s m k = sv s (m * 2 ^ k) := by
  unfold signed sv; rw [Nat.shiftLeft_eq]
theorem cmp_scale (s t : Bool) (a b k : Nat) : compare (sv s (a * 2 ^ k)) (sv t (b * 2 ^ k)) = compare (sv s a) (sv t b) := by
  have hp := pow_pos k
  have h0 : ∀ (x : Int), 0 < (2 ^ k : Nat) → True := fun _ _ => trivial
  have e : ∀ s v, sv s (v * 2 ^ k) = sv s v * ((2 ^ k : Nat) : Int) := by
    intro s v; unfold sv; cases s <;> simp [Int.neg_mul]
  rw [e, e]
  have hq : (0 : Int) < ((2 ^ k : Nat) : Int) := by omega
  simp only [compare, compareOfLessAndEq]
  by_cases h : sv s a < sv t b
  · rw [if_pos h, if_pos (Int.mul_lt_mul_of_pos_right h hq)]
  · rw [if_neg h, if_neg (fun hc => h (Int.lt_of_mul_lt_mul_right hc (by omega)))]
    by_cases h' : sv s a = sv t b
    · rw [if_pos h', if_pos (by rw [h'])]
    · rw [if_neg h', if_neg (fun hc => h' (Int.eq_of_mul_eq_mul_right (by omega) hc))]
theorem order_is {b c : Nat} {s t : Bool} {v u : Nat} (hb : Is b s v) (hc : Is c t u) : D.order b c = some (compare (sv s v) (sv t u)) := by
  obtain ⟨m, p, h1, h2⟩ := hb
  obtain ⟨n, q, h3, h4⟩ := hc
  unfold Format.order
  rw [h1, h3]
  show some _ = some _
  congr 1
  rw [signed_eq, signed_eq, ← h2, ← h4]
  rcases Nat.le_total p q with h | h
  · have hm : min ((p : Int) - 1074) ((q : Int) - 1074) = (p : Int) - 1074 := by omega
    rw [hm, show ((p : Int) - 1074 - ((p : Int) - 1074)).toNat = 0 by omega, show ((q : Int) - 1074 - ((p : Int) - 1074)).toNat = q - p by omega]
    rw [← cmp_scale s t _ _ p, Nat.mul_assoc n, ← Nat.pow_add, show q - p + p = q by omega, Nat.pow_zero, Nat.mul_one]
  · have hm : min ((p : Int) - 1074) ((q : Int) - 1074) = (q : Int) - 1074 := by omega
    rw [hm, show ((p : Int) - 1074 - ((q : Int) - 1074)).toNat = p - q by omega, show ((q : Int) - 1074 - ((q : Int) - 1074)).toNat = 0 by omega]
    rw [← cmp_scale s t _ _ q, Nat.mul_assoc m, ← Nat.pow_add, show p - q + q = p by omega, Nat.pow_zero, Nat.mul_one]
theorem read_inf (b : Nat) (h : rung b = 9218868437227405312) : D.read b = .infinity (sgn b) := by
  unfold Format.read
  rw [bin, infR, sgnW, leastP]
  have h' : b % 9223372036854775808 = 9218868437227405312 := h
  simp only
  rw [h', if_neg (by decide), if_neg (by decide), if_pos rfl]; rfl
theorem read_nan (b : Nat) (h : nan b = true) : ∃ s t, D.read b = .nan s t := by
  unfold nan at h
  have h' := of_decide_eq_true h
  have h2 : 9218868437227405312 < b % 9223372036854775808 := h'
  unfold Format.read
  rw [bin, infR, sgnW, leastP]
  simp only
  rw [if_neg (by omega), if_neg (by omega), if_neg (by omega)]
  exact ⟨_, _, rfl⟩
theorem rung_lt (b : Nat) : rung b < 9223372036854775808 := Nat.mod_lt _ (by decide)
/-- THE ORDER OF ANY TWO. -/
theorem order_any (b c : Nat) : D.order b c = if nan b || nan c then none else some (compare (srank b) (srank c)) := by
  cases hb : nan b
  · cases hc : nan c
    · simp only [Bool.or_self, Bool.false_eq_true, if_false]
      have hb' : ¬ 9218868437227405312 < rung b := of_decide_eq_false hb
      have hc' : ¬ 9218868437227405312 < rung c := of_decide_eq_false hc
      have hlt : ∀ (a d : Int), a < d → compare a d = .lt := fun a d h => by simp [compare, compareOfLessAndEq, h]
      have hgt : ∀ (a d : Int), d < a → compare a d = .gt := fun a d h => by
        have h1 : ¬ a < d := by omega
        have h2 : ¬ a = d := by omega
        simp [compare, compareOfLessAndEq, h1, h2]
      by_cases fb : rung b < 9218868437227405312
      · by_cases fc : rung c < 9218868437227405312
        · rw [order_is (read_fin b fb) (read_fin c fc), cmp_sv]; rfl
        · have ec : rung c = 9218868437227405312 := by omega
          obtain ⟨m, p, h1, _⟩ := read_fin b fb
          unfold Format.order
          rw [read_inf c ec, h1]
          show some _ = some _
          congr 1
          unfold srank
          rw [ec]
          cases sgn c
          · rw [if_neg (by decide), hlt]
            cases sgn b <;> simp only [sv, if_true, if_false, Bool.false_eq_true] <;> omega
          · rw [if_pos rfl, hgt]
            cases sgn b <;> simp only [sv, if_true, if_false, Bool.false_eq_true] <;> omega
      · have eb : rung b = 9218868437227405312 := by omega
        by_cases fc : rung c < 9218868437227405312
        · obtain ⟨m, p, h1, _⟩ := read_fin c fc
          unfold Format.order
          rw [read_inf b eb, h1]
          show some _ = some _
          congr 1
          unfold srank
          rw [eb]
          cases sgn b
          · rw [if_neg (by decide), hgt]
            cases sgn c <;> simp only [sv, if_true, if_false, Bool.false_eq_true] <;> omega
          · rw [if_pos rfl, hlt]
            cases sgn c <;> simp only [sv, if_true, if_false, Bool.false_eq_true] <;> omega
        · have ec : rung c = 9218868437227405312 := by omega
          unfold Format.order
          rw [read_inf b eb, read_inf c ec]
          show some _ = some _
          congr 1
          unfold srank
          rw [eb, ec]
          cases sgn b <;> cases sgn c <;> decide
    · obtain ⟨s, t, h⟩ := read_nan c hc
      unfold Format.order
      rw [h]
      simp only [Bool.or_true, if_true]
      cases D.read b <;> rfl
  · obtain ⟨s, t, h⟩ := read_nan b hb
    unfold Format.order
    rw [h]
    simp only [Bool.true_or, if_true]
    cases D.read c <;> rfl
/-! ### what weights need: whole numbers, sixteenths, ceilings -/
/-- a whole number -/
theorem is_nat (n : Nat) (h : n ≤ 4294967296) : Is (D.nearest false n 0) false (n * 2 ^ 1074) := by
  have hl : n.log2 + 1074 ≤ 2097 := by
    by_cases h0 : n = 0
    · subst h0; decide
    · have : n.log2 < 33 := (Nat.log2_lt h0).2 (by omega)
      omega
  have := nearest_ex false n 1074 0 n 1074 (by omega) hl (by rw [Nat.pow_zero, Nat.mul_one])
  rw [show (((1074 : Nat) : Int) - ((0 : Nat) : Int) - 1074) = 0 by omega] at this
  exact this
/-- times sixteen -/
theorem mul16 {b : Nat} {s : Bool} {v : Nat} (hb : Is b s v) (h : rung b ≤ 4625196817309499392) : ∃ c, D.mul b 4625196817309499392 = some c ∧ Is c s (16 * v) := by
  obtain ⟨hf, _, hv⟩ := is_fin hb
  obtain ⟨m, p, h1, h2⟩ := hb
  have h16 : D.read 4625196817309499392 = .number false 4503599627370496 (-48) := by decide
  refine ⟨D.nearest s (m * 4503599627370496) (((p + 4 : Nat) : Int) - 52 - 1074), ?_, ?_⟩
  · unfold Format.mul
    rw [h1, h16]
    show some _ = some _
    congr 1
    show D.nearest (s ^^ false) (m * 4503599627370496) _ = _
    rw [Bool.xor_false]
    congr 1
    omega
  · obtain ⟨u, e, hu1, hu2, hu3, hu4⟩ := val_form (rung b) hf
    rw [hv] at hu1
    have hul : u.log2 ≤ 52 := by
      by_cases h0 : u = 0
      · subst h0; decide
      · have : u.log2 < 53 := (Nat.log2_lt h0).2 (by omega)
        omega
    have he : e ≤ 1027 := by
      have hle : val (rung b) ≤ val 4625196817309499392 := by
        rcases Nat.eq_or_lt_of_le h with h | h
        · rw [h]; exact Nat.le_refl _
        · exact Nat.le_of_lt (val_lt h)
      rw [hv, hu1] at hle
      rcases hu3 with hu3 | rfl
      · have e2 : val 4625196817309499392 = 4503599627370496 * 2 ^ 1026 := by
          unfold val
          rw [if_neg (by decide), show 4625196817309499392 % 4503599627370496 = 0 by decide, show 4625196817309499392 / 4503599627370496 - 1 = 1026 by decide, Nat.add_zero]
        rw [e2] at hle
        have : 4503599627370496 * 2 ^ e ≤ 4503599627370496 * 2 ^ 1026 := Nat.le_trans (Nat.mul_le_mul_right _ hu3) hle
        have h3 := Nat.le_of_mul_le_mul_left this (by decide)
        have := (Nat.pow_le_pow_iff_right (a := 2) (by decide)).1 h3
        omega
      · omega
    have key := nearest_ex s (m * 4503599627370496) (p + 4) 52 u (e + 4) hu2 (by omega) (by
      rw [Nat.pow_add, show m * 4503599627370496 * (2 ^ p * 2 ^ 4) = (m * 2 ^ p) * (4503599627370496 * 2 ^ 4) by
        rw [Nat.mul_assoc, Nat.mul_assoc]; congr 1; rw [Nat.mul_left_comm], h2, hu1, Nat.pow_add, Nat.mul_assoc, Nat.mul_assoc, Nat.mul_assoc])
    have e3 : u * 2 ^ (e + 4) = 16 * v := by rw [hu1, Nat.pow_add, ← Nat.mul_assoc]; omega
    rw [e3] at key
    exact key
/-- The unit of points: a sixteenth. -/
def U : Nat := 2 ^ 1070
theorem U_pos : 0 < U := by unfold U; exact pow_pos 1070
theorem two_pow4 (a b : Nat) (h : a = 4 + b) : 2 ^ a = 16 * 2 ^ b := by rw [h, Nat.pow_add]
theorem U16 : 2 ^ 1074 = 16 * U := by unfold U; exact two_pow4 1074 1070 (by decide)
theorem split_pow (K p : Nat) (h : p ≤ K) : 2 ^ K = 2 ^ (K - p) * 2 ^ p := by rw [← Nat.pow_add, Nat.sub_add_cancel h]
/-- how many points a value has -/
def pts (v : Nat) : Nat := (v + (U - 1)) / U
theorem pts_spec (v n : Nat) : pts v ≤ n ↔ v ≤ n * U := by
  have := U_pos
  unfold pts
  rw [Nat.div_le_iff_le_mul (by omega)]
  omega
theorem cut_up (n drop : Nat) : Toward.up.cut false n drop = (n + (2 ^ drop - 1)) / 2 ^ drop := by
  unfold Toward.cut
  simp only [Bool.not_false, Bool.true_and]
  by_cases hd : drop ≤ n.log2 + 2
  · rw [Nat.min_eq_left hd, Nat.one_shiftLeft]
    have hp := pow_pos drop
    generalize 2 ^ drop = d at *
    by_cases hr : n % d = 0
    · have e : n = d * (n / d) := by have := Nat.div_add_mod n d; omega
      rw [hr]
      simp only [bne_self_eq_false, Bool.toNat_false, Nat.add_zero]
      symm
      rw [Nat.div_eq_iff hp]
      constructor
      · rw [Nat.mul_comm]; omega
      · rw [Nat.mul_comm]; omega
    · have e := Nat.div_add_mod n d
      have hlt := Nat.mod_lt n hp
      have : (n % d != 0) = true := by rw [bne_iff_ne]; exact hr
      rw [this]
      simp only [Bool.toNat_true]
      symm
      rw [Nat.div_eq_iff hp]
      rw [Nat.add_mul, Nat.mul_comm (n / d)]
      constructor <;> omega
  · rw [Nat.min_eq_right (by omega), Nat.one_shiftLeft]
    have h1 : n < 2 ^ (n.log2 + 1) := Nat.lt_log2_self
    have h2 : 2 ^ (n.log2 + 1) ≤ 2 ^ (n.log2 + 2) := Nat.pow_le_pow_right (by omega) (by omega)
    have h3 : 2 ^ (n.log2 + 2) ≤ 2 ^ drop := Nat.pow_le_pow_right (by omega) (by omega)
    rw [Nat.div_eq_of_lt (by omega), Nat.mod_eq_of_lt (by omega)]
    by_cases h0 : n = 0
    · subst h0
      rw [Nat.div_eq_of_lt (by omega)]; rfl
    · have : (n != 0) = true := by rw [bne_iff_ne]; exact h0
      rw [this]
      symm
      rw [Nat.div_eq_iff (pow_pos _)]
      simp only [Bool.toNat_true]
      omega
/-- the ceiling of a value, as a word -/
theorem ceil_pos {b v : Nat} (hb : Is b false v) (h : v ≤ 4294967296 * 2 ^ 1074) : ∃ c, (D.read b).integral .up = .number false c 0 ∧ c = (v + (2 ^ 1074 - 1)) / 2 ^ 1074 ∧ c ≤ 4294967296 := by
  obtain ⟨m, p, h1, h2⟩ := hb
  have hc : (v + (2 ^ 1074 - 1)) / 2 ^ 1074 ≤ 4294967296 := by
    have := pow_pos 1074
    rw [Nat.div_le_iff_le_mul this]
    omega
  refine ⟨_, ?_, rfl, hc⟩
  rw [h1]
  show Datum.number false (Toward.up.cut false _ _) 0 = _
  congr 1
  rw [cut_up, ← h2]
  rcases Nat.le_total 1074 p with hp | hp
  · rw [show ((p : Int) - 1074).toNat = p - 1074 by omega, show (-((p : Int) - 1074)).toNat = 0 by omega, Nat.shiftLeft_eq]
    simp only [Nat.pow_zero, Nat.div_one, Nat.sub_self, Nat.add_zero]
    symm
    rw [split_pow p 1074 hp, ← Nat.mul_assoc]
    have := pow_pos 1074
    rw [Nat.div_eq_iff this]
    omega
  · rw [show ((p : Int) - 1074).toNat = 0 by omega, show (-((p : Int) - 1074)).toNat = 1074 - p by omega, Nat.shiftLeft_eq, Nat.pow_zero, Nat.mul_one]
    have hP := pow_pos p
    have hQ := pow_pos (1074 - p)
    rw [split_pow 1074 p hp]
    generalize 2 ^ p = P at *
    generalize 2 ^ (1074 - p) = Q at *
    symm
    rw [Nat.div_eq_iff (Nat.mul_pos hQ hP)]
    have key := Nat.div_add_mod (m + (Q - 1)) Q
    have hlt := Nat.mod_lt (m + (Q - 1)) hQ
    generalize (m + (Q - 1)) / Q = c at *
    have e1 : c * (Q * P) = (Q * c) * P := by rw [← Nat.mul_assoc, Nat.mul_comm c Q]
    rw [e1]
    have a1 : Q * c ≤ m + (Q - 1) := by omega
    have a2 : m ≤ Q * c := by omega
    have b1 : (Q * c) * P ≤ (m + (Q - 1)) * P := Nat.mul_le_mul_right _ a1
    have b2 : m * P ≤ (Q * c) * P := Nat.mul_le_mul_right _ a2
    rw [Nat.add_mul, Nat.sub_mul, Nat.one_mul] at b1
    have : P ≤ Q * P := Nat.le_mul_of_pos_left _ hQ
    omega
theorem ceil_zero {b : Nat} (s : Bool) (hb : Is b s 0) : (D.read b).integral .up = .number s 0 0 := by
  obtain ⟨m, p, h1, h2⟩ := hb
  have : m = 0 := by
    rcases Nat.eq_zero_or_pos m with h | h
    · exact h
    · have := Nat.mul_pos h (pow_pos p); omega
  subst this
  rw [h1]
  show Datum.number s (Toward.up.cut s _ _) 0 = _
  congr 1
  unfold Toward.cut
  simp
theorem toInt_is {b : Nat} {s : Bool} {c : Nat} (hb : Is b s (c * 2 ^ 1074)) : (D.read b).toInt .zero = some (sv s c) := by
  obtain ⟨m, p, h1, h2⟩ := hb
  unfold Datum.toInt
  rw [h1]
  show some (signed s (Toward.zero.cut s _ _) 0) = _
  rw [signed_eq, Nat.pow_zero, Nat.mul_one]
  congr 2
  have key : ∀ n drop, Toward.zero.cut s n drop = n / 2 ^ drop := by
    intro n drop
    unfold Toward.cut
    simp only [Bool.toNat_false, Nat.add_zero]
    rw [Nat.one_shiftLeft]
    by_cases hd : drop ≤ n.log2 + 2
    · rw [Nat.min_eq_left hd]
    · rw [Nat.min_eq_right (by omega)]
      have h1 : n < 2 ^ (n.log2 + 1) := Nat.lt_log2_self
      have h2 : 2 ^ (n.log2 + 1) ≤ 2 ^ (n.log2 + 2) := Nat.pow_le_pow_right (by omega) (by omega)
      have h3 : 2 ^ (n.log2 + 2) ≤ 2 ^ drop := Nat.pow_le_pow_right (by omega) (by omega)
      rw [Nat.div_eq_of_lt (by omega), Nat.div_eq_of_lt (by omega)]
  rw [key]
  rcases Nat.le_total 1074 p with hp | hp
  · rw [show ((p : Int) - 1074).toNat = p - 1074 by omega, show (-((p : Int) - 1074)).toNat = 0 by omega, Nat.shiftLeft_eq, Nat.pow_zero, Nat.div_one]
    have : m * 2 ^ (p - 1074) * 2 ^ 1074 = c * 2 ^ 1074 := by rw [Nat.mul_assoc, ← split_pow p 1074 hp, h2]
    exact Nat.eq_of_mul_eq_mul_right (pow_pos _) this
  · rw [show ((p : Int) - 1074).toNat = 0 by omega, show (-((p : Int) - 1074)).toNat = 1074 - p by omega, Nat.shiftLeft_eq, Nat.pow_zero, Nat.mul_one]
    have : m * 2 ^ p = (c * 2 ^ (1074 - p)) * 2 ^ p := by rw [h2, Nat.mul_assoc, ← split_pow 1074 p hp]
    have := Nat.eq_of_mul_eq_mul_right (pow_pos _) this
    rw [this, Nat.mul_div_cancel _ (pow_pos _)]
end FM
