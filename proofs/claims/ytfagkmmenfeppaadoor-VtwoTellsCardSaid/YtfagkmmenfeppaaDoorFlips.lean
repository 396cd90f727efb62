import Derived.Test.YtfagkmmenfeppaaDoorCrcMath
/- What flipping single bits of a text does to its register. -/
namespace Crc
set_option maxRecDepth 100000
def bitAt (j : Nat) : UInt8 := 1 <<< (UInt8.ofNat j)
def flip (l : List UInt8) (p : Nat) : List UInt8 := l.set (p / 8) ((l.getD (p / 8) 0) ^^^ bitAt (p % 8))
theorem flip_length (l : List UInt8) (p : Nat) : (flip l p).length = l.length := by simp [flip]
theorem over_xor (l : List UInt8) (x d : BitVec 32) : over (x ^^^ d) l = over x l ^^^ sn (8 * l.length) d := by
  induction l generalizing x d with
  | nil => simp [over, sn]
  | cons b l ih =>
    show over (byte (x ^^^ d) b) l = over (byte x b) l ^^^ _
    have : byte (x ^^^ d) b = byte x b ^^^ sn 8 d := by
      unfold byte
      rw [BitVec.xor_assoc, BitVec.xor_comm d, ← BitVec.xor_assoc, sn_xor]
    rw [this, ih, ← sn_add]
    congr 2
    simp; omega
theorem bit_sn (j : Nat) (h : j < 8) : sn 8 ((bitAt j).toBitVec.setWidth 32) = sn (8 - j) 1#32 := by
  have : ∀ j : Fin 8, sn 8 ((bitAt j.val).toBitVec.setWidth 32) = sn (8 - j.val) 1#32 := by decide +kernel
  exact this ⟨j, h⟩
theorem byte_flip (x : BitVec 32) (b : UInt8) (j : Nat) (h : j < 8) : byte x (b ^^^ bitAt j) = byte x b ^^^ sn (8 - j) 1#32 := by
  unfold byte
  rw [← bit_sn j h, ← sn_xor, BitVec.xor_assoc]
  congr 2
theorem flip_over (l : List UInt8) (p : Nat) (x : BitVec 32) (h : p < 8 * l.length) : over x (flip l p) = over x l ^^^ sn (8 * l.length - p) 1#32 := by
  have hk : p / 8 < l.length := by omega
  have e : l = l.take (p / 8) ++ l[p / 8] :: l.drop (p / 8 + 1) := by simp
  have e2 : flip l p = l.take (p / 8) ++ (l[p / 8] ^^^ bitAt (p % 8)) :: l.drop (p / 8 + 1) := by
    unfold flip
    rw [List.getD_eq_getElem?_getD, List.getElem?_eq_getElem hk, Option.getD_some, List.set_eq_take_append_cons_drop, if_pos hk]
  rw [e2]
  conv => rhs; rw [e]
  rw [over_append, over_append]
  show over (byte _ _) _ = over (byte _ _) _ ^^^ _
  rw [byte_flip _ _ _ (by omega), over_xor, ← sn_add]
  congr 2
  simp; omega
theorem sn_one_ne (a b : Nat) (h : a < b) (hd : b - a < 4096) : sn a 1#32 ≠ sn b 1#32 := by
  intro he
  have h1 : sn a (1#32 ^^^ sn (b - a) 1#32) = 0#32 := by
    rw [sn_xor, he, ← sn_add, show b - a + a = b by omega]; simp
  have h2 := sn_inj0 _ _ h1
  have h3 : sn (b - a) 1#32 = 1#32 := by
    have := congrArg (fun v => v ^^^ sn (b - a) 1#32) h2
    simp only [BitVec.xor_assoc, BitVec.xor_self, BitVec.xor_zero, BitVec.zero_xor] at this
    exact this.symm
  obtain ⟨d, hd'⟩ : ∃ d, b - a = d + 1 := ⟨b - a - 1, by omega⟩
  rw [hd'] at h3
  exact orderOk_sn 4096 _ order d (by omega) h3
theorem par_one : par 32 1#32 = true := by decide
theorem odd_ne (x : BitVec 32) (h : par 32 x = true) : x ≠ 0#32 := by
  rintro rfl
  have : par 32 (0#32) = false := by decide
  rw [this] at h; cases h
theorem xor_ne {x d : BitVec 32} (h : d ≠ 0#32) : x ^^^ d ≠ x := by
  intro he
  apply h
  have := congrArg (fun v => x ^^^ v) he
  simpa [← BitVec.xor_assoc] using this
theorem sum_ne {l m : List UInt8} {d : BitVec 32} (he : ∀ x, over x m = over x l ^^^ d) (h : d ≠ 0#32) : sum m ≠ sum l := by
  unfold sum upd
  rw [he]
  intro hc
  have := congrArg (fun v => ~~~ v) hc
  simp only [BitVec.not_not] at this
  exact xor_ne h this
/-- one, two or three bits -/
theorem flips1 (l : List UInt8) (a : Nat) (ha : a < 8 * l.length) : sum (flip l a) ≠ sum l :=
  sum_ne (fun x => flip_over l a x ha) (odd_ne _ (by rw [par_sn, par_one]))
theorem flips2 (l : List UInt8) (a b : Nat) (ha : a < 8 * l.length) (hb : b < 8 * l.length) (hn : 8 * l.length < 4096) (hab : b ≠ a) : sum (flip (flip l a) b) ≠ sum l := by
  refine sum_ne (d := sn (8 * l.length - a) 1#32 ^^^ sn (8 * l.length - b) 1#32) (fun x => ?_) ?_
  · rw [flip_over _ b x (by rw [flip_length]; exact hb), flip_over l a x ha, flip_length, BitVec.xor_assoc]
  · intro h
    have h' : sn (8 * l.length - a) 1#32 = sn (8 * l.length - b) 1#32 := by
      have := congrArg (fun v => v ^^^ sn (8 * l.length - b) 1#32) h
      simpa [BitVec.xor_assoc] using this
    rcases Nat.lt_or_gt_of_ne hab with hlt | hlt
    · exact sn_one_ne _ _ (by omega) (by omega) h'
    · exact sn_one_ne _ _ (by omega) (by omega) h'.symm
theorem flips3 (l : List UInt8) (a b c : Nat) (ha : a < 8 * l.length) (hb : b < 8 * l.length) (hc : c < 8 * l.length) : sum (flip (flip (flip l a) b) c) ≠ sum l := by
  refine sum_ne (d := sn (8 * l.length - a) 1#32 ^^^ sn (8 * l.length - b) 1#32 ^^^ sn (8 * l.length - c) 1#32) (fun x => ?_) (odd_ne _ ?_)
  · rw [flip_over _ c x (by rw [flip_length, flip_length]; exact hc), flip_over _ b x (by rw [flip_length]; exact hb), flip_over l a x ha, flip_length, flip_length, flip_length, BitVec.xor_assoc, BitVec.xor_assoc, BitVec.xor_assoc]
  · rw [par_xor, par_xor, par_sn, par_sn, par_sn, par_one]; rfl
/-- bursts: the low k bits of a number -/
def lo (k : Nat) (by_ : BitVec 32) : BitVec 32 := by_ &&& BitVec.ofNat 32 (2 ^ k - 1)
theorem lo_bit (k i : Nat) (v : BitVec 32) : (lo k v).getLsbD i = (v.getLsbD i && decide (i < k)) := by
  unfold lo
  rw [BitVec.getLsbD_and, BitVec.getLsbD_ofNat, Nat.testBit_two_pow_sub_one]
  by_cases h : i < 32
  · simp [h]
  · rw [BitVec.getLsbD_of_ge _ _ (by omega)]; rfl
theorem lo_zero (v : BitVec 32) : lo 0 v = 0#32 := by simp [lo]
theorem lo_all (v : BitVec 32) : lo 32 v = v := by
  apply BitVec.eq_of_getLsbD_eq; intro i hi; rw [lo_bit]; simp [hi]
theorem lo_succ (k : Nat) (v : BitVec 32) (h : k < 32) : lo (k + 1) v = lo k v ^^^ (if v.getLsbD k then 1#32 <<< k else 0#32) := by
  apply BitVec.eq_of_getLsbD_eq
  intro i hi
  rw [BitVec.getLsbD_xor, lo_bit, lo_bit]
  cases hv : v.getLsbD k
  · by_cases hik : i = k
    · subst hik; simp [hv]
    · have : (i < k + 1) = (i < k) := by apply propext; omega
      simp [this]
  · by_cases hik : i = k
    · subst hik; simp [hv, hi]
    · have h1 : (i < k + 1) = (i < k) := by apply propext; omega
      have h2 : (1#32 <<< k).getLsbD i = false := by
        rw [BitVec.getLsbD_shiftLeft, BitVec.getLsbD_one]
        by_cases hlt : i < k
        · simp [hlt]
        · have : ¬ (i - k = 0) := by omega
          simp [this]
      simp [h1, h2]
theorem sn_bit (n k : Nat) (h : k ≤ n) (hk : k < 32) : sn n (1#32 <<< k) = sn (n - k) 1#32 := by
  obtain ⟨m, rfl⟩ : ∃ m, n = k + m := ⟨n - k, by omega⟩
  rw [sn_add, show k + m - k = m by omega]
  congr 1
  rw [sn_shift]
  · apply BitVec.eq_of_getLsbD_eq
    intro i hi
    rw [BitVec.getLsbD_ushiftRight, BitVec.getLsbD_shiftLeft, BitVec.getLsbD_one, BitVec.getLsbD_one]
    by_cases h0 : i = 0
    · subst h0; simp [hk]
    · have : ¬ (k + i - k = 0) := by omega
      simp [h0]
  · intro i hi
    rw [BitVec.getLsbD_shiftLeft]; simp [hi]
/-- what a burst does, up to its k-th bit -/
def Burst (s l : List UInt8) (at_ k : Nat) (v : BitVec 32) : Prop :=
  l.length = s.length ∧ (∀ i, i < k → v.getLsbD i = true → at_ + i < 8 * s.length) ∧ ∀ x, over x l = over x s ^^^ sn (8 * s.length - at_) (lo k v)
theorem burst_start (s : List UInt8) (at_ : Nat) (v : BitVec 32) : Burst s s at_ 0 v :=
  ⟨rfl, fun i h => by omega, fun x => by rw [lo_zero, sn_zero, BitVec.xor_zero]⟩
theorem burst_skip {s l : List UInt8} {at_ k : Nat} {v : BitVec 32} (h : Burst s l at_ k v) (hk : k < 32) (hb : v.getLsbD k = false) : Burst s l at_ (k + 1) v := by
  refine ⟨h.1, fun i hi hv => ?_, fun x => ?_⟩
  · by_cases hik : i = k
    · subst hik; rw [hb] at hv; cases hv
    · exact h.2.1 i (by omega) hv
  · rw [lo_succ k v hk, hb, h.2.2 x]; simp
theorem burst_flip {s l : List UInt8} {at_ k : Nat} {v : BitVec 32} (h : Burst s l at_ k v) (hk : k < 32) (hb : v.getLsbD k = true) (hin : at_ + k < 8 * s.length) : Burst s (flip l (at_ + k)) at_ (k + 1) v := by
  refine ⟨by rw [flip_length]; exact h.1, fun i hi hv => ?_, fun x => ?_⟩
  · by_cases hik : i = k
    · subst hik; exact hin
    · exact h.2.1 i (by omega) hv
  · rw [flip_over l _ x (by rw [h.1]; exact hin), h.2.2 x, h.1, lo_succ k v hk, hb, if_pos rfl, sn_xor, sn_bit _ _ (by omega) hk, BitVec.xor_assoc]
    congr 3
    omega
theorem burst_end {s l : List UInt8} {at_ : Nat} {v : BitVec 32} (h : Burst s l at_ 32 v) (hv : v ≠ 0#32) : sum l ≠ sum s :=
  sum_ne h.2.2 (by rw [lo_all]; intro hc; exact hv (sn_inj0 _ _ hc))
end Crc
