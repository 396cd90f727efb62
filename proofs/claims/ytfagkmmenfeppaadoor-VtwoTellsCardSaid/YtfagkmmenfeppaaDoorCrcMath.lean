/- CRC-32C in plain Lean: the register's step, its laws. -/
namespace Crc
set_option maxRecDepth 100000
def poly : BitVec 32 := 0x82f63b78#32
def st (x : BitVec 32) : BitVec 32 := (x >>> 1) ^^^ (if x.getLsbD 0 then poly else 0#32)
def sn : Nat → BitVec 32 → BitVec 32
  | 0, x => x
  | n + 1, x => sn n (st x)
theorem sn_add (m n : Nat) (x : BitVec 32) : sn (m + n) x = sn n (sn m x) := by
  induction m generalizing x with
  | zero => simp [sn]
  | succ m ih => rw [Nat.succ_add]; simp only [sn]; exact ih _
theorem sn_succ' (n : Nat) (x : BitVec 32) : sn (n + 1) x = st (sn n x) := by rw [sn_add]; rfl
theorem xor4 (a b c d : BitVec 32) : (a ^^^ b) ^^^ (c ^^^ d) = (a ^^^ c) ^^^ (b ^^^ d) := by
  rw [BitVec.xor_assoc, BitVec.xor_assoc, ← BitVec.xor_assoc b, BitVec.xor_comm b c, BitVec.xor_assoc c]
theorem st_xor (x y : BitVec 32) : st (x ^^^ y) = st x ^^^ st y := by
  unfold st
  rw [BitVec.ushiftRight_xor_distrib, BitVec.getLsbD_xor, xor4]
  congr 1
  cases x.getLsbD 0 <;> cases y.getLsbD 0 <;> simp
theorem sn_xor (n : Nat) (x y : BitVec 32) : sn n (x ^^^ y) = sn n x ^^^ sn n y := by
  induction n generalizing x y with
  | zero => rfl
  | succ n ih => simp only [sn]; rw [st_xor, ih]
theorem st_zero : st 0#32 = 0#32 := by decide
theorem sn_zero (n : Nat) : sn n 0#32 = 0#32 := by
  induction n with
  | zero => rfl
  | succ n ih => simp only [sn]; rw [st_zero, ih]
theorem st_inj0 (x : BitVec 32) (h : st x = 0#32) : x = 0#32 := by
  unfold st at h
  have h31 : (x.getLsbD 0) = false := by
    have := congrArg (fun v : BitVec 32 => v.getLsbD 31) h
    simp only [BitVec.getLsbD_xor, BitVec.getLsbD_ushiftRight] at this
    cases hx : x.getLsbD 0
    · rfl
    · rw [hx] at this
      rw [BitVec.getLsbD_of_ge _ _ (by omega)] at this
      simp [poly] at this
  rw [h31] at h
  apply BitVec.eq_of_getLsbD_eq
  intro i hi
  rw [BitVec.getLsbD_zero]
  rcases Nat.eq_zero_or_pos i with rfl | hp
  · exact h31
  · have := congrArg (fun v : BitVec 32 => v.getLsbD (i - 1)) h
    simp only [BitVec.getLsbD_xor, BitVec.getLsbD_ushiftRight] at this
    rw [show 1 + (i - 1) = i by omega] at this
    simpa using this
theorem sn_inj0 (n : Nat) (x : BitVec 32) (h : sn n x = 0#32) : x = 0#32 := by
  induction n generalizing x with
  | zero => exact h
  | succ n ih => exact st_inj0 _ (ih _ h)
/-- shifting where no low bit falls out -/
theorem st_shift (x : BitVec 32) (h : x.getLsbD 0 = false) : st x = x >>> 1 := by unfold st; rw [h]; simp
theorem sn_shift (n : Nat) (x : BitVec 32) (h : ∀ i, i < n → x.getLsbD i = false) : sn n x = x >>> n := by
  induction n generalizing x with
  | zero => simp [sn]
  | succ n ih =>
    simp only [sn]
    rw [st_shift _ (h 0 (by omega)), ih]
    · apply BitVec.eq_of_getLsbD_eq
      intro i hi
      simp only [BitVec.getLsbD_ushiftRight]
      congr 1; omega
    · intro i hi; rw [BitVec.getLsbD_ushiftRight]; exact h _ (by omega)
def byte (x : BitVec 32) (b : UInt8) : BitVec 32 := sn 8 (x ^^^ (b.toBitVec.setWidth 32))
def over (x : BitVec 32) (l : List UInt8) : BitVec 32 := l.foldl byte x
theorem over_append (x : BitVec 32) (l m : List UInt8) : over x (l ++ m) = over (over x l) m := by simp [over, List.foldl_append]
def upd (s : BitVec 32) (l : List UInt8) : BitVec 32 := ~~~ over (~~~ s) l
def sum (l : List UInt8) : BitVec 32 := upd 0#32 l
theorem upd_append (s : BitVec 32) (l m : List UInt8) : upd s (l ++ m) = upd (upd s l) m := by simp [upd, over_append]
theorem sum_append (l m : List UInt8) : sum (l ++ m) = upd (sum l) m := by simp [sum, upd_append]
theorem upd_nil (s : BitVec 32) : upd s [] = s := by simp [upd, over]
/-- the table -/
def tab (k : Nat) : BitVec 32 := sn 4 (BitVec.ofNat 32 k)
theorem nib (x : BitVec 32) : (x >>> 4) ^^^ tab (x &&& 15#32).toNat = sn 4 x := by
  have e : x = (x &&& ~~~ 15#32) ^^^ (x &&& 15#32) := by
    apply BitVec.eq_of_getLsbD_eq
    intro i hi
    simp only [BitVec.getLsbD_xor, BitVec.getLsbD_and, BitVec.getLsbD_not, hi, decide_true, Bool.true_and]
    cases x.getLsbD i <;> cases (15#32).getLsbD i <;> rfl
  have e1 : sn 4 (x &&& ~~~ 15#32) = x >>> 4 := by
    rw [sn_shift]
    · apply BitVec.eq_of_getLsbD_eq
      intro i hi
      simp only [BitVec.getLsbD_ushiftRight, BitVec.getLsbD_and, BitVec.getLsbD_not]
      by_cases h : 4 + i < 32
      · have : (15#32).getLsbD (4 + i) = false := by
          have : 4 + i ≥ 4 := by omega
          rw [show (15#32 : BitVec 32) = BitVec.ofNat 32 (2 ^ 4 - 1) by rfl, BitVec.getLsbD_ofNat, Nat.testBit_two_pow_sub_one]
          simp
        rw [this]; simp only [h, decide_true, Bool.not_false, Bool.and_true]
      · rw [BitVec.getLsbD_of_ge _ _ (by omega)]; simp
    · intro i hi
      simp only [BitVec.getLsbD_and, BitVec.getLsbD_not]
      have : (15#32).getLsbD i = true := by
        rw [show (15#32 : BitVec 32) = BitVec.ofNat 32 (2 ^ 4 - 1) by rfl, BitVec.getLsbD_ofNat, Nat.testBit_two_pow_sub_one]
        simp; omega
      simp [this]
  conv => rhs; rw [e, sn_xor, e1]
  unfold tab
  rw [BitVec.ofNat_toNat, BitVec.setWidth_eq]
theorem byte_nib (x : BitVec 32) (b : UInt8) : sn 4 (sn 4 (x ^^^ (b.toBitVec.setWidth 32))) = byte x b := by rw [← sn_add]; rfl
/-- parity -/
def par : Nat → BitVec 32 → Bool
  | 0, _ => false
  | n + 1, x => x.getLsbD n ^^ par n x
theorem par_xor (n : Nat) (x y : BitVec 32) : par n (x ^^^ y) = (par n x ^^ par n y) := by
  induction n with
  | zero => rfl
  | succ n ih => simp only [par, BitVec.getLsbD_xor, ih]; cases x.getLsbD n <;> cases y.getLsbD n <;> cases par n x <;> cases par n y <;> rfl
theorem par_shift (n : Nat) (x : BitVec 32) : (par n (x >>> 1) ^^ x.getLsbD 0) = par (n + 1) x := by
  induction n with
  | zero => simp [par]
  | succ n ih =>
    have : par (n + 1 + 1) x = (x.getLsbD (n + 1) ^^ par (n + 1) x) := rfl
    rw [this, ← ih]
    simp only [par, BitVec.getLsbD_ushiftRight]
    rw [show 1 + n = n + 1 by omega]
    cases x.getLsbD (n + 1) <;> cases par n (x >>> 1) <;> cases x.getLsbD 0 <;> rfl
theorem par_st (x : BitVec 32) : par 32 (st x) = par 32 x := by
  unfold st
  rw [par_xor]
  have h := par_shift 32 x
  have h33 : par 33 x = par 32 x := by
    show (x.getLsbD 32 ^^ par 32 x) = _
    rw [BitVec.getLsbD_of_ge _ _ (by omega)]; simp
  rw [h33] at h
  rw [← h]
  cases x.getLsbD 0
  · have : par 32 (0#32) = false := by decide
    simp [this]
  · have : par 32 poly = true := by decide
    simp [this]
theorem par_sn (n : Nat) (x : BitVec 32) : par 32 (sn n x) = par 32 x := by
  induction n generalizing x with
  | zero => rfl
  | succ n ih => simp only [sn]; rw [ih, par_st]

/-- order: no power below 4096 brings 1 back -/
def orderOk : Nat → BitVec 32 → Bool
  | 0, _ => true
  | n + 1, x => x != 1#32 && orderOk n (st x)
theorem orderOk_sn (n : Nat) (x : BitVec 32) (h : orderOk n x = true) : ∀ k, k < n → sn k x ≠ 1#32 := by
  induction n generalizing x with
  | zero => intro k hk; omega
  | succ n ih =>
    simp only [orderOk, Bool.and_eq_true, bne_iff_ne] at h
    intro k hk
    cases k with
    | zero => exact h.1
    | succ k => exact ih _ h.2 k (by omega)
theorem order : orderOk 4096 (st 1#32) = true := by decide +kernel
end Crc
