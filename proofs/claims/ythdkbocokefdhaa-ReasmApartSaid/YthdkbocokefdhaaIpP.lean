import Derived.Test.YthdkbocokefdhaaWire
/- IPv4 headers, pieces and tables: in plain Lean. -/
namespace Go.Proofs.Ythdkbocokefdhaa
set_option maxRecDepth 100000
open Go.RowKit
theorem bv_from (l : List UInt8) : ∀ acc : Nat, l.foldl (fun n c => n * 256 + c.toNat) acc = acc * 256 ^ l.length + bv l := by
  induction l with
  | nil => intro acc; simp [bv]
  | cons c l ih =>
    intro acc
    unfold bv
    rw [List.foldl_cons, List.foldl_cons, ih, ih, List.length_cons, Nat.pow_succ, Nat.add_mul, Nat.zero_mul, Nat.zero_add, Nat.mul_assoc, Nat.mul_comm 256, Nat.add_assoc]
theorem bv_cons (c : UInt8) (l : List UInt8) : bv (c :: l) = c.toNat * 256 ^ l.length + bv l := by
  have h := bv_from l (0 * 256 + c.toNat)
  rw [Nat.zero_mul, Nat.zero_add] at h
  unfold bv
  rw [List.foldl_cons, Nat.zero_mul, Nat.zero_add]
  exact h
theorem bv_be (n m : Nat) : bv (be n m) = n % 256 ^ m := by
  induction m with
  | zero => simp [be, bv, Nat.mod_one]
  | succ m ih =>
    show bv (UInt8.ofNat (n / 256 ^ m % 256) :: be n m) = _
    rw [bv_cons, ih, be_length, Nat.pow_succ, Nat.mod_mul]
    have : (UInt8.ofNat (n / 256 ^ m % 256)).toNat = n / 256 ^ m % 256 := by
      rw [UInt8.toNat_ofNat']; exact Nat.mod_eq_of_lt (Nat.mod_lt _ (by decide))
    rw [this, Nat.mul_comm]; omega
theorem bv_be' {n m : Nat} (h : n < 256 ^ m) : bv (be n m) = n := by rw [bv_be, Nat.mod_eq_of_lt h]
/-- a text's sum ahead of its folding -/
def tot : List UInt8 → Nat
  | [] => 0
  | [a] => a.toNat * 256
  | a :: b :: l => a.toNat * 256 + b.toNat + tot l
/-- folded to 16 bits -/
def dn (n : Nat) : Nat := if n = 0 then 0 else (n - 1) % 65535 + 1
def sm (l : List UInt8) : Nat := 65535 - dn (tot l)
theorem dn_small {n : Nat} (h : n ≤ 65535) : dn n = n := by
  unfold dn; split
  · omega
  · rw [Nat.mod_eq_of_lt (by omega)]; omega
theorem dn_le (n : Nat) : dn n ≤ 65535 := by unfold dn; split <;> omega
theorem dn_step {n : Nat} (h : 65535 < n) : dn (n % 65536 + n / 65536) = dn n := by
  unfold dn
  rw [if_neg (by omega), if_neg (by omega)]
  omega
theorem dn_less {n : Nat} (h : 65535 < n) : n % 65536 + n / 65536 < n := by omega
theorem tot_le : ∀ l : List UInt8, tot l ≤ 65535 * l.length
  | [] => by simp [tot]
  | [a] => by have := a.toNat_lt; simp [tot]; omega
  | a :: b :: l => by
    have := tot_le l
    have := a.toNat_lt
    have := b.toNat_lt
    simp only [tot, List.length_cons]; omega
theorem tot_app : ∀ (a b : List UInt8), a.length % 2 = 0 → tot (a ++ b) = tot a + tot b
  | [], b, _ => by simp [tot]
  | [x], b, h => by simp at h
  | x :: y :: a, b, h => by
    have := tot_app a b (by simp only [List.length_cons] at h; omega)
    simp only [List.cons_append, tot, this]; omega
theorem xor_mask {n : Nat} (h : n ≤ 65535) : n ^^^ 65535 = 65535 - n := by
  have h1 := congrArg BitVec.toNat (BitVec.not_def (x := BitVec.ofNat 16 n))
  rw [BitVec.toNat_not, BitVec.toNat_xor, BitVec.toNat_allOnes, BitVec.toNat_ofNat, Nat.mod_eq_of_lt (by omega)] at h1
  rw [Nat.xor_comm]
  exact h1.symm
/-- an IPv4 header -/
structure H4 where
  tos : Int
  id : Int
  off : Int
  ttl : Int
  proto : Int
  df : Bool
  mf : Bool
  src : List UInt8
  dst : List UInt8
  opt : List UInt8
deriving DecidableEq
/-- may it be? -/
structure H4.ok (h : H4) : Prop where
  tos : 0 ≤ h.tos ∧ h.tos ≤ 255
  ttl : 0 ≤ h.ttl ∧ h.ttl ≤ 255
  proto : 0 ≤ h.proto ∧ h.proto ≤ 255
  id : 0 ≤ h.id ∧ h.id ≤ 65535
  off : 0 ≤ h.off ∧ h.off ≤ 8191
  src : h.src.length = 4
  dst : h.dst.length = 4
  opt : h.opt.length ≤ 40 ∧ h.opt.length % 4 = 0
def chk (h : H4) : Bool := decide (0 ≤ h.tos) && decide (h.tos ≤ 255) && decide (0 ≤ h.ttl) && decide (h.ttl ≤ 255) && decide (0 ≤ h.proto) && decide (h.proto ≤ 255) && decide (0 ≤ h.id) && decide (h.id ≤ 65535) && decide (0 ≤ h.off) && decide (h.off ≤ 8191) &&
  decide (h.src.length = 4) && decide (h.dst.length = 4) && decide (h.opt.length ≤ 40) && decide (h.opt.length % 4 = 0)
theorem chk_iff (h : H4) : chk h = true ↔ h.ok := by
  unfold chk
  simp only [Bool.and_eq_true, decide_eq_true_eq]
  constructor
  · rintro ⟨⟨⟨⟨⟨⟨⟨⟨⟨⟨⟨⟨⟨a, b⟩, c⟩, d⟩, e⟩, f⟩, g⟩, i⟩, j⟩, k⟩, l⟩, m⟩, n⟩, o⟩
    exact ⟨⟨a, b⟩, ⟨c, d⟩, ⟨e, f⟩, ⟨g, i⟩, ⟨j, k⟩, l, m, ⟨n, o⟩⟩
  · rintro ⟨⟨a, b⟩, ⟨c, d⟩, ⟨e, f⟩, ⟨g, i⟩, ⟨j, k⟩, l, m, ⟨n, o⟩⟩
    exact ⟨⟨⟨⟨⟨⟨⟨⟨⟨⟨⟨⟨⟨a, b⟩, c⟩, d⟩, e⟩, f⟩, g⟩, i⟩, j⟩, k⟩, l⟩, m⟩, n⟩, o⟩
def flg (h : H4) : Nat := h.off.toNat + (if h.mf then 8192 else 0) + (if h.df then 16384 else 0)
/-- a header's bytes, ahead of its sum -/
def hdA (h : H4) (total : Nat) : List UInt8 := be (64 + (20 + h.opt.length) / 4) 1 ++ be h.tos.toNat 1 ++ be total 2 ++ be h.id.toNat 2 ++ be (flg h) 2 ++ be h.ttl.toNat 1 ++ be h.proto.toNat 1
def hdB (h : H4) (total c : Nat) : List UInt8 := hdA h total ++ be c 2 ++ (h.src ++ h.dst ++ h.opt)
def putE (h : H4) (s : List UInt8) : Except Nat (List UInt8) :=
  if chk h then (if 65535 < 20 + h.opt.length + s.length then .error 4 else .ok (hdB h (20 + h.opt.length + s.length) (sm (hdB h (20 + h.opt.length + s.length) 0)) ++ s)) else .error 1
def hdG (p : List UInt8) (n f : Nat) : H4 :=
  ⟨bv ((p.drop 1).take 1), bv ((p.drop 4).take 2), (f % 8192 : Nat), bv ((p.drop 8).take 1), bv ((p.drop 9).take 1), decide (f / 16384 % 2 = 1), decide (f / 8192 % 2 = 1), (p.drop 12).take 4, (p.drop 16).take 4, (p.drop 20).take (n - 20)⟩
def getE (p : List UInt8) : Except Nat (H4 × List UInt8) :=
  if p.length < 20 then .error 2
  else if bv (p.take 1) / 16 ≠ 4 then .error 3
  else if bv (p.take 1) % 16 * 4 < 20 ∨ p.length < bv (p.take 1) % 16 * 4 ∨ bv ((p.drop 2).take 2) ≠ p.length then .error 4
  else if sm (p.take (bv (p.take 1) % 16 * 4)) ≠ 0 then .error 5
  else if 32768 ≤ bv ((p.drop 6).take 2) then .error 9
  else .ok (hdG p (bv (p.take 1) % 16 * 4) (bv ((p.drop 6).take 2)), p.drop (bv (p.take 1) % 16 * 4))
theorem bv_tk1 (l : List UInt8) : bv (l.take 1) < 256 := by
  have := bv_lt (l.take 1)
  have h : (l.take 1).length ≤ 1 := by rw [List.length_take]; omega
  exact Nat.lt_of_lt_of_le this (by rw [show (256:Nat) = 256 ^ 1 from rfl]; exact Nat.pow_le_pow_right (by decide) h)
theorem bv_tk2 (l : List UInt8) : bv (l.take 2) < 65536 := by
  have := bv_lt (l.take 2)
  have h : (l.take 2).length ≤ 2 := by rw [List.length_take]; omega
  exact Nat.lt_of_lt_of_le this (by rw [show (65536:Nat) = 256 ^ 2 from rfl]; exact Nat.pow_le_pow_right (by decide) h)
theorem getE_ok {p s : List UInt8} {h : H4} (e : getE p = .ok (h, s)) : h.ok ∧ 20 + h.opt.length + s.length = p.length ∧ p.length ≤ 65535 := by
  unfold getE at e
  split at e
  · cases e
  split at e
  · cases e
  split at e
  · cases e
  split at e
  · cases e
  split at e
  · cases e
  rename_i h1 h2 h3 h4 h5
  injection e with e
  injection e with e1 e2
  subst e1 e2
  have a := bv_tk1 p
  have b1 := bv_tk1 (p.drop 1)
  have b2 := bv_tk1 (p.drop 8)
  have b3 := bv_tk1 (p.drop 9)
  have b4 := bv_tk2 (p.drop 4)
  have b5 := bv_tk2 (p.drop 2)
  have hn : bv (p.take 1) % 16 < 16 := Nat.mod_lt _ (by decide)
  unfold hdG
  refine ⟨⟨?_, ?_, ?_, ?_, ?_, ?_, ?_, ?_⟩, ?_, ?_⟩ <;> (try simp only [List.length_take, List.length_drop]) <;> omega
theorem hdA_len (h : H4) (t : Nat) : (hdA h t).length = 10 := by unfold hdA; simp only [List.length_append, be_length]
theorem tot_be2 {c : Nat} (hc : c < 65536) : tot (be c 2) = c := by
  show tot [UInt8.ofNat (c / 256 ^ 1 % 256), UInt8.ofNat (c / 256 ^ 0 % 256)] = c
  rw [tot, tot, UInt8.toNat_ofNat', UInt8.toNat_ofNat']
  omega
theorem tot_hdB (h : H4) (t c : Nat) (hc : c < 65536) : tot (hdB h t c) = tot (hdB h t 0) + c := by
  have e : ∀ c, c < 65536 → tot (hdB h t c) = tot (hdA h t) + c + tot (h.src ++ h.dst ++ h.opt) := fun c hc => by
    unfold hdB
    rw [tot_app _ _ (by rw [List.length_append, hdA_len, be_length]), tot_app _ _ (by rw [hdA_len]), tot_be2 hc]
  rw [e c hc, e 0 (by decide)]; omega
theorem sm_zero (h : H4) (t : Nat) : sm (hdB h t (sm (hdB h t 0))) = 0 := by
  have h1 : sm (hdB h t 0) ≤ 65535 := by unfold sm; omega
  have h2 := tot_hdB h t (sm (hdB h t 0)) (by omega)
  unfold sm at h2 ⊢
  rw [h2]
  have h3 := dn_le (tot (hdB h t 0))
  generalize tot (hdB h t 0) = T at *
  unfold dn at *
  by_cases hT : T = 0
  · subst hT; simp
  · rw [if_neg hT] at h3 ⊢
    rw [if_neg (by omega)]
    omega
theorem bv_append (a b : List UInt8) : bv (a ++ b) = bv a * 256 ^ b.length + bv b := by
  have h := bv_from b (bv a)
  rw [← h]; unfold bv; rw [List.foldl_append]
theorem hdB_len (h : H4) (t c : Nat) (ho : h.ok) : (hdB h t c).length = 20 + h.opt.length := by
  unfold hdB
  simp only [List.length_append, hdA_len, be_length, ho.src, ho.dst]; omega
theorem flg_lt (h : H4) (ho : h.ok) : flg h < 32768 := by
  have := ho.off
  unfold flg; split <;> split <;> omega
theorem dl {p a x : List UInt8} {k n : Nat} (h : p.drop k = a ++ x) (ha : a.length = n) : p.drop (k + n) = x ∧ (p.drop k).take n = a := by
  rw [← List.drop_drop, h]
  exact ⟨List.drop_left' ha, List.take_left' ha⟩
theorem hd_parts (h : H4) (t c : Nat) (s : List UInt8) (ho : h.ok) :
    let p := hdB h t c ++ s
    p.take 1 = be (64 + (20 + h.opt.length) / 4) 1 ∧ (p.drop 1).take 1 = be h.tos.toNat 1 ∧ (p.drop 2).take 2 = be t 2 ∧ (p.drop 4).take 2 = be h.id.toNat 2 ∧ (p.drop 6).take 2 = be (flg h) 2 ∧
    (p.drop 8).take 1 = be h.ttl.toNat 1 ∧ (p.drop 9).take 1 = be h.proto.toNat 1 ∧ (p.drop 12).take 4 = h.src ∧ (p.drop 16).take 4 = h.dst ∧ (p.drop 20).take h.opt.length = h.opt ∧ p.drop (20 + h.opt.length) = s := by
  intro p
  have hp : p = be (64 + (20 + h.opt.length) / 4) 1 ++ (be h.tos.toNat 1 ++ (be t 2 ++ (be h.id.toNat 2 ++ (be (flg h) 2 ++ (be h.ttl.toNat 1 ++ (be h.proto.toNat 1 ++ (be c 2 ++ (h.src ++ (h.dst ++ (h.opt ++ s)))))))))) := by
    show hdB h t c ++ s = _
    unfold hdB hdA; simp only [List.append_assoc]
  have q0 := dl (k := 0) hp (be_length _ 1)
  have q1 := dl q0.1 (be_length _ 1)
  have q2 := dl q1.1 (be_length _ 2)
  have q4 := dl q2.1 (be_length _ 2)
  have q6 := dl q4.1 (be_length _ 2)
  have q8 := dl q6.1 (be_length _ 1)
  have q9 := dl q8.1 (be_length _ 1)
  have q10 := dl q9.1 (be_length _ 2)
  have q12 := dl q10.1 ho.src
  have q16 := dl q12.1 ho.dst
  have q20 := dl q16.1 rfl
  exact ⟨q0.2, q1.2, q2.2, q4.2, q6.2, q8.2, q9.2, q12.2, q16.2, q20.2, q20.1⟩
theorem get_put {h : H4} {s p : List UInt8} (e : putE h s = .ok p) : getE p = .ok (h, s) := by
  unfold putE at e
  split at e
  case isFalse => cases e
  rename_i hc
  have ho := (chk_iff h).1 hc
  split at e
  · cases e
  rename_i hl
  injection e with e
  have h0 := ho.opt
  have hop := ho.off
  have hid := ho.id
  have htos := ho.tos
  have httl := ho.ttl
  have hpr := ho.proto
  have hf := flg_lt h ho
  obtain ⟨t, ht⟩ : ∃ t, t = 20 + h.opt.length + s.length := ⟨_, rfl⟩
  rw [← ht] at e hl
  obtain ⟨c, hcq⟩ : ∃ c, c = sm (hdB h t 0) := ⟨_, rfl⟩
  have hz := sm_zero h t
  rw [← hcq] at e hz
  have hlen := hdB_len h t c ho
  obtain ⟨p1, p2, p3, p4, p5, p6, p7, p8, p9, p10, p11⟩ := hd_parts h t c s ho
  rw [e] at p1 p2 p3 p4 p5 p6 p7 p8 p9 p10 p11
  have hpl : p.length = t := by rw [← e, List.length_append, hlen, ht]
  have v1 : bv (p.take 1) = 64 + (20 + h.opt.length) / 4 := by rw [p1]; exact bv_be' (by omega)
  have v3 : bv ((p.drop 2).take 2) = t := by rw [p3]; exact bv_be' (by omega)
  have v5 : bv ((p.drop 6).take 2) = flg h := by rw [p5]; exact bv_be' (by omega)
  have hn : bv (p.take 1) % 16 * 4 = 20 + h.opt.length := by rw [v1]; omega
  have htk : p.take (20 + h.opt.length) = hdB h t c := by rw [← e]; exact List.take_left' hlen
  unfold getE
  rw [hn, htk, if_neg (by omega), if_neg (by rw [v1]; omega), if_neg (by rw [v3]; omega), if_neg (by rw [hz]; simp), v5, if_neg (by omega), p11]
  have b2 : bv ((p.drop 1).take 1) = h.tos.toNat := by rw [p2]; exact bv_be' (by omega)
  have b4 : bv ((p.drop 4).take 2) = h.id.toNat := by rw [p4]; exact bv_be' (by omega)
  have b6 : bv ((p.drop 8).take 1) = h.ttl.toNat := by rw [p6]; exact bv_be' (by omega)
  have b7 : bv ((p.drop 9).take 1) = h.proto.toNat := by rw [p7]; exact bv_be' (by omega)
  have hG : hdG p (20 + h.opt.length) (flg h) = h := by
    unfold hdG
    rw [b2, b4, b6, b7, p8, p9, show 20 + h.opt.length - 20 = h.opt.length by omega, p10]
    obtain ⟨tos, id, off, ttl, proto, df, mf, src, dst, opt⟩ := h
    unfold flg
    simp only at *
    congr 1
    · omega
    · omega
    · cases df <;> cases mf <;> simp <;> omega
    · omega
    · omega
    · cases df <;> cases mf <;> simp <;> omega
    · cases df <;> cases mf <;> simp <;> omega
  rw [hG]
/-- what is got, put again -/
theorem putE_ok {h : H4} {s : List UInt8} (ho : h.ok) (hl : 20 + h.opt.length + s.length ≤ 65535) : ∃ p, putE h s = .ok p ∧ p.length = 20 + h.opt.length + s.length := by
  refine ⟨_, by unfold putE; rw [if_pos ((chk_iff h).2 ho), if_neg (by omega)], ?_⟩
  rw [List.length_append, hdB_len h _ _ ho]
theorem putE_inv {h : H4} {s p : List UInt8} (e : putE h s = .ok p) : h.ok ∧ p.length = 20 + h.opt.length + s.length ∧ p.length ≤ 65535 := by
  unfold putE at e
  split at e
  case isFalse => cases e
  rename_i hc
  split at e
  · cases e
  injection e with e
  have ho := (chk_iff h).1 hc
  subst e
  rw [List.length_append, hdB_len h _ _ ho]
  exact ⟨ho, rfl, by omega⟩
end Go.Proofs.Ythdkbocokefdhaa
