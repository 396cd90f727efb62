import Derived.Test.YtmijfhfjhbckdaaPut
/- What is put is read as it was: in plain Lean. -/
namespace Go.Proofs.Ytmijfhfjhbckdaa
set_option maxRecDepth 100000
open Go.RowKit
theorem bv_from (l : List UInt8) : ∀ acc : Nat, l.foldl (fun n c => n * 256 + c.toNat) acc = acc * 256 ^ l.length + bv l := by
  induction l with
  | nil => intro acc; simp [bv]
  | cons c l ih =>
    intro acc
    unfold bv
    rw [List.foldl_cons, List.foldl_cons, ih, ih, List.length_cons, Nat.pow_succ, Nat.add_mul, Nat.zero_mul, Nat.zero_add, Nat.mul_assoc, Nat.mul_comm 256, Nat.add_assoc]
theorem bv_cons (c : UInt8) (l : List UInt8) : bv (c :: l) = c.toNat * 256 ^ l.length + bv l := by
  have h := bv_from l (0 * 256 + c.toNat)
  rw [Nat.zero_mul, Nat.zero_add] at h
  unfold bv
  rw [List.foldl_cons, Nat.zero_mul, Nat.zero_add]
  exact h
theorem bv_be (n m : Nat) : bv (be n m) = n % 256 ^ m := by
  induction m with
  | zero => simp [be, bv, Nat.mod_one]
  | succ m ih =>
    show bv (UInt8.ofNat (n / 256 ^ m % 256) :: be n m) = _
    rw [bv_cons, ih, be_length, Nat.pow_succ, Nat.mod_mul]
    have : (UInt8.ofNat (n / 256 ^ m % 256)).toNat = n / 256 ^ m % 256 := by
      rw [UInt8.toNat_ofNat']; exact Nat.mod_eq_of_lt (Nat.mod_lt _ (by decide))
    rw [this, Nat.mul_comm]; omega
theorem bv_be' {n m : Nat} (h : n < 256 ^ m) : bv (be n m) = n := by rw [bv_be, Nat.mod_eq_of_lt h]
theorem take_app {x : List UInt8} {n : Nat} (h : x.length = n) (r : List UInt8) : (x ++ r).take n = x := by subst h; simp
theorem drop_app {x : List UInt8} {n : Nat} (h : x.length = n) (r : List UInt8) : (x ++ r).drop n = r := by subst h; simp
theorem bytes_inj {a b : ByteArray} (h : a.toList = b.toList) : a = b := by
  rw [ByteArray.toList_eq, ByteArray.toList_eq] at h
  exact ByteArray.ext (Array.ext' h)
theorem zB_true {x1 : ByteArray} {x2 : Int} {x3 : ByteArray} {x5 : Int} {x6 x7 : Bool} {x8 : Int} {x9 : Bool} {x10 x11 x12 x13 : Int} (h : zB x1 x2 x3 x5 x6 x7 x8 x9 x10 x11 x12 x13 = true) :
    x1 = ⟨#[]⟩ ∧ x2 = 0 ∧ x3 = ⟨#[]⟩ ∧ x5 = 0 ∧ x6 = false ∧ x7 = false ∧ x8 = 0 ∧ x9 = false ∧ x10 = 0 ∧ x11 = 0 ∧ x12 = 0 ∧ x13 = 0 := by
  unfold zB at h
  simp only [Bool.and_eq_true, beq_iff_eq, Bool.and_true] at h
  obtain ⟨_, h1, ⟨h2, h3, _⟩, ⟨h5, h6, h7, h8, h9, h10, h11⟩, h12, h13⟩ := h
  exact ⟨bytes_inj h1, h2, bytes_inj h3, h5, h6, h7, h8, h9, h10, h11, h12, h13⟩
theorem putR_ok {Z ok : Bool} {l : List UInt8} {S : ByteArray} (h : putR Z ok l = .tuple #[.string S, .int .i64 0]) : Z = true ∧ ok = true ∧ S = bs l := by
  cases Z <;> cases ok <;> simp [putR] at h
  exact ⟨rfl, rfl, h.symm⟩
theorem fits_nat {z : Int} (h : fits z = true) : ∃ n : Nat, z = n ∧ n < 65536 ∧ u64 z = n := by
  unfold fits at h
  have h := of_decide_eq_true h
  exact ⟨z.toNat, by omega, by omega, by unfold u64; omega⟩
theorem byte3_nat {a b c : Int} (h : byte3 a b c = true) : (∃ n : Nat, a = n ∧ n < 256 ∧ u64 a = n) ∧ (∃ n : Nat, b = n ∧ n < 256 ∧ u64 b = n) ∧ (∃ n : Nat, c = n ∧ n < 256 ∧ u64 c = n) := by
  unfold byte3 at h
  have h := of_decide_eq_true h
  exact ⟨⟨a.toNat, by omega, by omega, by unfold u64; omega⟩, ⟨b.toNat, by omega, by omega, by unfold u64; omega⟩, ⟨c.toNat, by omega, by omega, by unfold u64; omega⟩⟩
theorem tbits_bits (B1 B2 B4 : Bool) : (tbits B1 B2 B4 % 2 == 1) = B1 ∧ (tbits B1 B2 B4 / 2 % 2 == 1) = B2 ∧ (tbits B1 B2 B4 / 4 % 2 == 1) = B4 := by cases B1 <;> cases B2 <;> cases B4 <;> decide
theorem tunB_length (m : Int) (B1 B2 : Bool) (va : Nat) (B4 : Bool) (tt tz : Int) : (tunB m B1 B2 va B4 tt tz).length = 8 := by unfold tunB; simp only [List.length_append, be_length]
/-- a tunnel that was put is read -/
theorem tunP_put {m : Int} {B1 B2 : Bool} {va : Nat} {B4 : Bool} {tt tz : Int} {mn tn zn : Nat} (hm : u64 m = mn) (ht : u64 tt = tn) (hz : u64 tz = zn) (m9 : mn < 256) (t9 : tn < 256) (z9 : zn < 256) (hv : va < 4294967296) (r : List UInt8) :
    tunP (tunB m B1 B2 va B4 tt tz ++ r) = ⟨mn, tbits B1 B2 B4, va, tn, zn⟩ := by
  have hb := tbits_lt B1 B2 B4
  unfold tunP tunB
  rw [hm, ht, hz]
  have e1 : (be mn 1 ++ (be (tbits B1 B2 B4) 1 ++ (be va 4 ++ (be tn 1 ++ be zn 1))) ++ r) = be mn 1 ++ (be (tbits B1 B2 B4) 1 ++ (be va 4 ++ (be tn 1 ++ (be zn 1 ++ r)))) := by simp only [List.append_assoc]
  rw [e1]
  generalize hE : be mn 1 ++ (be (tbits B1 B2 B4) 1 ++ (be va 4 ++ (be tn 1 ++ (be zn 1 ++ r)))) = E
  have d1 : E.drop 1 = be (tbits B1 B2 B4) 1 ++ (be va 4 ++ (be tn 1 ++ (be zn 1 ++ r))) := by rw [← hE]; exact drop_app (be_length _ _) _
  have d2 : E.drop 2 = be va 4 ++ (be tn 1 ++ (be zn 1 ++ r)) := by rw [show E.drop 2 = (E.drop 1).drop 1 by rw [List.drop_drop], d1]; exact drop_app (be_length _ _) _
  have d6 : E.drop 6 = be tn 1 ++ (be zn 1 ++ r) := by rw [show E.drop 6 = (E.drop 2).drop 4 by rw [List.drop_drop], d2]; exact drop_app (be_length _ _) _
  have d7 : E.drop 7 = be zn 1 ++ r := by rw [show E.drop 7 = (E.drop 6).drop 1 by rw [List.drop_drop], d6]; exact drop_app (be_length _ _) _
  rw [d1, d2, d6, d7, ← hE, take_app (be_length _ _), take_app (be_length _ _), take_app (be_length _ _), take_app (be_length _ _), take_app (be_length _ _), bv_be' (by omega), bv_be' (by omega), bv_be' (by omega), bv_be' (by omega), bv_be' (by omega)]
theorem put_back (a : ActL) (h : a.ok) (S : ByteArray) (hp : a.put = .tuple #[.string S, .int .i64 0]) :
    ∃ (kn : UInt8) (body : List UInt8) (bd : BodyP), S = bs (kn :: body) ∧ kn.toNat < 11 ∧ (∀ r, getP kn.toNat (body ++ r) = some (bd, r)) ∧ actC kn.toNat bd = a.C := by
  obtain ⟨k, p, id, ad, wt, md, sm, ky, va, df, tl, ts, n, d⟩ := a
  unfold ActL.put at hp
  by_cases hk : k < 0 ∨ 11 ≤ k
  · rw [if_pos hk] at hp; simp at hp
  · rw [if_neg hk] at hp
    obtain ⟨hz, hf, hS⟩ := putR_ok hp
    clear hp
    simp only at hk hS
    have num : ∀ kz : Nat, k = (kz : Int) → (kz = 2 ∨ kz = 3 ∨ kz = 5 ∨ kz = 6 ∨ kz = 7) → ∃ (kn : UInt8) (body : List UInt8) (bd : BodyP), S = bs (kn :: body) ∧ kn.toNat < 11 ∧ (∀ r, getP kn.toNat (body ++ r) = some (bd, r)) ∧ actC kn.toNat bd = ActL.C ⟨k, p, id, ad, wt, md, sm, ky, va, df, tl, ts, n, d⟩ := by
      intro kz hkz hks
      have e0 : ActL.rest ⟨k, p, id, ad, wt, md, sm, ky, va, df, tl, ts, n, d⟩ = (zB p id ad md sm ky va df tl ts 0 d && (wt == 0)) := by
        unfold ActL.rest; simp only; rw [if_neg (by omega), if_neg (by omega), if_neg (by omega), if_neg (by omega), if_neg (by omega)]
      have e1 : ActL.fit ⟨k, p, id, ad, wt, md, sm, ky, va, df, tl, ts, n, d⟩ = fits n := by
        unfold ActL.fit; simp only; rw [if_neg (by omega), if_neg (by omega), if_neg (by omega), if_neg (by omega), if_neg (by omega)]
      have e2 : ActL.body ⟨k, p, id, ad, wt, md, sm, ky, va, df, tl, ts, n, d⟩ = be (u64 n) 2 := by
        unfold ActL.body; simp only; rw [if_neg (by omega), if_neg (by omega), if_neg (by omega), if_neg (by omega), if_neg (by omega)]
      rw [e0, Bool.and_eq_true, beq_iff_eq] at hz
      rw [e1] at hf
      rw [e2] at hS
      obtain ⟨rfl, rfl, rfl, rfl, rfl, rfl, hva, rfl, rfl, rfl, _, rfl⟩ := zB_true hz.1
      obtain ⟨N, rfl, hN, hNu⟩ := fits_nat hf
      have hw := hz.2
      try simp only at hw
      subst hw
      have hv0 : va = 0 := by omega
      subst hv0
      refine ⟨UInt8.ofNat kz, be N 2, .num N, ?_, ?_, ?_, ?_⟩
      · rw [hS, hNu, hkz, u64_nat kz (by omega)]
        rcases hks with rfl | rfl | rfl | rfl | rfl <;> rfl
      · rcases hks with rfl | rfl | rfl | rfl | rfl <;> decide
      · intro r
        have e : (UInt8.ofNat kz).toNat = kz := by rcases hks with rfl | rfl | rfl | rfl | rfl <;> rfl
        rw [e, get_num _ hks, if_neg (by rw [List.length_append, be_length]; omega), take_app (be_length _ _), drop_app (be_length _ _), bv_be' (by omega)]
      · have e : (UInt8.ofNat kz).toNat = kz := by rcases hks with rfl | rfl | rfl | rfl | rfl <;> rfl
        rw [e]
        unfold actC ActL.C
        simp only [hkz]
        rfl
    have pkt : ∀ kz : Nat, k = (kz : Int) → (kz = 0 ∨ kz = 9) → ∃ (kn : UInt8) (body : List UInt8) (bd : BodyP), S = bs (kn :: body) ∧ kn.toNat < 11 ∧ (∀ r, getP kn.toNat (body ++ r) = some (bd, r)) ∧ actC kn.toNat bd = ActL.C ⟨k, p, id, ad, wt, md, sm, ky, va, df, tl, ts, n, d⟩ := by
      intro kz hkz hks
      have hks' : k = 0 ∨ k = 9 := by omega
      have e0 : ActL.rest ⟨k, p, id, ad, wt, md, sm, ky, va, df, tl, ts, n, d⟩ = (zB ⟨#[]⟩ id ad md sm ky va df tl ts n d && (wt == 0)) := by
        unfold ActL.rest; simp only; rw [if_pos hks']
      have e1 : ActL.fit ⟨k, p, id, ad, wt, md, sm, ky, va, df, tl, ts, n, d⟩ = fits (p.size : Int) := by unfold ActL.fit; simp only; rw [if_pos hks']
      have e2 : ActL.body ⟨k, p, id, ad, wt, md, sm, ky, va, df, tl, ts, n, d⟩ = be (u64 (p.size : Int)) 2 ++ p.data.toList := by unfold ActL.body; simp only; rw [if_pos hks']
      rw [e0, Bool.and_eq_true, beq_iff_eq] at hz
      rw [e1] at hf
      rw [e2] at hS
      obtain ⟨_, rfl, rfl, rfl, rfl, rfl, hva, rfl, rfl, rfl, rfl, rfl⟩ := zB_true hz.1
      obtain ⟨N, hNe, hN, hNu⟩ := fits_nat hf
      have hNp : N = p.data.toList.length := by have : p.data.toList.length = p.size := by simp
                                                omega
      have hw := hz.2
      try simp only at hw
      subst hw
      have hv0 : va = 0 := by omega
      subst hv0
      refine ⟨UInt8.ofNat kz, be N 2 ++ p.data.toList, .pkt p.data.toList, ?_, ?_, ?_, ?_⟩
      · rw [hS, hNu, hkz, u64_nat kz (by omega)]
        rcases hks with rfl | rfl <;> rfl
      · rcases hks with rfl | rfl <;> decide
      · intro r
        have e : (UInt8.ofNat kz).toNat = kz := by rcases hks with rfl | rfl <;> rfl
        rw [e, List.append_assoc, get_pkt _ hks, if_neg (by rw [List.length_append, be_length]; omega), take_app (be_length _ _), drop_app (be_length _ _), bv_be' (by omega), if_neg (by rw [List.length_append]; omega), take_app hNp.symm, drop_app hNp.symm]
      · have e : (UInt8.ofNat kz).toNat = kz := by rcases hks with rfl | rfl <;> rfl
        rw [e]
        unfold actC ActL.C
        simp only [hkz, bs_of]
        rfl
    have : k = 0 ∨ k = 1 ∨ k = 2 ∨ k = 3 ∨ k = 4 ∨ k = 5 ∨ k = 6 ∨ k = 7 ∨ k = 8 ∨ k = 9 ∨ k = 10 := by omega
    rcases this with rfl | rfl | rfl | rfl | rfl | rfl | rfl | rfl | rfl | rfl | rfl
    · exact pkt 0 rfl (.inl rfl)
    · have e0 : ActL.rest ⟨1, p, id, ad, wt, md, sm, ky, va, df, tl, ts, n, d⟩ = (zB p 0 ⟨#[]⟩ md sm ky va df tl ts n d && (0 == 0)) := rfl
      have e1 : ActL.fit ⟨1, p, id, ad, wt, md, sm, ky, va, df, tl, ts, n, d⟩ = (fits id && (ad.size == 4)) := rfl
      have e2 : ActL.body ⟨1, p, id, ad, wt, md, sm, ky, va, df, tl, ts, n, d⟩ = be (u64 id) 2 ++ (ad.data.toList ++ be wt 8) := rfl
      rw [e0, Bool.and_eq_true] at hz
      rw [e1, Bool.and_eq_true, beq_iff_eq] at hf
      rw [e2] at hS
      obtain ⟨rfl, _, _, rfl, rfl, rfl, hva, rfl, rfl, rfl, rfl, rfl⟩ := zB_true hz.1
      obtain ⟨N, rfl, hN, hNu⟩ := fits_nat hf.1
      have hv0 : va = 0 := by omega
      subst hv0
      have ha : ad.data.toList.length = 4 := by have : ad.data.toList.length = ad.size := by simp
                                                rw [this]; exact hf.2
      have hw := h.wt
      try simp only at hw
      refine ⟨1, be N 2 ++ (ad.data.toList ++ be wt 8), .bk N ad.data.toList wt, ?_, by decide, ?_, ?_⟩
      · rw [hS, hNu]; rfl
      · intro r
        have e : (be N 2 ++ (ad.data.toList ++ be wt 8) ++ r) = be N 2 ++ (ad.data.toList ++ (be wt 8 ++ r)) := by simp only [List.append_assoc]
        rw [e]
        generalize hE : be N 2 ++ (ad.data.toList ++ (be wt 8 ++ r)) = E
        have hl : ¬ E.length < 14 := by rw [← hE]; simp only [List.length_append, be_length, ha]; omega
        have d2 : E.drop 2 = ad.data.toList ++ (be wt 8 ++ r) := by rw [← hE]; exact drop_app (be_length _ _) _
        have d6 : E.drop 6 = be wt 8 ++ r := by rw [show E.drop 6 = (E.drop 2).drop 4 by rw [List.drop_drop], d2]; exact drop_app ha _
        have d14 : E.drop 14 = r := by rw [show E.drop 14 = (E.drop 6).drop 8 by rw [List.drop_drop], d6]; exact drop_app (be_length _ _) _
        show getP 1 E = _
        have g : getP 1 E = some (.bk (bv (E.take 2)) ((E.drop 2).take 4) (bv ((E.drop 6).take 8)), E.drop 14) := by simp [getP, hl]
        rw [g, d2, d6, d14, take_app ha, take_app (be_length _ _), ← hE, take_app (be_length _ _), bv_be' (by omega), bv_be' hw]
      · show actC 1 _ = _
        unfold actC ActL.C
        simp only [bs_of]
        rfl
    · exact num 2 rfl (by omega)
    · exact num 3 rfl (by omega)
    · have e0 : ActL.rest ⟨4, p, id, ad, wt, md, sm, ky, va, df, tl, ts, n, d⟩ = (zB p id ad 0 false false 0 false 0 0 n d && (wt == 0)) := rfl
      have e1 : ActL.fit ⟨4, p, id, ad, wt, md, sm, ky, va, df, tl, ts, n, d⟩ = byte3 md tl ts := rfl
      have e2 : ActL.body ⟨4, p, id, ad, wt, md, sm, ky, va, df, tl, ts, n, d⟩ = tunB md sm ky va df tl ts := rfl
      rw [e0, Bool.and_eq_true, beq_iff_eq] at hz
      rw [e1] at hf
      rw [e2] at hS
      obtain ⟨rfl, rfl, rfl, _, _, _, _, _, _, _, rfl, rfl⟩ := zB_true hz.1
      have hw := hz.2
      try simp only at hw
      subst hw
      obtain ⟨⟨M, rfl, hM, hMu⟩, ⟨T, rfl, hT, hTu⟩, ⟨Z, rfl, hZ, hZu⟩⟩ := byte3_nat hf
      refine ⟨4, tunB (M : Int) sm ky va df (T : Int) (Z : Int), .tun ⟨M, tbits sm ky df, va, T, Z⟩, ?_, by decide, ?_, ?_⟩
      · rw [hS]; rfl
      · intro r
        have hl : ¬ (tunB (M : Int) sm ky va df (T : Int) (Z : Int) ++ r).length < 8 := by rw [List.length_append, tunB_length]; omega
        have g : getP 4 (tunB (M : Int) sm ky va df (T : Int) (Z : Int) ++ r) = some (.tun (tunP (tunB (M : Int) sm ky va df (T : Int) (Z : Int) ++ r)), (tunB (M : Int) sm ky va df (T : Int) (Z : Int) ++ r).drop 8) := by unfold getP; rw [if_neg (by omega), if_neg (by omega), if_pos rfl, if_neg hl]
        show getP 4 _ = _
        rw [g, tunP_put hMu hTu hZu hM hT hZ h.va, drop_app (tunB_length _ _ _ _ _ _ _)]
      · show actC 4 _ = _
        obtain ⟨b1, b2, b4⟩ := tbits_bits sm ky df
        unfold actC ActL.C
        simp only [b1, b2, b4]
        rfl
    · exact num 5 rfl (by omega)
    · exact num 6 rfl (by omega)
    · exact num 7 rfl (by omega)
    · have e0 : ActL.rest ⟨8, p, id, ad, wt, md, sm, ky, va, df, tl, ts, n, d⟩ = (zB p id ad md sm ky va df tl ts 0 0 && (wt == 0)) := rfl
      have e1 : ActL.fit ⟨8, p, id, ad, wt, md, sm, ky, va, df, tl, ts, n, d⟩ = (fits n && fits d) := rfl
      have e2 : ActL.body ⟨8, p, id, ad, wt, md, sm, ky, va, df, tl, ts, n, d⟩ = be (u64 n) 2 ++ be (u64 d) 2 := rfl
      rw [e0, Bool.and_eq_true, beq_iff_eq] at hz
      rw [e1, Bool.and_eq_true] at hf
      rw [e2] at hS
      obtain ⟨rfl, rfl, rfl, rfl, rfl, rfl, hva, rfl, rfl, rfl, _, _⟩ := zB_true hz.1
      have hw := hz.2
      try simp only at hw
      subst hw
      have hv0 : va = 0 := by omega
      subst hv0
      obtain ⟨N, rfl, hN, hNu⟩ := fits_nat hf.1
      obtain ⟨D, rfl, hD, hDu⟩ := fits_nat hf.2
      refine ⟨8, be N 2 ++ be D 2, .mov N D, ?_, by decide, ?_, ?_⟩
      · rw [hS, hNu, hDu]; rfl
      · intro r
        have e : (be N 2 ++ be D 2 ++ r) = be N 2 ++ (be D 2 ++ r) := by simp only [List.append_assoc]
        rw [e]
        generalize hE : be N 2 ++ (be D 2 ++ r) = E
        have hl : ¬ E.length < 4 := by rw [← hE]; simp only [List.length_append, be_length]; omega
        have d2 : E.drop 2 = be D 2 ++ r := by rw [← hE]; exact drop_app (be_length _ _) _
        have d4 : E.drop 4 = r := by rw [show E.drop 4 = (E.drop 2).drop 2 by rw [List.drop_drop], d2]; exact drop_app (be_length _ _) _
        show getP 8 E = _
        have g : getP 8 E = some (.mov (bv (E.take 2)) (bv ((E.drop 2).take 2)), E.drop 4) := by simp [getP, hl]
        rw [g, d2, d4, take_app (be_length _ _), ← hE, take_app (be_length _ _), bv_be' (by omega), bv_be' (by omega)]
      · rfl
    · exact pkt 9 rfl (.inr rfl)
    · have e0 : ActL.rest ⟨10, p, id, ad, wt, md, sm, ky, va, df, tl, ts, n, d⟩ = (zB p id ad md sm ky va df tl ts n d && (wt == 0)) := rfl
      have e2 : ActL.body ⟨10, p, id, ad, wt, md, sm, ky, va, df, tl, ts, n, d⟩ = [] := rfl
      rw [e0, Bool.and_eq_true, beq_iff_eq] at hz
      rw [e2] at hS
      obtain ⟨rfl, rfl, rfl, rfl, rfl, rfl, hva, rfl, rfl, rfl, rfl, rfl⟩ := zB_true hz.1
      have hw := hz.2
      try simp only at hw
      subst hw
      have hv0 : va = 0 := by omega
      subst hv0
      refine ⟨10, [], .non, ?_, by decide, ?_, rfl⟩
      · rw [hS]; rfl
      · intro r; show getP 10 r = _; simp [getP]
end Go.Proofs.Ytmijfhfjhbckdaa
