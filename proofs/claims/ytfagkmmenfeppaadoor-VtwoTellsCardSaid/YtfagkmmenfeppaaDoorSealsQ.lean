import Derived.Test.YtfagkmmenfeppaaDoorSealsP
/- One bit of a sealed header changed: what Get says. -/
namespace Go.Proofs.YtfagkmmenfeppaaDoor
set_option maxRecDepth 100000
open Crc (flip bitAt)
theorem tail_bad (b : List UInt8) (h : Hd) (S : List UInt8) (hS : S.length = 4) (hbl : 4 < b.length) (hb : (Crc.sum (b.take (b.length - 4) ++ [0, 0, 0, 0])).toNat ≠ bv S) : tailE b h ([3, 0, 4] ++ S) = .error 5 := by
  have hl : ([3, 0, 4] ++ S).length = 6 + 1 := by rw [List.length_append, hS]; rfl
  unfold tailE
  rw [hl, flE_seal' 6 b.length S hS]
  show (if _ then _ else _) = _
  rw [if_pos (by omega)]
  have : sealOk b (b.length - 4) (bv S) = false := by
    unfold sealOk
    rw [Nat.sub_add_cancel (by omega), List.drop_length, List.append_nil]
    exact decide_eq_false hb
  rw [this]; rfl
theorem getE_gen (R : List UInt8) : getE (signL ++ R) = match leadE R with
    | .error c => .error c
    | .ok (loc, f, n) => if (R.drop 4).length < n then .error 2 else
      match follE ((signL ++ R).take (16 + n)) loc f with
      | .error c => .error c
      | .ok (h, fs, a) => .ok (loc, h, fs, a, 16 + n) := by
  have hs : signL.length = 12 := rfl
  have e1 : min (signL ++ R).length 12 = 12 := by rw [List.length_append, hs]; omega
  have e2 : (signL ++ R).take 12 = signL := List.take_left' hs
  have e3 : (signL ++ R).drop 12 = R := List.drop_left' hs
  have e4 : (signL ++ R).drop 16 = R.drop 4 := by rw [show 16 = 12 + 4 from rfl, ← List.drop_drop, e3]
  unfold getE
  rw [e1, e2, if_neg (by decide), if_neg (by rw [List.length_append, hs]; omega), e3, e4]
  generalize leadE R = z
  rcases z with c | ⟨loc, f, n⟩
  · rfl
  · show (if _ then _ else _) = (if _ then _ else _)
    split
    · rfl
    · generalize follE ((signL ++ R).take (16 + n)) loc f = y
      rcases y with c | ⟨h, fs, a⟩ <;> rfl
/-- the sign changed -/
theorem get_sign (g R : List UInt8) (hg : g.length = 12) (hne : g ≠ signL) : getE (g ++ R) = .error 13 := by
  have e1 : min (g ++ R).length 12 = 12 := by rw [List.length_append, hg]; omega
  unfold getE
  rw [e1, List.take_left' hg, if_pos]
  exact fun h => hne h
theorem set_ne {l : List UInt8} {k : Nat} {x : UInt8} (h : k < l.length) (hx : x ≠ l[k]) : l.set k x ≠ l := fun he => by
  have : (l.set k x)[k]? = l[k]? := by rw [he]
  rw [List.getElem?_set_self h, List.getElem?_eq_getElem h] at this
  exact hx (Option.some.inj this)
theorem cmd_bit (c : UInt8) (hc : c = 32 ∨ c = 33) (j : Nat) (hj : j < 8) : (c ^^^ bitAt j).toNat / 16 ≠ 2 ∨ 2 ≤ (c ^^^ bitAt j).toNat % 16 ∨ c ^^^ bitAt j = 32 ∨ c ^^^ bitAt j = 33 := by
  have h1 : ∀ j : Fin 8, ((32 : UInt8) ^^^ bitAt j.val).toNat / 16 ≠ 2 ∨ 2 ≤ ((32 : UInt8) ^^^ bitAt j.val).toNat % 16 ∨ (32 : UInt8) ^^^ bitAt j.val = 32 ∨ (32 : UInt8) ^^^ bitAt j.val = 33 := by decide +kernel
  have h2 : ∀ j : Fin 8, ((33 : UInt8) ^^^ bitAt j.val).toNat / 16 ≠ 2 ∨ 2 ≤ ((33 : UInt8) ^^^ bitAt j.val).toNat % 16 ∨ (33 : UInt8) ^^^ bitAt j.val = 32 ∨ (33 : UInt8) ^^^ bitAt j.val = 33 := by decide +kernel
  rcases hc with rfl | rfl
  · exact h1 ⟨j, hj⟩
  · exact h2 ⟨j, hj⟩
theorem fam_bit {f : Fam} (hf : f ∈ fams) (j : Nat) (hj : j < 8) : famOf (UInt8.ofNat (f.2.1 / 256 ^ 0 % 256) ^^^ bitAt j) = none := by
  have h : ∀ (j : Fin 8), famOf (UInt8.ofNat (0 / 256 ^ 0 % 256) ^^^ bitAt j.val) = none ∧ famOf (UInt8.ofNat (17 / 256 ^ 0 % 256) ^^^ bitAt j.val) = none ∧ famOf (UInt8.ofNat (18 / 256 ^ 0 % 256) ^^^ bitAt j.val) = none ∧ famOf (UInt8.ofNat (33 / 256 ^ 0 % 256) ^^^ bitAt j.val) = none ∧ famOf (UInt8.ofNat (34 / 256 ^ 0 % 256) ^^^ bitAt j.val) = none := by decide +kernel
  obtain ⟨a, b, c, d, e⟩ := h ⟨j, hj⟩
  simp [fams] at hf
  rcases hf with rfl | rfl | rfl | rfl | rfl
  · exact a
  · exact b
  · exact c
  · exact d
  · exact e
/-- the CRC sees it -/
theorem crc_sees (A S : List UInt8) (p : Nat) (hp : p / 8 < A.length) (hc : bv S = (Crc.sum (A ++ [0, 0, 0, 0])).toNat) : (Crc.sum ((flip A p) ++ [0, 0, 0, 0])).toNat ≠ bv S := by
  have e : flip A p ++ [0, 0, 0, 0] = flip (A ++ [0, 0, 0, 0]) p := by
    unfold Crc.flip
    rw [List.set_append, if_pos hp, List.getD_eq_getElem?_getD, List.getD_eq_getElem?_getD, List.getElem?_append_left hp]
  rw [e, hc]
  intro h
  exact Crc.flips1 (A ++ [0, 0, 0, 0]) p (by rw [List.length_append]; simp; omega) (BitVec.eq_of_toNat_eq h)
theorem put_seal2 {s : Stm} {l : List UInt8} (hfs : s.fs = []) (h : s.put true = .ok l) : ∃ (f : Fam) (S : List UInt8), f ∈ fams ∧ s.may f = true ∧ S.length = 4 ∧
    l = frameB s.cmd f (headB f.2.2 s.src s.dst s.sp.toNat s.dp.toNat ++ ([3, 0, 4] ++ S)) ∧ bv S = (Crc.sum (l.take (l.length - 4) ++ [0, 0, 0, 0])).toNat ∧ (headB f.2.2 s.src s.dst s.sp.toNat s.dp.toNat ++ ([3, 0, 4] ++ S)).length < 65536 := by
  unfold Stm.put at h
  by_cases hc : s.check true = 0
  · obtain ⟨f, hf, hm, ht⟩ := check_zero hc
    rw [if_pos hc, hf] at h
    injection h with h
    have hr : s.rest f = headB f.2.2 s.src s.dst s.sp.toNat s.dp.toNat := by unfold Stm.rest; rw [hfs]; simp [fdB]
    have h' : sealed true (frameB s.cmd f (s.rest f ++ sealL)) = l := h
    rw [sealed_frame, hr] at h'
    have ht2 : s.tail true f = s.rest f ++ sealL := rfl
    rw [ht2, hr] at ht
    refine ⟨f, ?_⟩
    generalize headB f.2.2 s.src s.dst s.sp.toNat s.dp.toNat = H at *
    obtain ⟨cv, hcv⟩ : ∃ c, c = (Crc.sum (frameB s.cmd f (H ++ sealL))).toNat := ⟨_, rfl⟩
    rw [← hcv] at h'
    have hcv2 : cv < 256 ^ 4 := by rw [hcv]; exact (Crc.sum _).isLt
    refine ⟨be cv 4, famN_mem hf, hm, be_length _ _, h'.symm, ?_, ?_⟩
    · rw [bv_be' hcv2, hcv, ← h', seal_split _ _ _ _ (be_length _ _), take_add _ _ 4 (be_length _ _), seal_eq, seal_split _ _ _ _ (show ([0, 0, 0, 0] : List UInt8).length = 4 from rfl)]
    · rw [seal_eq] at ht; simp only [List.length_append, be_length] at ht ⊢; simp at ht ⊢; omega
  · rw [if_neg hc] at h; cases h
theorem head_same (f : Fam) (hz : 0 < f.2.2) (H l : List UInt8) (hH : H.length = 2 * f.2.2 + 4) (loc : Bool) : ∃ h, headE loc f (H ++ l) = .ok (h, l) := by
  have e : ((((H ++ l).drop f.2.2).drop f.2.2).drop 2).drop 2 = l := by
    rw [List.drop_drop, List.drop_drop, List.drop_drop, show f.2.2 + (f.2.2 + (2 + 2)) = H.length from by omega, List.drop_left]
  unfold headE
  rw [if_pos hz, if_neg (by rw [List.length_append]; omega), e]
  exact ⟨_, rfl⟩
theorem head_len (f : Fam) (src dst : List UInt8) (sp dp : Nat) (h1 : src.length = f.2.2) (h2 : dst.length = f.2.2) : (headB f.2.2 src dst sp dp).length = if 0 < f.2.2 then 2 * f.2.2 + 4 else 0 := by
  unfold headB
  split
  · simp only [List.length_append, be_length]; omega
  · rfl
/-- however the head reads, what follows it is the rest -/
theorem head_any (f : Fam) (H l : List UInt8) (hH : H.length = if 0 < f.2.2 then 2 * f.2.2 + 4 else 0) (loc : Bool) : ∃ h, headE loc f (H ++ l) = .ok (h, l) := by
  by_cases hz : 0 < f.2.2
  · rw [if_pos hz] at hH
    exact head_same f hz H l hH loc
  · rw [if_neg hz] at hH
    obtain rfl := List.length_eq_zero_iff.1 hH
    unfold headE
    rw [if_neg hz]
    exact ⟨_, rfl⟩
/-- a tail cut off: a seal is never seen -/
theorem head_cut (f : Fam) (H S : List UInt8) (hH : H.length = if 0 < f.2.2 then 2 * f.2.2 + 4 else 0) (hS : S.length = 4) (loc : Bool) (n : Nat) (hn : n < H.length + 7) (b : List UInt8) (r : Hd × List Fd × Nat)
    (h : (match headE loc f ((H ++ ([3, 0, 4] ++ S)).take n) with | .error e => (.error e : Except Nat (Hd × List Fd × Nat)) | .ok (h, l) => tailE b h l) = .ok r) : r.2.2 = 0 := by
  by_cases hlt : n < H.length
  · exfalso
    have hz : 0 < f.2.2 := by
      by_cases hz : 0 < f.2.2
      · exact hz
      · rw [if_neg hz] at hH; omega
    rw [if_pos hz] at hH
    have : headE loc f ((H ++ ([3, 0, 4] ++ S)).take n) = .error 4 := by
      unfold headE
      rw [if_pos hz, if_pos (by rw [List.length_take]; omega)]
    rw [this] at h; cases h
  · obtain ⟨q, rfl⟩ : ∃ q, n = H.length + q := ⟨n - H.length, by omega⟩
    have e : (H ++ ([3, 0, 4] ++ S)).take (H.length + q) = H ++ ([3, 0, 4] ++ S).take q := by rw [List.take_length_add_append]
    obtain ⟨hh, he⟩ := head_any f H (([3, 0, 4] ++ S).take q) hH loc
    rw [e, he] at h
    have h' : tailE b hh (([3, 0, 4] ++ S).take q) = .ok r := h
    unfold tailE at h'
    generalize hF : flE (([3, 0, 4] ++ S).take q).length b.length (([3, 0, 4] ++ S).take q) [] 0 0 false = F at h'
    rcases F with c | ⟨fs, a, m⟩
    · cases h'
    · have ha := flE_cut _ _ q S (by omega) hS fs a m hF
      subst ha
      simp at h'
      rw [← h']
end Go.Proofs.YtfagkmmenfeppaaDoor
