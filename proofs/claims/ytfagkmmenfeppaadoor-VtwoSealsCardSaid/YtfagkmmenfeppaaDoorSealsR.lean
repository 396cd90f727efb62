import Derived.Test.YtfagkmmenfeppaaDoorSealsQ
/- One bit of a sealed header changed: the law. -/
namespace Go.Proofs.YtfagkmmenfeppaaDoor
set_option maxRecDepth 100000
open Crc (bitAt)
/-- the seal does not fit: refused -/
theorem foll_bad (b : List UInt8) (f : Fam) (H S : List UInt8) (loc : Bool) (hb : b.drop 16 = H ++ ([3, 0, 4] ++ S)) (hH : H.length = if 0 < f.2.2 then 2 * f.2.2 + 4 else 0) (hS : S.length = 4) (hbl : 4 < b.length) (hc : (Crc.sum (b.take (b.length - 4) ++ [0, 0, 0, 0])).toNat ≠ bv S) : follE b loc f = .error 5 := by
  obtain ⟨h, he⟩ := head_any f H ([3, 0, 4] ++ S) hH loc
  unfold follE
  rw [hb, he]
  exact tail_bad b h S hS hbl hc
theorem seals_law (s : Stm) (hfs : s.fs = []) {l : List UInt8} (h : s.put true = .ok l) (p : Nat) (hp : p < 8 * l.length) {r : Bool × Hd × List Fd × Nat × Nat} (hg : getE (Crc.flip l p) = .ok r) :
    r.2.2.2.1 = 0 ∧ (p / 8 = l.length - 7 ∨ p / 8 = 14 ∨ p / 8 = 15) := by
  obtain ⟨f, S, hf, hm, hS, hl, hcv, hT⟩ := put_seal2 hfs h
  obtain ⟨m1, m2, m3, m4, m5, m6, m7⟩ := may_facts hm
  obtain ⟨H, hHe⟩ : ∃ H, H = headB f.2.2 s.src s.dst s.sp.toNat s.dp.toNat := ⟨_, rfl⟩
  have hHl : H.length = if 0 < f.2.2 then 2 * f.2.2 + 4 else 0 := by rw [hHe]; exact head_len f _ _ _ _ m5 m6
  rw [← hHe] at hl hT
  have hTl : (H ++ ([3, 0, 4] ++ S)).length = H.length + 7 := by simp only [List.length_append, hS]; simp
  have hll : l.length = 16 + (H.length + 7) := by rw [hl, frameB_len, hTl]
  obtain ⟨c, hc⟩ : ∃ c, c = UInt8.ofNat (s.cmd / 256 ^ 0 % 256) := ⟨_, rfl⟩
  obtain ⟨d, hd⟩ : ∃ d, d = UInt8.ofNat (f.2.1 / 256 ^ 0 % 256) := ⟨_, rfl⟩
  obtain ⟨n1, hn1⟩ : ∃ d, d = UInt8.ofNat ((H ++ ([3, 0, 4] ++ S)).length / 256 ^ 1 % 256) := ⟨_, rfl⟩
  obtain ⟨n2, hn2⟩ : ∃ d, d = UInt8.ofNat ((H ++ ([3, 0, 4] ++ S)).length / 256 ^ 0 % 256) := ⟨_, rfl⟩
  have hcc : c = 32 ∨ c = 33 := by rw [hc]; rcases cmd_or s with e | e <;> rw [e]; exact .inl rfl; exact .inr rfl
  have hR : l = signL ++ (c :: d :: n1 :: n2 :: (H ++ ([3, 0, 4] ++ S))) := by
    rw [hl, frameB_eq, hc, hd, hn1, hn2]; rfl
  have hbn : bv [n1, n2] = H.length + 7 := by
    rw [← hTl]
    have e : [n1, n2] = be (H ++ ([3, 0, 4] ++ S)).length 2 := by rw [hn1, hn2]; rfl
    rw [e]; exact bv_be' (by omega)
  have hfo : famOf d = some f := by rw [hd]; exact famOf_mem hf
  obtain ⟨x, hfl, hk, hx, hxne⟩ := flip_set l p hp
  have hflen : (Crc.flip l p).length = l.length := Crc.flip_length l p
  have hL : ∀ (c' : UInt8) (X : List UInt8), (c' = 32 ∨ c' = 33) → leadE (c' :: X) = leadT (c'.toNat % 16) X := fun c' X hc' => by rcases hc' with rfl | rfl <;> rfl
  have hT4 : ∀ k (a b : UInt8) (X : List UInt8), leadT k (d :: a :: b :: X) = .ok (k == 0, f, bv [a, b]) := fun k a b X => by
    rw [leadT, hfo]
    show (if _ then _ else _) = _
    rw [if_neg (by simp)]; rfl
  -- where the seal is not reached, the CRC tells
  have hcrc : p / 8 < l.length - 4 → (Crc.sum ((Crc.flip l p).take ((Crc.flip l p).length - 4) ++ [0, 0, 0, 0])).toNat ≠ bv S := fun hlt => by
    have e : (Crc.flip l p).take ((Crc.flip l p).length - 4) = Crc.flip (l.take (l.length - 4)) p := by
      rw [hflen]
      unfold Crc.flip
      rw [List.take_set, List.getD_eq_getElem?_getD, List.getD_eq_getElem?_getD, List.getElem?_take, if_pos hlt]
    rw [e]
    exact crc_sees _ S p (by rw [List.length_take]; omega) hcv
  have hgo : ∀ (c' a b : UInt8) (T' : List UInt8), (c' = 32 ∨ c' = 33) → bv [a, b] = T'.length → getE (signL ++ (c' :: d :: a :: b :: T')) = match follE (signL ++ (c' :: d :: a :: b :: T')) (c'.toNat % 16 == 0) f with
      | .error c => .error c
      | .ok (h, fs, a) => .ok (c'.toNat % 16 == 0, h, fs, a, 16 + T'.length) := fun c' a b T' hc' hb => by
    rw [getE_gen, hL c' _ hc', hT4, hb]
    show (if _ then _ else _) = _
    rw [if_neg (by show ¬ T'.length < T'.length; omega), List.take_of_length_le (by rw [List.length_append]; simp [signL]; omega)]
    generalize follE (signL ++ (c' :: d :: a :: b :: T')) (c'.toNat % 16 == 0) f = z
    rcases z with c | ⟨h, fs, a⟩ <;> rfl
  have hdr : ∀ (c' d' a b : UInt8) (T' : List UInt8), (signL ++ (c' :: d' :: a :: b :: T')).drop 16 = T' := fun c' d' a b T' => by
    rw [show 16 = 12 + 4 from rfl, ← List.drop_drop, List.drop_left' (show signL.length = 12 from rfl)]; rfl
  have hcut : ∀ (a b : UInt8), bv [a, b] ≠ H.length + 7 → getE (signL ++ (c :: d :: a :: b :: (H ++ ([3, 0, 4] ++ S)))) = .ok r → r.2.2.2.1 = 0 := fun a b hne hg => by
    rw [getE_gen, hL c _ hcc, hT4] at hg
    have hg' : (if (H ++ ([3, 0, 4] ++ S)).length < bv [a, b] then (.error 2 : Except Nat (Bool × Hd × List Fd × Nat × Nat)) else
      match follE ((signL ++ (c :: d :: a :: b :: (H ++ ([3, 0, 4] ++ S)))).take (16 + bv [a, b])) (c.toNat % 16 == 0) f with
      | .error c => .error c
      | .ok (h, fs, a') => .ok (c.toNat % 16 == 0, h, fs, a', 16 + bv [a, b])) = .ok r := hg
    by_cases hlt : (H ++ ([3, 0, 4] ++ S)).length < bv [a, b]
    · rw [if_pos hlt] at hg'; cases hg'
    · rw [if_neg hlt] at hg'
      rw [hTl] at hlt
      generalize hF : follE ((signL ++ (c :: d :: a :: b :: (H ++ ([3, 0, 4] ++ S)))).take (16 + bv [a, b])) (c.toNat % 16 == 0) f = F at hg'
      rcases F with e | ⟨h, fs, a'⟩
      · cases hg'
      · unfold follE at hF
        rw [List.drop_take, hdr, Nat.add_sub_cancel_left] at hF
        have := head_cut f H S hHl hS _ (bv [a, b]) (by omega) _ _ hF
        injection hg' with hg'
        rw [← hg']; exact this
  by_cases h12 : p / 8 < 12
  · exfalso
    have hs12 : p / 8 < signL.length := h12
    have e : Crc.flip l p = signL.set (p / 8) x ++ (c :: d :: n1 :: n2 :: (H ++ ([3, 0, 4] ++ S))) := by
      rw [hfl, hR, List.set_append, if_pos hs12]
    have e2 : l[p / 8]? = signL[p / 8]? := by rw [hR, List.getElem?_append_left hs12]
    have hne : x ≠ signL[p / 8] := fun he => hxne (by
      rw [he]
      rw [List.getElem?_eq_getElem hk, List.getElem?_eq_getElem hs12] at e2
      exact (Option.some.inj e2).symm)
    rw [e, get_sign _ _ (by rw [List.length_set]; rfl) (set_ne hs12 hne)] at hg
    cases hg
  · obtain ⟨q, hq⟩ : ∃ q, p / 8 = q + 12 := ⟨p / 8 - 12, by omega⟩
    have e : Crc.flip l p = signL ++ (c :: d :: n1 :: n2 :: (H ++ ([3, 0, 4] ++ S))).set q x := by
      rw [hfl, hR, List.set_append, if_neg (show ¬ p / 8 < signL.length from h12), show p / 8 - signL.length = q from by rw [hq]; rfl]
    have hat : l[p / 8]? = (c :: d :: n1 :: n2 :: (H ++ ([3, 0, 4] ++ S)))[q]? := by
      rw [hR, List.getElem?_append_right (by rw [hq]; show 12 ≤ q + 12; omega), hq]; rfl
    rw [List.getElem?_eq_getElem hk] at hat
    match q, hq with
    | 0, hq =>
      exfalso
      have hxc : x = c ^^^ bitAt (p % 8) := by rw [hx]; congr 1; exact Option.some.inj hat
      have e' : Crc.flip l p = signL ++ (x :: d :: n1 :: n2 :: (H ++ ([3, 0, 4] ++ S))) := e
      have hbad : ∀ loc, follE (Crc.flip l p) loc f = .error 5 := fun loc =>
        foll_bad _ f H S loc (by rw [e', hdr]) hHl hS (by rw [hflen]; omega) (hcrc (by omega))
      have hyes : (x = 32 ∨ x = 33) → False := fun hx2 => by
        rw [e', hgo x n1 n2 _ hx2 (by rw [hbn, hTl]), ← e', hbad] at hg
        cases hg
      rcases cmd_bit c hcc (p % 8) (by omega) with h1 | h1 | h1 | h1
      · rw [← hxc] at h1
        rw [e', getE_gen, leadE, if_pos h1] at hg; cases hg
      · rw [← hxc] at h1
        rw [e', getE_gen, leadE] at hg
        by_cases h3 : x.toNat / 16 ≠ 2
        · rw [if_pos h3] at hg; cases hg
        · rw [if_neg h3, if_pos h1] at hg; cases hg
      · exact hyes (.inl (by rw [hxc, h1]))
      · exact hyes (.inr (by rw [hxc, h1]))
    | 1, hq =>
      exfalso
      have hxd : x = d ^^^ bitAt (p % 8) := by rw [hx]; congr 1; exact Option.some.inj hat
      have e' : Crc.flip l p = signL ++ (c :: x :: n1 :: n2 :: (H ++ ([3, 0, 4] ++ S))) := e
      have hno : famOf x = none := by rw [hxd, hd]; exact fam_bit hf _ (by omega)
      rw [e', getE_gen, hL c _ hcc, leadT, hno] at hg
      cases hg
    | 2, hq =>
      have hxn : x ≠ n1 := fun he => hxne (by rw [he]; exact (Option.some.inj hat).symm)
      have e' : Crc.flip l p = signL ++ (c :: d :: x :: n2 :: (H ++ ([3, 0, 4] ++ S))) := e
      rw [e'] at hg
      refine ⟨hcut x n2 (fun hb => ?_) hg, .inr (.inl (by omega))⟩
      have := bv_inj [x, n2] [n1, n2] rfl (by rw [hb, hbn])
      injection this with this _
      exact hxn this
    | 3, hq =>
      have hxn : x ≠ n2 := fun he => hxne (by rw [he]; exact (Option.some.inj hat).symm)
      have e' : Crc.flip l p = signL ++ (c :: d :: n1 :: x :: (H ++ ([3, 0, 4] ++ S))) := e
      rw [e'] at hg
      refine ⟨hcut n1 x (fun hb => ?_) hg, .inr (.inr (by omega))⟩
      have := bv_inj [n1, x] [n1, n2] rfl (by rw [hb, hbn])
      injection this with _ this
      injection this with this _
      exact hxn this
    | m + 4, hq =>
      have e' : Crc.flip l p = signL ++ (c :: d :: n1 :: n2 :: (H ++ ([3, 0, 4] ++ S)).set m x) := e
      have hat' : some l[p / 8] = (H ++ ([3, 0, 4] ++ S))[m]? := hat
      have hgt := hgo c n1 n2 ((H ++ ([3, 0, 4] ++ S)).set m x) hcc (by rw [hbn, List.length_set, hTl])
      rw [e', hgt] at hg
      by_cases c1 : m < H.length
      · exfalso
        have e2 : (H ++ ([3, 0, 4] ++ S)).set m x = H.set m x ++ ([3, 0, 4] ++ S) := by rw [List.set_append, if_pos c1]
        rw [← e', foll_bad _ f (H.set m x) S _ (by rw [e', hdr, e2]) (by rw [List.length_set]; exact hHl) hS (by rw [hflen]; omega) (hcrc (by omega))] at hg
        cases hg
      · have e2 : (H ++ ([3, 0, 4] ++ S)).set m x = H ++ ([3, 0, 4] ++ S).set (m - H.length) x := by rw [List.set_append, if_neg c1]
        obtain ⟨i, hi⟩ : ∃ i, i = m - H.length := ⟨_, rfl⟩
        rw [List.getElem?_append_right (by omega), ← hi] at hat'
        rw [← hi] at e2
        have hfo2 : ∀ (X : List UInt8) (y : Except Nat (List Fd × Nat × Nat)), ([3, 0, 4] ++ S).set i x = X → X.length = 7 → flE (6 + 1) (Crc.flip l p).length X [] 0 0 false = y → ∀ loc, ∃ h, follE (Crc.flip l p) loc f = (match y with
          | .error e => .error e
          | .ok (fs, a, n) => if 0 < a then (if sealOk (Crc.flip l p) a n then .ok (h, fs, a) else .error 5) else .ok (h, fs, a)) := fun X y hX hX7 hy loc => by
          obtain ⟨h, he⟩ := head_any f H X hHl loc
          refine ⟨h, ?_⟩
          unfold follE
          rw [show (Crc.flip l p).drop 16 = H ++ X from by rw [e', hdr, e2, hX], he]
          show tailE _ _ _ = _
          unfold tailE
          rw [hX7, hy]
          rcases y with c | ⟨fs, a, n⟩ <;> rfl
        have hcases : i = 0 ∨ i = 1 ∨ i = 2 ∨ ∃ j, i = j + 3 := by
          by_cases h3 : i < 3
          · omega
          · exact .inr (.inr (.inr ⟨i - 3, by omega⟩))
        rcases hcases with h0 | h0 | h0 | ⟨j, h0⟩ <;> rw [h0] at hat' e2 hfo2 hi
        · skip
          have hx3 : x ≠ 3 := fun he => hxne (by rw [he]; exact (Option.some.inj hat').symm)
          generalize hy : flE (6 + 1) (Crc.flip l p).length (x :: 0 :: 4 :: S) [] 0 0 false = y
          obtain ⟨h, hf2⟩ := hfo2 (x :: 0 :: 4 :: S) y rfl (by simp [hS]) hy (c.toNat % 16 == 0)
          rw [← e', hf2] at hg
          rcases y with e3 | ⟨fs, a, n⟩
          · cases hg
          · have ha := flE_typ 6 _ x S hS hx3 fs a n hy
            subst ha
            have hg2 : (Except.ok (c.toNat % 16 == 0, h, fs, 0, 16 + ((H ++ ([3, 0, 4] ++ S)).set m x).length) : Except Nat (Bool × Hd × List Fd × Nat × Nat)) = .ok r := hg
            injection hg2 with hg2
            exact ⟨by rw [← hg2], .inl (by omega)⟩
        · exfalso
          have hx0 : x ≠ 0 := fun he => hxne (by rw [he]; exact (Option.some.inj hat').symm)
          obtain ⟨h, hf2⟩ := hfo2 (3 :: x :: 4 :: S) _ rfl (by simp [hS]) (flE_len1 6 _ x S hS hx0) (c.toNat % 16 == 0)
          rw [← e', hf2] at hg
          cases hg
        · exfalso
          have hx4 : x ≠ 4 := fun he => hxne (by rw [he]; exact (Option.some.inj hat').symm)
          obtain ⟨h, hf2⟩ := hfo2 (3 :: 0 :: x :: S) _ rfl (by simp [hS]) (flE_len2 6 _ x S hS hx4) (c.toNat % 16 == 0)
          rw [← e', hf2] at hg
          cases hg
        · exfalso
          have hj : j < S.length := by omega
          have hxj : x ≠ S[j] := fun he => hxne (by
            have hat2 : some l[p / 8] = S[j]? := hat'
            rw [List.getElem?_eq_getElem hj] at hat2
            rw [he]; exact (Option.some.inj hat2).symm)
          have e3 : (Crc.flip l p).drop 16 = H ++ ([3, 0, 4] ++ S.set j x) := by rw [e', hdr, e2]; rfl
          have e4 : (Crc.flip l p).take ((Crc.flip l p).length - 4) = l.take (l.length - 4) := by
            rw [hflen, hfl, List.take_set, List.set_eq_of_length_le (by rw [List.length_take]; omega)]
          rw [← e', foll_bad _ f H (S.set j x) _ e3 hHl (by rw [List.length_set]; exact hS) (by rw [hflen]; omega) (by
            rw [e4, ← hcv]
            intro hb
            exact set_ne hj hxj (bv_inj _ _ (by rw [List.length_set]) hb.symm))] at hg
          cases hg
end Go.Proofs.YtfagkmmenfeppaaDoor
