import Derived.Test.YtfagkmmenfeppaaDoorStrictS
/- What was told, put again. -/
namespace Go.Proofs.YtfagkmmenfeppaaDoor
set_option maxRecDepth 100000
theorem put_len2 {s : Stm} {sl : Bool} {f : Fam} (hf : famN s.fam = some f) (hm : s.may f = true) (hl : (s.tail sl f).length ≤ 65535) : ∃ x, s.put sl = .ok x ∧ x.length = 16 + (s.tail sl f).length ∧ (sl = false → x = frameB s.cmd f (s.rest f)) ∧ s.check sl = 0 := by
  have htl : (s.tail sl f).length = (s.rest f).length + (if sl then 7 else 0) := by
    unfold Stm.tail; rw [List.length_append]; cases sl <;> rfl
  have hc : s.check sl = 0 := by
    unfold Stm.check
    rw [hf]
    show (if _ then _ else _) = _
    rw [if_neg (by rw [hm]; exact Bool.noConfusion), if_neg (by omega)]
  refine ⟨_, by unfold Stm.put; rw [if_pos hc, hf], ?_, ?_, hc⟩
  · have hb : (s.bytes sl f).length = 16 + (s.tail sl f).length := frameB_len s.cmd f (s.tail sl f)
    show (sealed sl (s.bytes sl f)).length = _
    unfold sealed
    cases sl with
    | false => exact hb
    | true =>
      show ((s.bytes true f).take _ ++ _).length = _
      rw [List.length_append, be_length, List.length_take, hb]; omega
  · rintro rfl
    show s.bytes false f = _
    have ht2 : s.tail false f = s.rest f := by unfold Stm.tail; simp
    show frameB s.cmd f (s.tail false f) = _
    rw [ht2]
theorem lead_facts {c d x y : UInt8} {Y : List UInt8} {loc : Bool} {f : Fam} {n : Nat} (h : leadE (c :: d :: x :: y :: Y) = .ok (loc, f, n)) : (c = 32 ∨ c = 33) ∧ loc = (c == 32) ∧ famOf d = some f ∧ n = bv [x, y] := by
  rw [leadE] at h
  by_cases h1 : c.toNat / 16 ≠ 2
  · rw [if_pos h1] at h; cases h
  · by_cases h2 : 2 ≤ c.toNat % 16
    · rw [if_neg h1, if_pos h2] at h; cases h
    · rw [if_neg h1, if_neg h2, leadT] at h
      have hc : c = 32 ∨ c = 33 := by
        have : c.toNat = 32 ∨ c.toNat = 33 := by omega
        rcases this with e | e
        · exact .inl (UInt8.toNat_inj.1 e)
        · exact .inr (UInt8.toNat_inj.1 e)
      split at h
      · cases h
      · rename_i f' hf
        rw [if_neg (by simp)] at h
        injection h with h
        injection h with q1 h
        injection h with q2 q3
        refine ⟨hc, ?_, by rw [hf, q2], q3.symm⟩
        rw [← q1]
        rcases hc with rfl | rfl <;> rfl
theorem tail_facts {b : List UInt8} {h h' : Hd} {l1 : List UInt8} {fs : List Fd} {a : Nat} (ht : tailE b h l1 = .ok (h', fs, a)) (hl : l1.length ≤ b.length) : h' = h ∧ goodF fs ∧ ((a = 0 ∧ l1 = fdB fs) ∨ (0 < a ∧ l1.length = (fdB fs).length + 7)) := by
  unfold tailE at ht
  generalize hF : flE l1.length b.length l1 [] 0 0 false = F at ht
  rcases F with c | ⟨fs', a', n⟩
  · cases ht
  · obtain ⟨_, gs, q2, q3, q4⟩ := flE_inv b.length _ _ _ _ _ _ _ _ _ (Nat.le_refl _) hl hF
    rw [List.nil_append] at q2
    subst q2
    have ht1 : (if 0 < a' then (if sealOk b a' n then (.ok (h, fs', a') : Except Nat (Hd × List Fd × Nat)) else .error 5) else .ok (h, fs', a')) = .ok (h', fs, a) := ht
    have hfin : h' = h ∧ fs' = fs ∧ a' = a := by
      split at ht1
      · split at ht1
        · injection ht1 with ht1
          injection ht1 with r1 r2
          injection r2 with r2 r3
          exact ⟨r1.symm, r2, r3⟩
        · cases ht1
      · injection ht1 with ht1
        injection ht1 with r1 r2
        injection r2 with r2 r3
        exact ⟨r1.symm, r2, r3⟩
    obtain ⟨r1, rfl, rfl⟩ := hfin
    exact ⟨r1, q3, by rcases q4 with q | ⟨_, q⟩; exact .inl q; exact .inr q⟩
theorem fdB_ge : ∀ (fs : List Fd), fs.length ≤ (fdB fs).length
  | [] => by simp
  | f :: fs => by
    have h1 := fdB_ge fs
    unfold fdB at h1 ⊢
    rw [List.flatMap_cons, List.length_append]
    simp only [List.length_append, be_length, List.length_cons]
    omega
theorem strict_law {l : List UInt8} {loc : Bool} {h : Hd} {fs : List Fd} {a m : Nat} (hg : getE l = .ok (loc, h, fs, a, m)) :
    ∃ x, (stmOf loc h fs).put (decide (0 < a)) = .ok x ∧ x.length ≤ m ∧ (loc = false → x.length = m) ∧ (loc = false → a = 0 → x = l.take m) ∧ (stmOf loc h fs).check (decide (0 < a)) = 0 ∧ (stmOf loc h fs).ok := by
  have hl := getE_sign hg
  obtain ⟨X, hX⟩ : ∃ X, X = l.drop 12 := ⟨_, rfl⟩
  rw [← hX] at hl
  subst hl
  rw [getE_gen] at hg
  generalize hL : leadE X = L at hg
  rcases L with c | ⟨loc', f, n⟩
  · cases hg
  · have hg1 : (if (X.drop 4).length < n then (.error 2 : Except Nat (Bool × Hd × List Fd × Nat × Nat)) else
      match follE ((signL ++ X).take (16 + n)) loc' f with
      | .error c => .error c
      | .ok (h, fs, a) => .ok (loc', h, fs, a, 16 + n)) = .ok (loc, h, fs, a, m) := hg
    obtain ⟨c, d, x0, y, Y, rfl, hY⟩ := leadE_form hL
    by_cases hlt : ((c :: d :: x0 :: y :: Y).drop 4).length < n
    · rw [if_pos hlt] at hg1; cases hg1
    · rw [if_neg hlt] at hg1
      have hYl : n ≤ Y.length := by simpa using hlt
      have e16 : (signL ++ (c :: d :: x0 :: y :: Y)).take (16 + n) = signL ++ (c :: d :: x0 :: y :: Y.take n) := by
        rw [show 16 + n = signL.length + (n + 4) from by show 16 + n = 12 + (n + 4); omega, List.take_length_add_append]; rfl
      generalize hF : follE ((signL ++ (c :: d :: x0 :: y :: Y)).take (16 + n)) loc' f = F at hg1
      rcases F with e | ⟨h', fs', a'⟩
      · cases hg1
      · injection hg1 with hg1
        obtain ⟨rfl, rfl, rfl, rfl, rfl⟩ : loc' = loc ∧ h' = h ∧ fs' = fs ∧ a' = a ∧ 16 + n = m := by simpa using hg1
        obtain ⟨hc, hloc, hfo, hn⟩ := lead_facts hL
        obtain ⟨hfm, hfd⟩ := famOf_in hfo
        rw [e16] at hF ⊢
        have hTl : (Y.take n).length = n := by rw [List.length_take]; omega
        have hdr : (signL ++ (c :: d :: x0 :: y :: Y.take n)).drop 16 = Y.take n := by
          rw [show 16 = 12 + 4 from rfl, ← List.drop_drop, List.drop_left' (show signL.length = 12 from rfl)]; rfl
        unfold follE at hF
        rw [hdr] at hF
        generalize hH : headE loc' f (Y.take n) = G at hF
        rcases G with e | ⟨h1, l1⟩
        · cases hF
        · have hF1 : tailE (signL ++ (c :: d :: x0 :: y :: Y.take n)) h1 l1 = .ok (h', fs', a') := hF
          have hbl : (signL ++ (c :: d :: x0 :: y :: Y.take n)).length = 16 + n := by simp [signL, hTl]; omega
          have hinv := headE_inv hH
          have hl1 : l1.length ≤ n := by
            rcases hinv with ⟨_, _, q⟩ | ⟨_, _, _, _, _, _, _, q⟩
            · rw [hTl] at q; exact q
            · have := congrArg List.length q
              rw [hTl, List.length_append] at this; omega
          obtain ⟨rfl, hgood, hcase⟩ := tail_facts hF1 (by rw [hbl]; omega)
          have hbvn : n < 65536 := by rw [hn]; exact bv_lt [x0, y]
          have hh : (loc' = true ∧ h' = (0, [], [], 0, 0)) ∨ (loc' = false ∧ h'.1 = f.1 ∧ h'.2.1.length = f.2.2 ∧ h'.2.2.1.length = f.2.2 ∧ h'.2.2.2.1 < 65536 ∧ h'.2.2.2.2 < 65536 ∧ (f.2.2 = 0 → h'.2.2.2.1 = 0 ∧ h'.2.2.2.2 = 0)) := by
            rcases hinv with ⟨q1, q2, _⟩ | ⟨q1, q2, q3, q4, q5, q6, q7, _⟩
            · exact .inl ⟨q1, q2⟩
            · exact .inr ⟨q1, q2, q3, q4, q5, q6, q7⟩
          obtain ⟨f', hf1, hf2, hf3, hf4, hf5⟩ := strict_may hfm hgood hh
          have hrest := stm_rest loc' h' fs' f'
          have hsl : ((stmOf loc' h' fs').tail (decide (0 < a')) f').length = ((stmOf loc' h' fs').rest f').length + (if 0 < a' then 7 else 0) := by
            unfold Stm.tail; rw [List.length_append]; by_cases q : 0 < a' <;> simp [q, sealL]
          have hfl : l1.length = (fdB fs').length + (if 0 < a' then 7 else 0) := by
            rcases hcase with ⟨q1, q2⟩ | ⟨q1, q2⟩
            · rw [q1, q2]; simp
            · rw [if_pos q1]; exact q2
          have hTn : (loc' = false → Y.take n = headB f.2.2 h'.2.1 h'.2.2.1 h'.2.2.2.1 h'.2.2.2.2 ++ l1) := by
            intro q
            rcases hinv with ⟨q1, _⟩ | ⟨_, _, _, _, _, _, _, q2⟩
            · rw [q] at q1; cases q1
            · exact q2
          have hlen : ((stmOf loc' h' fs').tail (decide (0 < a')) f').length ≤ n ∧ (loc' = false → ((stmOf loc' h' fs').tail (decide (0 < a')) f').length = n) := by
            rw [hsl, hrest, List.length_append]
            cases loc' with
            | true =>
              refine ⟨?_, fun q => by cases q⟩
              rw [hf5 rfl]
              have : (headB 0 h'.2.1 h'.2.2.1 h'.2.2.2.1 h'.2.2.2.2).length = 0 := rfl
              rw [this]
              omega
            | false =>
              have q := congrArg List.length (hTn rfl)
              rw [hTl, List.length_append] at q
              rw [hf4 rfl]
              exact ⟨by omega, fun _ => by omega⟩
          obtain ⟨x, hx1, hx2, hx3, hx4⟩ := put_len2 (sl := decide (0 < a')) hf1 hf2 (by have := hlen.1; omega)
          refine ⟨x, hx1, by have := hlen.1; omega, fun q => by have := hlen.2 q; omega, fun q1 q2 => ?_, hx4, ?_⟩
          rotate_left
          · have q1 := may_facts hf2
            have q2 : f'.2.2 ≤ 1000 := by
              simp [fams] at hf3
              rcases hf3 with rfl | rfl | rfl | rfl | rfl <;> decide
            have q3 := fdB_ge fs'
            refine ⟨?_, by have := q1.2.2.2.2.1; omega, by have := q1.2.2.2.2.2.1; omega, fun x hx => by have := (q1.2.2.2.2.2.2 x hx).2.2.2; omega⟩
            show (fs'.map castF).length ≤ _
            rw [List.length_map]; omega
          subst q1 q2
          obtain ⟨q3, q4⟩ : l1 = fdB fs' ∧ f' = f := by
            rcases hcase with ⟨_, q⟩ | ⟨q, _⟩
            · exact ⟨q, hf4 rfl⟩
            · omega
          subst q3 q4
          rw [hx3 rfl, hrest, ← hTn rfl]
          unfold frameB
          rw [hTl]
          have hcm : be (stmOf false h' fs').cmd 1 = [c] := by
            rcases hc with rfl | rfl
            · cases hloc
            · have : (stmOf false h' fs').cmd = 33 := if_neg (by exact Bool.noConfusion)
              rw [this]; rfl
          have hb2 : be n 2 = [x0, y] := by
            rw [hn]
            exact (take_be [x0, y]).symm
          have hbd : be f'.2.1 1 = [d] := by
            show [UInt8.ofNat _] = _
            rw [hfd]
          rw [hcm, hb2, hbd]
          simp
end Go.Proofs.YtfagkmmenfeppaaDoor
