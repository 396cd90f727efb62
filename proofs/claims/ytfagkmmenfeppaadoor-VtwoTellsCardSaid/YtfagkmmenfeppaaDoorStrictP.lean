import Derived.Test.YtfagkmmenfeppaaDoorSealsQ
/- What is got, got again from its own bytes: in plain Lean. -/
namespace Go.Proofs.YtfagkmmenfeppaaDoor
set_option maxRecDepth 100000
theorem leadT_form {k : Nat} {X : List UInt8} {r : Bool × Fam × Nat} (h : leadT k X = .ok r) : ∃ d a b Y, X = d :: a :: b :: Y ∧ ∀ Y', leadT k (d :: a :: b :: Y') = .ok r := by
  match X, h with
  | [], h => cases h
  | [d], h =>
    rw [leadT] at h
    split at h
    · cases h
    · rw [if_pos (by simp)] at h; cases h
  | [d, a], h =>
    rw [leadT] at h
    split at h
    · cases h
    · rw [if_pos (by simp)] at h; cases h
  | d :: a :: b :: Y, h =>
    refine ⟨d, a, b, Y, rfl, fun Y' => ?_⟩
    rw [leadT] at h ⊢
    split at h
    · cases h
    · rename_i f hf
      rw [if_neg (by simp)] at h
      rw [if_neg (by simp), ← h]
      rfl
theorem leadE_form {X : List UInt8} {r : Bool × Fam × Nat} (h : leadE X = .ok r) : ∃ c d a b Y, X = c :: d :: a :: b :: Y ∧ ∀ Y', leadE (c :: d :: a :: b :: Y') = .ok r := by
  match X, h with
  | [], h => cases h
  | c :: X, h =>
    rw [leadE] at h
    by_cases h1 : c.toNat / 16 ≠ 2
    · rw [if_pos h1] at h; cases h
    · by_cases h2 : 2 ≤ c.toNat % 16
      · rw [if_neg h1, if_pos h2] at h; cases h
      · rw [if_neg h1, if_neg h2] at h
        obtain ⟨d, a, b, Y, rfl, hY⟩ := leadT_form h
        exact ⟨c, d, a, b, Y, rfl, fun Y' => by rw [leadE, if_neg h1, if_neg h2]; exact hY Y'⟩
/-- what begins as it should -/
theorem getE_sign {l : List UInt8} {r : Bool × Hd × List Fd × Nat × Nat} (hg : getE l = .ok r) : l = signL ++ l.drop 12 := by
  have hs : signL.length = 12 := rfl
  unfold getE at hg
  by_cases h1 : l.take (min l.length 12) ≠ signL.take (min l.length 12)
  · rw [if_pos h1] at hg; cases hg
  · rw [if_neg h1] at hg
    by_cases h2 : l.length < 12
    · rw [if_pos h2] at hg; cases hg
    · have h3 : min l.length 12 = 12 := by omega
      rw [h3] at h1
      have h4 : l.take 12 = signL := by
        have := Decidable.not_not.1 h1
        rw [this]; exact List.take_of_length_le (by rw [hs]; omega)
      rw [← h4, List.take_append_drop]
/-- what was got is got again from its own bytes, whatever stands behind -/
theorem get_again {l : List UInt8} {loc : Bool} {h : Hd} {fs : List Fd} {a m : Nat} (hg : getE l = .ok (loc, h, fs, a, m)) (R : List UInt8) : 16 ≤ m ∧ m ≤ l.length ∧ getE (l.take m ++ R) = .ok (loc, h, fs, a, m) := by
  have hl := getE_sign hg
  obtain ⟨X, hX⟩ : ∃ X, X = l.drop 12 := ⟨_, rfl⟩
  rw [← hX] at hl
  subst hl
  rw [getE_gen] at hg
  generalize hL : leadE X = L at hg
  rcases L with c | ⟨loc', f, n⟩
  · cases hg
  · have hg1 : (if (X.drop 4).length < n then (.error 2 : Except Nat (Bool × Hd × List Fd × Nat × Nat)) else
      match follE ((signL ++ X).take (16 + n)) loc' f with
      | .error c => .error c
      | .ok (h, fs, a) => .ok (loc', h, fs, a, 16 + n)) = .ok (loc, h, fs, a, m) := hg
    obtain ⟨c, d, x, y, Y, rfl, hY⟩ := leadE_form hL
    by_cases hlt : ((c :: d :: x :: y :: Y).drop 4).length < n
    · rw [if_pos hlt] at hg1; cases hg1
    · rw [if_neg hlt] at hg1
      have hYl : n ≤ Y.length := by simpa using hlt
      generalize hF : follE ((signL ++ (c :: d :: x :: y :: Y)).take (16 + n)) loc' f = F at hg1
      rcases F with e | ⟨h', fs', a'⟩
      · cases hg1
      · injection hg1 with hg1
        obtain ⟨rfl, rfl, rfl, rfl, rfl⟩ : loc' = loc ∧ h' = h ∧ fs' = fs ∧ a' = a ∧ 16 + n = m := by simpa using hg1
        have e16 : (signL ++ (c :: d :: x :: y :: Y)).take (16 + n) = signL ++ (c :: d :: x :: y :: Y.take n) := by
          rw [show 16 + n = signL.length + (n + 4) from by show 16 + n = 12 + (n + 4); omega, List.take_length_add_append]; rfl
        refine ⟨by omega, by simp [signL]; omega, ?_⟩
        rw [e16] at hF ⊢
        have e2 : signL ++ (c :: d :: x :: y :: Y.take n) ++ R = signL ++ (c :: d :: x :: y :: (Y.take n ++ R)) := by simp
        rw [e2, getE_gen, hY]
        show (if _ then _ else _) = _
        have e3 : (signL ++ (c :: d :: x :: y :: (Y.take n ++ R))).take (16 + n) = signL ++ (c :: d :: x :: y :: Y.take n) := by
          rw [show 16 + n = signL.length + (n + 4) from by show 16 + n = 12 + (n + 4); omega, List.take_length_add_append]
          show _ ++ (c :: d :: x :: y :: (Y.take n ++ R).take n) = _
          rw [List.take_append_of_le_length (by rw [List.length_take]; omega), List.take_take, Nat.min_self]
        rw [if_neg (by show ¬ (Y.take n ++ R).length < n; rw [List.length_append, List.length_take]; omega), e3, hF]
theorem leadE_err {X : List UInt8} {c : Nat} (h : leadE X = .error c) (hc : c ≠ 2) (R : List UInt8) : leadE (X ++ R) = .error c := by
  match X, h with
  | [], h => injection h with h; exact absurd h.symm hc
  | k :: X, h =>
    show leadE (k :: (X ++ R)) = _
    rw [leadE] at h ⊢
    by_cases h1 : k.toNat / 16 ≠ 2
    · rw [if_pos h1] at h ⊢; exact h
    · by_cases h2 : 2 ≤ k.toNat % 16
      · rw [if_neg h1, if_pos h2] at h ⊢; exact h
      · rw [if_neg h1, if_neg h2] at h ⊢
        match X, h with
        | [], h => injection h with h; exact absurd h.symm hc
        | d :: X, h =>
          show leadT _ (d :: (X ++ R)) = _
          rw [leadT] at h ⊢
          split at h
          · exact h
          · by_cases h3 : X.length < 2
            · rw [if_pos h3] at h; injection h with h; exact absurd h.symm hc
            · rw [if_neg h3] at h; cases h
/-- a fault that was told stays, whatever stands behind -/
theorem get_fault {l : List UInt8} {c : Nat} (hg : getE l = .error c) (hc : c ≠ 2) (R : List UInt8) : getE (l ++ R) = .error c := by
  have hs : signL.length = 12 := rfl
  by_cases h1 : l.take (min l.length 12) ≠ signL.take (min l.length 12)
  · have hc13 : c = 13 := by
      unfold getE at hg; rw [if_pos h1] at hg; injection hg with hg; exact hg.symm
    unfold getE
    rw [if_pos, hc13]
    intro he
    apply h1
    have := congrArg (fun z => z.take (min l.length 12)) he
    simp only [List.take_take] at this
    have e1 : min (min l.length 12) (min (l ++ R).length 12) = min l.length 12 := by rw [List.length_append]; omega
    rw [e1] at this
    rw [← this, List.take_append_of_le_length (by omega)]
  · by_cases h2 : l.length < 12
    · exfalso
      unfold getE at hg; rw [if_neg h1, if_pos h2] at hg; injection hg with hg; exact hc hg.symm
    · have h3 : min l.length 12 = 12 := by omega
      rw [h3] at h1
      have h4 : l.take 12 = signL := by
        have := Decidable.not_not.1 h1
        rw [this]; exact List.take_of_length_le (by rw [hs]; omega)
      obtain ⟨X, hX⟩ : ∃ X, X = l.drop 12 := ⟨_, rfl⟩
      have hl : l = signL ++ X := by rw [← h4, hX, List.take_append_drop]
      subst hl
      rw [List.append_assoc, getE_gen]
      rw [getE_gen] at hg
      generalize hL : leadE X = L at hg
      rcases L with c' | ⟨loc', f, n⟩
      · have : c' = c := by injection hg
        subst this
        rw [leadE_err hL hc R]
      · obtain ⟨c0, d, x, y, Y, rfl, hY⟩ := leadE_form hL
        have hg1 : (if Y.length < n then (.error 2 : Except Nat (Bool × Hd × List Fd × Nat × Nat)) else
          match follE ((signL ++ (c0 :: d :: x :: y :: Y)).take (16 + n)) loc' f with
          | .error c => .error c
          | .ok (h, fs, a) => .ok (loc', h, fs, a, 16 + n)) = .error c := hg
        by_cases hlt : Y.length < n
        · rw [if_pos hlt] at hg1; injection hg1 with hg1; exact absurd hg1.symm hc
        · rw [if_neg hlt] at hg1
          have e1 : (signL ++ (c0 :: d :: x :: y :: Y ++ R)).take (16 + n) = (signL ++ (c0 :: d :: x :: y :: Y)).take (16 + n) := by
            rw [← List.append_assoc, List.take_append_of_le_length (by simp [signL]; omega)]
          have e2 : leadE (c0 :: d :: x :: y :: Y ++ R) = .ok (loc', f, n) := hY (Y ++ R)
          rw [e2]
          show (if _ then _ else _) = _
          rw [if_neg (by show ¬ (Y ++ R).length < n; rw [List.length_append]; omega), e1]
          exact hg1
end Go.Proofs.YtfagkmmenfeppaaDoor
