import Derived.Test.YtfagkmmenfeppaaDoorRefD
/- What Early says of Get: in plain Lean. -/
namespace Go.Proofs.YtfagkmmenfeppaaDoor
set_option maxRecDepth 100000
theorem early_cons {l : List UInt8} (h : earlyE l ≠ 13) : ¬ l.take (min l.length 12) ≠ signL.take (min l.length 12) ∧ earlyE l = earlyT (l.drop 12) := by
  unfold earlyE at h ⊢
  by_cases q : l.take (min l.length 12) ≠ signL.take (min l.length 12)
  · rw [if_pos q] at h; exact absurd rfl h
  · rw [if_neg q]; exact ⟨q, rfl⟩
theorem famOf_opt (d : UInt8) : famOf d = none ∨ ∃ f, famOf d = some f := by
  cases famOf d with
  | none => exact .inl rfl
  | some f => exact .inr ⟨f, rfl⟩
theorem early_err {l : List UInt8} (h : earlyE l ≠ 0) : getR l = .error (earlyE l) := by
  by_cases h13 : earlyE l = 13
  · have hq : l.take (min l.length 12) ≠ signL.take (min l.length 12) := by
      intro q
      have : earlyE l = earlyT (l.drop 12) := by unfold earlyE; rw [if_neg (fun z => z q)]
      rw [this] at h13
      cases hl : l.drop 12 with
      | nil => rw [hl] at h13; cases h13
      | cons c X =>
        rw [hl, earlyT_cons] at h13
        split at h13
        · cases h13
        · split at h13
          · cases h13
          · cases X with
            | nil => cases h13
            | cons d Y =>
              unfold earlyD at h13
              simp only at h13
              split at h13 <;> cases h13
    rw [h13]
    unfold getR getE
    rw [if_pos hq]; rfl
  · obtain ⟨hq, hE⟩ := early_cons h13
    rw [hE] at h ⊢
    unfold getR getE
    rw [if_neg hq]
    cases hl : l.drop 12 with
    | nil => rw [hl] at h; exact absurd rfl h
    | cons c X =>
      have hlen : ¬ l.length < 12 := by
        intro q
        rw [List.drop_eq_nil_of_le (by omega)] at hl; cases hl
      rw [if_neg hlen, leadE]
      rw [hl, earlyT_cons] at h
      rw [earlyT_cons]
      by_cases q1 : c.toNat / 16 ≠ 2
      · rw [if_pos q1, if_pos q1]; rfl
      · rw [if_neg q1, if_neg q1]
        rw [if_neg q1] at h
        by_cases q2 : 2 ≤ c.toNat % 16
        · rw [if_pos q2, if_pos q2]; rfl
        · rw [if_neg q2, if_neg q2]
          rw [if_neg q2] at h
          cases X with
          | nil => exact absurd rfl h
          | cons d Y =>
            unfold earlyD at h ⊢
            simp only at h ⊢
            rw [leadT]
            rcases famOf_opt d with e | ⟨f, e⟩
            · rw [e]; rfl
            · rw [e] at h; exact absurd rfl h
theorem early_zero {l : List UInt8} (h : earlyE l = 0) : (¬ l.take (min l.length 12) ≠ signL.take (min l.length 12)) ∧
    (∀ c X, l.drop 12 = c :: X → (c = 32 ∨ c = 33) ∧ ∀ d Y, X = d :: Y → ∃ f, famOf d = some f) := by
  obtain ⟨hq, hE⟩ := early_cons (l := l) (by omega)
  refine ⟨hq, fun c X hl => ?_⟩
  rw [hE, hl, earlyT_cons] at h
  by_cases q1 : c.toNat / 16 ≠ 2
  · rw [if_pos q1] at h; cases h
  · rw [if_neg q1] at h
    by_cases q2 : 2 ≤ c.toNat % 16
    · rw [if_pos q2] at h; cases h
    · rw [if_neg q2] at h
      refine ⟨?_, fun d Y hX => ?_⟩
      · have : c.toNat = 32 ∨ c.toNat = 33 := by omega
        rcases this with e | e
        · exact .inl (UInt8.toNat_inj.1 e)
        · exact .inr (UInt8.toNat_inj.1 e)
      · subst hX
        unfold earlyD at h
        simp only at h
        rcases famOf_opt d with e | ⟨f, e⟩
        · rw [e] at h; cases h
        · exact ⟨f, e⟩
theorem lead_of {c : UInt8} (hc : c = 32 ∨ c = 33) (X : List UInt8) : leadE (c :: X) = leadT (c.toNat % 16) X := by
  rw [leadE]
  rcases hc with rfl | rfl <;> rfl
theorem early_short {l : List UInt8} (h : earlyE l = 0) (hs : l.length < 16) : getR l = .error 10 := by
  obtain ⟨hq, hX⟩ := early_zero h
  unfold getR getE
  rw [if_neg hq]
  by_cases h12 : l.length < 12
  · rw [if_pos h12]; rfl
  · rw [if_neg h12]
    cases hl : l.drop 12 with
    | nil => rfl
    | cons c X =>
      obtain ⟨hc, hd⟩ := hX c X hl
      rw [lead_of hc]
      have hlen : X.length < 3 := by
        have := congrArg List.length hl
        rw [List.length_drop, List.length_cons] at this; omega
      cases X with
      | nil => rfl
      | cons d Y =>
        obtain ⟨f, hf⟩ := hd d Y rfl
        have hz : leadT (c.toNat % 16) (d :: Y) = .error 2 := by
          rw [leadT, hf]
          simp only [List.length_cons] at hlen
          exact if_pos (by omega)
        rw [hz]; rfl
theorem early_full {l : List UInt8} (h : earlyE l = 0) (hs : 16 ≤ l.length) : ∃ (c d x y : UInt8) (T : List UInt8) (f : Fam), l.drop 12 = c :: d :: x :: y :: T ∧ (c = 32 ∨ c = 33) ∧ famOf d = some f ∧
    (T.length < bv [x, y] → getR l = .error 10) ∧ (bv [x, y] ≤ T.length → getR l = match follE (l.take (16 + bv [x, y])) (c.toNat % 16 == 0) f with | .error e => .error (more e) | .ok (hd, fs, a) => .ok (c.toNat % 16 == 0, hd, fs, a, 16 + bv [x, y])) := by
  obtain ⟨hq, hX⟩ := early_zero h
  obtain ⟨c, d, x, y, T, hl⟩ : ∃ (c d x y : UInt8) (T : List UInt8), l.drop 12 = c :: d :: x :: y :: T := by
    have hlen : 4 ≤ (l.drop 12).length := by rw [List.length_drop]; omega
    match l.drop 12, hlen with
    | c :: d :: x :: y :: T, _ => exact ⟨c, d, x, y, T, rfl⟩
    | [], q => simp at q
    | [_], q => simp at q
    | [_, _], q => simp at q
    | [_, _, _], q => simp at q
  obtain ⟨hc, hd⟩ := hX _ _ hl
  obtain ⟨f, hf⟩ := hd _ _ rfl
  have h16 : l.drop 16 = T := by
    rw [show 16 = 12 + 4 from rfl, ← List.drop_drop, hl]; rfl
  have hL : leadE (l.drop 12) = .ok (c.toNat % 16 == 0, f, bv [x, y]) := by
    rw [hl, lead_of hc, leadT, hf]
    simp only
    rw [if_neg (by simp)]; rfl
  refine ⟨c, d, x, y, T, f, hl, hc, hf, fun q => ?_, fun q => ?_⟩
  · unfold getR getE
    rw [if_neg hq, if_neg (by omega), hL, h16]
    simp only
    rw [if_pos q]; rfl
  · unfold getR getE
    rw [if_neg hq, if_neg (by omega), hL, h16]
    simp only
    rw [if_neg (by omega)]
    generalize follE (l.take (16 + bv [x, y])) (c.toNat % 16 == 0) f = F
    rcases F with e | ⟨hd, fs, a⟩
    · rfl
    · rfl
end Go.Proofs.YtfagkmmenfeppaaDoor
