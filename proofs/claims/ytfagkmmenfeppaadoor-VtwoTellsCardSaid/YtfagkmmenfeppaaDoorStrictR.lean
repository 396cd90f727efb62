import Derived.Test.YtfagkmmenfeppaaDoorStrictQ
/- A header that was told may be put. -/
namespace Go.Proofs.YtfagkmmenfeppaaDoor
set_option maxRecDepth 100000
theorem famN_code2 {f : Fam} (h : f ∈ fams) : famN (f.1 : Int) = some f := by
  simp [fams] at h
  rcases h with rfl | rfl | rfl | rfl | rfl <;> rfl
theorem famOf_in {d : UInt8} {f : Fam} (h : famOf d = some f) : f ∈ fams ∧ UInt8.ofNat (f.2.1 / 256 ^ 0 % 256) = d := by
  have h2 := List.find?_some h
  have h1 := List.mem_of_find?_eq_some h
  refine ⟨h1, ?_⟩
  have h3 : (f.2.1 : Int) = d.toNat := by simpa using h2
  have h4 : f.2.1 = d.toNat := by omega
  rw [h4]
  have := d.toNat_lt
  rw [show d.toNat / 256 ^ 0 % 256 = d.toNat from by simp, UInt8.ofNat_toNat]
/-- the head, turned about -/
theorem headE_inv {f : Fam} {T : List UInt8} {h : Hd} {l1 : List UInt8} {loc : Bool} (he : headE loc f T = .ok (h, l1)) :
    (loc = true ∧ h = (0, [], [], 0, 0) ∧ l1.length ≤ T.length) ∨
    (loc = false ∧ h.1 = f.1 ∧ h.2.1.length = f.2.2 ∧ h.2.2.1.length = f.2.2 ∧ h.2.2.2.1 < 65536 ∧ h.2.2.2.2 < 65536 ∧ (f.2.2 = 0 → h.2.2.2.1 = 0 ∧ h.2.2.2.2 = 0) ∧ T = headB f.2.2 h.2.1 h.2.2.1 h.2.2.2.1 h.2.2.2.2 ++ l1) := by
  unfold headE at he
  by_cases hz : 0 < f.2.2
  · rw [if_pos hz] at he
    by_cases hl : T.length < 2 * f.2.2 + 4
    · rw [if_pos hl] at he; cases he
    · rw [if_neg hl] at he
      injection he with he
      injection he with h1 h2
      cases loc with
      | true => exact .inl ⟨rfl, h1.symm, by rw [← h2]; simp only [List.length_drop]; omega⟩
      | false =>
        refine .inr ⟨rfl, ?_⟩
        simp only [if_neg (show ¬ (false = true) from Bool.false_ne_true)] at h1
        subst h1
        have b1 := bv_lt ((((T.drop f.2.2).drop f.2.2)).take 2)
        have b2 := bv_lt ((((T.drop f.2.2).drop f.2.2).drop 2).take 2)
        have k1 : ((((T.drop f.2.2).drop f.2.2)).take 2).length = 2 := by simp only [List.length_take, List.length_drop]; omega
        have k2 : ((((T.drop f.2.2).drop f.2.2).drop 2).take 2).length = 2 := by simp only [List.length_take, List.length_drop]; omega
        have t1 := take_be ((((T.drop f.2.2).drop f.2.2)).take 2)
        have t2 := take_be ((((T.drop f.2.2).drop f.2.2).drop 2).take 2)
        rw [k1] at b1 t1
        rw [k2] at b2 t2
        refine ⟨rfl, by simp only [List.length_take]; omega, by simp only [List.length_take, List.length_drop]; omega, b1, b2, fun h0 => by omega, ?_⟩
        unfold headB
        rw [if_pos hz, ← t1, ← t2, ← h2]
        simp only [List.append_assoc, List.take_append_drop]
  · rw [if_neg hz] at he
    injection he with he
    injection he with h1 h2
    subst h2
    cases loc with
    | true => exact .inl ⟨rfl, h1.symm, Nat.le_refl _⟩
    | false =>
      refine .inr ⟨rfl, ?_⟩
      simp only [if_neg (show ¬ (false = true) from Bool.false_ne_true)] at h1
      subst h1
      refine ⟨rfl, by simp; omega, by simp; omega, by simp, by simp, fun _ => ⟨rfl, rfl⟩, ?_⟩
      unfold headB
      rw [if_neg hz]; rfl
end Go.Proofs.YtfagkmmenfeppaaDoor
