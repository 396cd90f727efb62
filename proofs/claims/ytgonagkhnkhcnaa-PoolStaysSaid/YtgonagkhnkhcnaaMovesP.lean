import Derived.Test.YtgonagkhnkhcnaaFilt
/- RingMoves: the plain law. -/
namespace Go.Proofs.Ytgonagkhnkhcnaa
set_option maxRecDepth 100000
def fA (ps : List (Nat × Nat)) (n : Nat) : Nat := if ps.length = 0 then 0 else own ps n
def fB (ps : List (Nat × Nat)) : Bool := decide (0 < ps.length)
def without (bs : List Bk) (t : Nat) : List Bk := bs.take t ++ bs.drop (t + 1)
theorem without_sub (bs : List Bk) (t : Nat) : (without bs t).Sublist bs := by
  unfold without
  rw [← List.eraseIdx_eq_take_drop_succ]
  exact List.eraseIdx_sublist ..
theorem without_zero (bs : List Bk) (t : Nat) (h : newE bs = 0) : newE (without bs t) = 0 := by
  have hs := without_sub bs t
  rw [newE_zero] at h ⊢
  obtain ⟨h1, h2, h3⟩ := h
  refine ⟨?_, h2.sublist (hs.map Bk.id), Nat.le_trans hs.length_le h3⟩
  rw [List.all_eq_true] at h1 ⊢
  exact fun b hb => h1 b (hs.subset hb)
theorem pts_id {b : Bk} {p : Nat × Nat} (h : p ∈ pts b) : p.2 = b.id.toNat := by
  unfold pts at h
  obtain ⟨k, _, rfl⟩ := List.mem_map.1 h
  rfl
theorem less_pts_self (b : Bk) : less b.id.toNat (pts b) = [] := by
  unfold less
  rw [List.filter_eq_nil_iff]
  intro p hp
  have := pts_id hp
  simp [this]
theorem less_keep (x : Nat) (L : List Bk) (h : ∀ b ∈ L, b.id.toNat ≠ x) : less x (allPts L) = allPts L := by
  unfold less
  rw [List.filter_eq_self]
  intro p hp
  unfold allPts at hp
  rw [List.mem_flatMap] at hp
  obtain ⟨b, hb, hp⟩ := hp
  have h1 := pts_id hp
  have h2 := h b hb
  rw [h1]; exact decide_eq_true h2
theorem ok_id {bs : List Bk} (h : bs.all bk_ok = true) {b : Bk} (hb : b ∈ bs) : ((b.id.toNat : Nat) : Int) = b.id ∧ 1 ≤ b.id := by
  rw [List.all_eq_true] at h
  have h1 := h b hb
  unfold bk_ok at h1
  simp only [Bool.and_eq_true, decide_eq_true_eq] at h1
  omega
theorem less_without (bs : List Bk) (t : Nat) (ht : t < bs.length) (h : newE bs = 0) : allPts (without bs t) = less bs[t].id.toNat (allPts bs) := by
  obtain ⟨h1, h2, _⟩ := (newE_zero bs).1 h
  have hsplit : bs = bs.take t ++ bs[t] :: bs.drop (t + 1) := by rw [← List.drop_eq_getElem_cons ht, List.take_append_drop]
  have hnd : ∀ i (hi : i < bs.length), i ≠ t → bs[i].id.toNat ≠ bs[t].id.toNat := by
    intro i hi hne he
    have e1 := (ok_id h1 (List.getElem_mem hi)).1
    have e2 := (ok_id h1 (List.getElem_mem ht)).1
    have e3 : bs[i].id = bs[t].id := by omega
    rw [List.nodup_iff_pairwise_ne, List.pairwise_iff_getElem] at h2
    have hl : (ids bs).length = bs.length := by unfold ids; rw [List.length_map]
    have hg : ∀ j (hj : j < bs.length), (ids bs)[j]'(by omega) = bs[j].id := fun j hj => by unfold ids; rw [List.getElem_map]
    rcases Nat.lt_or_gt_of_ne hne with hlt | hlt
    · exact h2 i t (by omega) (by omega) hlt (by rw [hg i hi, hg t ht]; exact e3)
    · exact h2 t i (by omega) (by omega) hlt (by rw [hg i hi, hg t ht]; exact e3.symm)
  have k1 : ∀ b ∈ bs.take t, b.id.toNat ≠ bs[t].id.toNat := by
    intro b hb
    obtain ⟨i, hi, rfl⟩ := List.getElem_of_mem hb
    rw [List.length_take] at hi
    rw [List.getElem_take]
    exact hnd i (by omega) (by omega)
  have k2 : ∀ b ∈ bs.drop (t + 1), b.id.toNat ≠ bs[t].id.toNat := by
    intro b hb
    obtain ⟨i, hi, rfl⟩ := List.getElem_of_mem hb
    rw [List.length_drop] at hi
    rw [List.getElem_drop]
    exact hnd (t + 1 + i) (by omega) (by omega)
  obtain ⟨x, hx⟩ : ∃ x, x = bs[t].id.toNat := ⟨_, rfl⟩
  have hself := less_pts_self bs[t]
  rw [← hx] at k1 k2 hself ⊢
  have e : allPts bs = allPts (bs.take t) ++ (pts bs[t] ++ allPts (bs.drop (t + 1))) := by
    conv => lhs; rw [hsplit]
    unfold allPts
    rw [List.flatMap_append, List.flatMap_cons]
  rw [e, less_app, less_app, hself, less_keep x _ k1, less_keep x _ k2, List.nil_append]
  unfold without allPts
  rw [List.flatMap_append]
theorem moves_law (bs : List Bk) (t : Nat) (ht : t < bs.length) (h : newE bs = 0) (ps qs : List (Nat × Nat)) (hp : ps.Perm (gath bs bs.length)) (hs : ps.Pairwise ptle) (hq : qs.Perm (gath (without bs t) (without bs t).length)) (hs2 : qs.Pairwise ptle) (n : Nat) :
    ((fA qs n : Nat) : Int) ≠ bs[t].id ∧ (((fA ps n : Nat) : Int) ≠ bs[t].id → fA ps n = fA qs n ∧ fB ps = fB qs) ∧ (fB qs = true → fB ps = true) := by
  rw [gath_all bs h] at hp
  rw [gath_all _ (without_zero bs t h), less_without bs t ht h] at hq
  obtain ⟨e1, e2⟩ := ok_id ((newE_zero bs).1 h).1 (List.getElem_mem ht)
  obtain ⟨x, hx⟩ : ∃ x, x = bs[t].id.toNat := ⟨_, rfl⟩
  rw [← hx] at hq e1
  rw [← e1] at e2 ⊢
  obtain rfl : qs = less x ps := sorted_one (hq.trans (hp.filter _).symm) hs2 (less_sorted x hs)
  unfold fA fB
  refine ⟨?_, fun hne => ?_, fun hb => ?_⟩
  · by_cases h0 : (less x ps).length = 0
    · rw [if_pos h0]; omega
    · rw [if_neg h0]
      have := own_not ps n x (Nat.pos_of_ne_zero h0)
      omega
  · by_cases h0 : ps.length = 0
    · obtain rfl : ps = [] := List.eq_nil_of_length_eq_zero h0
      exact ⟨rfl, rfl⟩
    · rw [if_neg h0] at hne ⊢
      obtain ⟨a1, a2⟩ := own_less ps n x hs (Nat.pos_of_ne_zero h0) (by omega)
      rw [if_neg (by omega), a2, decide_eq_true a1, decide_eq_true (Nat.pos_of_ne_zero h0)]
      exact ⟨rfl, rfl⟩
  · have h1 := of_decide_eq_true hb
    have h2 : (less x ps).length ≤ ps.length := List.length_filter_le ..
    exact decide_eq_true (by omega)
end Go.Proofs.Ytgonagkhnkhcnaa
