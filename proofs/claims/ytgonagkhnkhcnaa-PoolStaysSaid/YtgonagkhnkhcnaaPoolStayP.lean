import Derived.Test.YtgonagkhnkhcnaaPoolShare
import Derived.Test.YtgonagkhnkhcnaaSumOk
/- PoolStays: the plain law. -/
namespace Go.Proofs.Ytgonagkhnkhcnaa
set_option maxRecDepth 100000
open Go.RowKit
theorem stay_err {L : List Bk} {c : Ac} (h : doE L c ≠ 0) : doL L c = L := by
  unfold doE at h
  unfold doL
  cases hr : c.rem with
  | true =>
    rw [hr] at h
    simp only [if_true] at h ⊢
    unfold remE at h
    by_cases hm : c.b.id ∈ ids L
    · rw [if_pos hm] at h; exact absurd rfl h
    · exact out_none hm
  | false =>
    rw [hr] at h
    simp only [Bool.false_eq_true, if_false] at h ⊢
    unfold addL; rw [if_neg h]
theorem stay_rem {L : List Bk} {c : Ac} (hr : c.rem = true) : c.b.id ∉ ids (doL L c) := by
  unfold doL
  rw [hr]
  simp only [if_true]
  exact fun h => (out_ids.1 h).2 rfl
theorem stay_add {L : List Bk} {c : Ac} (hg : Good (doL L c)) (hr : c.rem = false) (h : doE L c = 0) : c.b.id ∈ ids (doL L c) ∧ got (doL L c) c.b.id = nb c.b ∧ FM.may c.b.wt = true := by
  have e : doL L c = ins (nb c.b) L := by
    unfold doE at h
    unfold doL
    rw [hr] at h ⊢
    simp only [Bool.false_eq_true, if_false] at h ⊢
    unfold addL
    rw [if_pos h]
  have hm : nb c.b ∈ doL L c := by rw [e]; exact (ins_perm _ _).mem_iff.2 (List.mem_cons_self ..)
  have hi : c.b.id ∈ ids (doL L c) := ids_mem.2 ⟨nb c.b, hm, rfl⟩
  obtain ⟨g1, g2⟩ := got_id hi
  refine ⟨hi, nodup_eq (risen_nodup hg.risen) g1 hm g2, ?_⟩
  unfold doE at h
  rw [hr] at h
  simp only [Bool.false_eq_true, if_false] at h
  unfold addE at h
  by_cases hk : bk_ok c.b = true
  · unfold bk_ok at hk
    simp only [Bool.and_eq_true] at hk
    exact hk.2
  · rw [if_neg hk] at h; cases h
theorem feq_neg : feq 0 9223372036854775808 = true := by decide
theorem nb_eq {b : Bk} (hb : b.wt < W64) (h : FM.may b.wt = true) : bkeq (nb b) b = true := by
  unfold bkeq nb
  simp only
  have hf : feq (FM.rung b.wt) b.wt = true := by
    by_cases hlt : b.wt < 9223372036854775808
    · have e : FM.rung b.wt = b.wt := by unfold FM.rung; exact Nat.mod_eq_of_lt hlt
      rw [e]; exact feq_self h
    · have h2 := h
      unfold FM.may at h2
      rw [Bool.or_eq_true, decide_eq_true_iff, decide_eq_true_iff] at h2
      have hr : FM.rung b.wt = 0 := by
        rcases h2 with h2 | h2
        · exact h2
        · omega
      have hw : b.wt = 9223372036854775808 := by
        unfold FM.rung at hr
        unfold W64 at hb
        omega
      rw [hr, hw]; exact feq_neg
  rw [hf, beq_toListBytes]
  simp
theorem sumP_take (ns : List Nat) (k : Nat) : sumP (ns.take k) ≤ sumP ns := by
  have : sumP ns = sumP (ns.take k) + sumP (ns.drop k) := by
    conv => lhs; rw [← List.take_append_drop k ns]
    unfold sumP; rw [List.map_append, List.sum_append]
  omega
theorem points_sum (ns : List Nat) (k : Nat) (h : k < ns.length) : FM.points ns[k] ≤ sumP ns := by
  have h1 := sumP_take ns (k + 1)
  rw [take_oneN ns k h, sumP_snoc] at h1
  omega
theorem good_may {L : List Bk} (hg : Good L) : allMay (L.map Bk.wt) = true := by
  unfold allMay
  rw [List.all_eq_true]
  intro y hy
  obtain ⟨b, hb, rfl⟩ := List.mem_map.1 hy
  have h := List.all_eq_true.1 hg.ok b hb
  unfold bk_ok at h
  simp only [Bool.and_eq_true] at h
  exact h.2
/-- a backend's share, by its place in the list -/
theorem share_at {L : List Bk} (hg : Good L) (k : Nat) (hk : k < L.length) : shE L L[k].id = (if sumP (L.map Bk.wt) = 0 then 7 else 0) ∧ (sumP (L.map Bk.wt) ≠ 0 → shV L L[k].id = quoW (FM.points L[k].wt) (sumP (L.map Bk.wt))) := by
  have hm : L[k].id ∈ ids L := ids_mem.2 ⟨_, List.getElem_mem hk, rfl⟩
  have hgot : got L L[k].id = L[k] := nodup_eq (risen_nodup hg.risen) (got_id hm).1 (List.getElem_mem hk) (got_id hm).2
  have ha := good_may hg
  have hall : allMay (L.map Bk.wt ++ [L[k].wt]) = true := by
    rw [allMay_app, ha, allMay_one]
    have h := List.all_eq_true.1 ha L[k].wt (List.mem_map.2 ⟨_, List.getElem_mem hk, rfl⟩)
    rw [h]; rfl
  unfold shE shV
  rw [if_pos hm, if_pos hm, hgot]
  unfold shareE shareV
  rw [if_pos hall, if_pos hall]
  exact ⟨rfl, fun h => by rw [if_neg h]⟩
theorem no_points {L : List Bk} (hg : Good L) (h0 : sumP (L.map Bk.wt) = 0) {ps : List (Nat × Nat)} (hp : ps.Perm (allPts L)) (n : Nat) : (get L (fA ps n)).isSome = false := by
  have he : allPts L = [] := by
    unfold allPts
    rw [List.flatMap_eq_nil_iff]
    intro b hb
    obtain ⟨k, hk, rfl⟩ := List.getElem_of_mem hb
    have h1 := points_sum (L.map Bk.wt) k (by rw [List.length_map]; exact hk)
    rw [List.getElem_map] at h1
    have h2 : FM.points L[k].wt = 0 := by omega
    unfold pts
    rw [h2]; rfl
  rw [he] at hp
  have hps : ps = [] := List.Perm.eq_nil hp
  rw [get_some, hps]
  apply decide_eq_false
  intro hm
  obtain ⟨b, hb, hbi⟩ := ids_mem.1 hm
  have := good_ids hg b hb
  unfold fA at hbi
  simp at hbi
  omega
end Go.Proofs.Ytgonagkhnkhcnaa
