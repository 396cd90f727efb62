import Derived.Test.YtgonagkhnkhcnaaBkEq
/- PoolMoves: the plain law. -/
namespace Go.Proofs.Ytgonagkhnkhcnaa
set_option maxRecDepth 100000
open Go.RowKit
theorem less_out (i : Int) (h1 : 1 ≤ i) : ∀ (L : List Bk), (∀ b ∈ L, 1 ≤ b.id) → less i.toNat (allPts L) = allPts (out L i)
  | [], _ => rfl
  | b :: t, hb => by
    have ih := less_out i h1 t (fun c hc => hb c (List.mem_cons_of_mem _ hc))
    have hbi := hb b (List.mem_cons_self ..)
    have e : allPts (b :: t) = pts b ++ allPts t := by unfold allPts; rw [List.flatMap_cons]
    rw [e, less_app, ih]
    by_cases h : b.id = i
    · have e2 : out (b :: t) i = out t i := by unfold out; rw [List.filter_cons_of_neg (by simp [h])]
      rw [e2, ← h, less_pts_self, List.nil_append]
    · have e2 : out (b :: t) i = b :: out t i := by unfold out; rw [List.filter_cons_of_pos (by simpa using h)]
      have e3 : less i.toNat (pts b) = pts b := by
        have h2 := less_keep i.toNat [b] (fun c hc => by rw [List.mem_singleton.1 hc]; omega)
        have e4 : allPts [b] = pts b := by unfold allPts; simp
        rw [e4] at h2; exact h2
      rw [e2, e3]
      unfold allPts
      rw [List.flatMap_cons]
theorem good_ids {L : List Bk} (h : Good L) : ∀ b ∈ L, 1 ≤ b.id := fun b hb => (ok_id h.ok hb).2
theorem get_mem {L : List Bk} {i : Int} {b : Bk} (h : get L i = some b) : b ∈ L ∧ b.id = i := ⟨List.mem_of_find?_eq_some h, by simpa using List.find?_some h⟩
theorem got_id {L : List Bk} {i : Int} (h : i ∈ ids L) : got L i ∈ L ∧ (got L i).id = i := by
  unfold got
  cases hg : get L i with
  | none =>
    have := get_some L i
    rw [hg, decide_eq_true h] at this
    cases this
  | some b => exact get_mem hg
theorem got_no {L : List Bk} {i : Int} (h : i ∉ ids L) : got L i = zb := by
  unfold got
  cases hg : get L i with
  | none => rfl
  | some b =>
    have := get_some L i
    rw [hg, decide_eq_false h] at this
    cases this
theorem nodup_eq {L : List Bk} (h : (ids L).Nodup) {x y : Bk} (hx : x ∈ L) (hy : y ∈ L) (he : x.id = y.id) : x = y := by
  obtain ⟨i, hi, rfl⟩ := List.getElem_of_mem hx
  obtain ⟨j, hj, rfl⟩ := List.getElem_of_mem hy
  have hl : (ids L).length = L.length := by unfold ids; rw [List.length_map]
  have hg : ∀ t (ht : t < L.length), (ids L)[t]'(by omega) = L[t].id := fun t ht => by unfold ids; rw [List.getElem_map]
  rcases Nat.lt_trichotomy i j with h1 | h1 | h1
  · rw [List.nodup_iff_pairwise_ne, List.pairwise_iff_getElem] at h
    exact absurd (by rw [hg i hi, hg j hj]; exact he) (h i j (by omega) (by omega) h1)
  · subst h1; rfl
  · rw [List.nodup_iff_pairwise_ne, List.pairwise_iff_getElem] at h
    exact absurd (by rw [hg i hi, hg j hj]; exact he.symm) (h j i (by omega) (by omega) h1)
theorem got_out {L : List Bk} (hn : (ids L).Nodup) {i x : Int} (hx : x ≠ i) : got (out L i) x = got L x := by
  by_cases h : x ∈ ids L
  · have h1 := got_id h
    have h2 : x ∈ ids (out L i) := out_ids.2 ⟨h, hx⟩
    have h3 := got_id h2
    exact nodup_eq hn ((out_sub L i).subset h3.1) h1.1 (by rw [h3.2, h1.2])
  · rw [got_no h, got_no (fun hc => h (out_ids.1 hc).1)]
theorem rings_one {L : List Bk} {ps qs : List (Nat × Nat)} (h1 : ps.Perm (allPts L)) (h2 : ps.Pairwise ptle) (h3 : qs.Perm (allPts L)) (h4 : qs.Pairwise ptle) : ps = qs := sorted_one (h1.trans h3.symm) h2 h4
/-- one backend less -/
theorem pmoves {L : List Bk} (hg : Good L) {i : Int} (hi : i ∈ ids L) {ps qs : List (Nat × Nat)} (h1 : ps.Perm (allPts L)) (h2 : ps.Pairwise ptle) (h3 : qs.Perm (allPts (out L i))) (h4 : qs.Pairwise ptle) (n : Nat) :
    (got (out L i) (fA qs n)).id ≠ i ∧ (((fA ps n : Nat) : Int) ≠ i → got (out L i) (fA qs n) = got L (fA ps n)) ∧ (((fA ps n : Nat) : Int) = i → got L (fA ps n) = got L i) := by
  obtain ⟨c, hc, hci⟩ := ids_mem.1 hi
  have h1i : 1 ≤ i := by rw [← hci]; exact good_ids hg c hc
  obtain ⟨x, hx⟩ : ∃ x, x = i.toNat := ⟨_, rfl⟩
  have hxi : (x : Int) = i := by omega
  have hq : qs = less x ps := by
    refine sorted_one (h3.trans ?_) h4 (less_sorted x h2)
    rw [← less_out i h1i L (good_ids hg), ← hx]
    exact (h1.filter _).symm
  have hne : ((fA qs n : Nat) : Int) ≠ i := by
    rw [hq]
    unfold fA
    by_cases h0 : (less x ps).length = 0
    · rw [if_pos h0]; omega
    · rw [if_neg h0]
      have := own_not ps n x (Nat.pos_of_ne_zero h0)
      omega
  refine ⟨?_, fun h => ?_, fun h => by rw [h]⟩
  · by_cases hm : ((fA qs n : Nat) : Int) ∈ ids (out L i)
    · rw [(got_id hm).2]; exact hne
    · rw [got_no hm]; show (0 : Int) ≠ i; omega
  · have he : fA qs n = fA ps n := by
      rw [hq]
      unfold fA at h ⊢
      by_cases h0 : ps.length = 0
      · obtain rfl : ps = [] := List.eq_nil_of_length_eq_zero h0
        rfl
      · rw [if_neg h0] at h ⊢
        obtain ⟨a1, a2⟩ := own_less ps n x h2 (Nat.pos_of_ne_zero h0) (by omega)
        rw [if_neg (by omega), a2]
    rw [he, got_out (risen_nodup hg.risen) h]
/-- and with it again -/
theorem back_list {L : List Bk} (hg : Good L) {i : Int} (hi : i ∈ ids L) : addE (out L i) (got L i) = 0 ∧ addL (out L i) (got L i) = L ∧ addE L (got L i) = 12 := by
  obtain ⟨h1, h2⟩ := got_id hi
  have hok : bk_ok (got L i) = true := List.all_eq_true.1 hg.ok _ h1
  have hno : (got L i).id ∉ ids (out L i) := by rw [h2]; exact fun hc => (out_ids.1 hc).2 rfl
  have hlen := out_len (risen_nodup hg.risen) hi
  have hnb : nb (got L i) = got L i := by
    have h3 := hg.plus _ h1
    obtain ⟨x, hx⟩ : ∃ x, x = got L i := ⟨_, rfl⟩
    rw [← hx] at h3 ⊢
    unfold nb FM.rung
    rw [Nat.mod_eq_of_lt h3]
  have e1 : addE (out L i) (got L i) = 0 := by
    unfold addE
    rw [if_pos hok, if_neg hno, if_neg (by have := hg.few; omega)]
  refine ⟨e1, ?_, by unfold addE; rw [if_pos hok, if_pos (by rw [h2]; exact hi)]⟩
  unfold addL
  rw [if_pos e1, hnb]
  have hr := ins_risen (got L i) (hg.risen.sublist (out_sub L i)) hno
  refine risen_one ?_ (hr.imp (fun h => Int.le_of_lt h)) hg.risen
  refine (ins_perm _ _).trans ?_
  have n1 : (got L i :: out L i).Nodup := List.nodup_cons.2 ⟨fun hc => hno (ids_mem.2 ⟨_, hc, rfl⟩), (nodup_of_ids (risen_nodup hg.risen)).sublist (out_sub L i)⟩
  refine (List.perm_ext_iff_of_nodup n1 (nodup_of_ids (risen_nodup hg.risen))).2 (fun b => ?_)
  rw [List.mem_cons, out_mem]
  constructor
  · rintro (rfl | h)
    · exact h1
    · exact h.1
  · intro hb
    by_cases h : b.id = i
    · exact .inl (nodup_eq (risen_nodup hg.risen) hb h1 (by rw [h, h2]))
    · exact .inr ⟨hb, h⟩
theorem bkeq_ne {x y : Bk} (h : x.id ≠ y.id) : bkeq x y = false := by
  unfold bkeq
  rw [beq_eq_false_iff_ne.2 h, Bool.false_and]
theorem zb_self : bkeq zb zb = true := by
  unfold bkeq
  rw [feq_self (by decide), beq_toListBytes]
  simp
theorem got_self {L : List Bk} (hg : Good L) (i : Int) : bkeq (got L i) (got L i) = true := by
  by_cases h : i ∈ ids L
  · exact bkeq_self (List.all_eq_true.1 hg.ok _ (got_id h).1)
  · rw [got_no h]; exact zb_self
end Go.Proofs.Ytgonagkhnkhcnaa
