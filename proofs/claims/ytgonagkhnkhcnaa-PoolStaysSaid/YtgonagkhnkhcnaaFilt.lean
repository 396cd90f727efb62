import Derived.Test.YtgonagkhnkhcnaaSets
import Derived.Test.YtgonagkhnkhcnaaLawsA
/- Plain laws of rings: one backend less. -/
namespace Go.Proofs.Ytgonagkhnkhcnaa
set_option maxRecDepth 100000
theorem own_eq (ps : List (Nat × Nat)) (n i : Nat) (hi : i < ps.length) (h : lb ps n % ps.length = i) : own ps n = ps[i].2 := by
  subst h
  unfold own
  rw [dif_pos hi]
theorem lb_parts (A C : List (Nat × Nat)) (n : Nat) (h1 : ∀ p ∈ A, p.1 < n) (h2 : ∀ p ∈ C, n ≤ p.1) : lb (A ++ C) n = A.length := by
  unfold lb
  rw [List.countP_append]
  have e1 : A.countP (fun p => decide (p.1 < n)) = A.length := by
    rw [List.countP_eq_length]; intro a ha; exact decide_eq_true (h1 a ha)
  have e2 : C.countP (fun p => decide (p.1 < n)) = 0 := by
    rw [List.countP_eq_zero]; intro a ha; have := h2 a ha; simp; omega
  rw [e1, e2, Nat.add_zero]
def less (x : Nat) (ps : List (Nat × Nat)) : List (Nat × Nat) := ps.filter (fun p => decide (p.2 ≠ x))
theorem less_app (x : Nat) (a b : List (Nat × Nat)) : less x (a ++ b) = less x a ++ less x b := List.filter_append ..
theorem less_cons (x : Nat) (p : Nat × Nat) (t : List (Nat × Nat)) (h : p.2 ≠ x) : less x (p :: t) = p :: less x t := by
  unfold less; rw [List.filter_cons_of_pos (by simpa using h)]
theorem less_mem {x : Nat} {ps : List (Nat × Nat)} {p : Nat × Nat} (h : p ∈ less x ps) : p ∈ ps ∧ p.2 ≠ x := by
  unfold less at h
  rw [List.mem_filter] at h
  exact ⟨h.1, by simpa using h.2⟩
theorem own_less (ps : List (Nat × Nat)) (n x : Nat) (hs : ps.Pairwise ptle) (h0 : 0 < ps.length) (hx : own ps n ≠ x) : 0 < (less x ps).length ∧ own (less x ps) n = own ps n := by
  obtain ⟨k1, k2, k3⟩ := lb_spec ps n hs
  obtain ⟨k, hk⟩ : ∃ k, k = lb ps n := ⟨_, rfl⟩
  rw [← hk] at k1 k2 k3
  by_cases hlt : k < ps.length
  · have ho : own ps n = ps[k].2 := own_eq ps n k hlt (by rw [← hk, Nat.mod_eq_of_lt hlt])
    rw [ho] at hx ⊢
    have hsplit : ps = ps.take k ++ ps[k] :: ps.drop (k + 1) := by
      rw [← List.drop_eq_getElem_cons hlt, List.take_append_drop]
    have hq : less x ps = less x (ps.take k) ++ ps[k] :: less x (ps.drop (k + 1)) := by
      conv => lhs; rw [hsplit]
      rw [less_app, less_cons x _ _ hx]
    have hlb : lb (less x ps) n = (less x (ps.take k)).length := by
      rw [hq]
      refine lb_parts _ _ n (fun p hp => ?_) (fun p hp => ?_)
      · obtain ⟨t, ht, rfl⟩ := List.getElem_of_mem (less_mem hp).1
        rw [List.getElem_take]
        rw [List.length_take] at ht
        exact k2 t (by omega) (by omega)
      · rcases List.mem_cons.1 hp with rfl | hp
        · exact k3 k hlt (Nat.le_refl _)
        · obtain ⟨t, ht, rfl⟩ := List.getElem_of_mem (less_mem hp).1
          rw [List.getElem_drop]
          rw [List.length_drop] at ht
          exact k3 (k + 1 + t) (by omega) (by omega)
    have hlen : (less x (ps.take k)).length < (less x ps).length := by rw [hq, List.length_append, List.length_cons]; omega
    refine ⟨by omega, ?_⟩
    rw [own_eq (less x ps) n _ hlen (by rw [hlb, Nat.mod_eq_of_lt hlen])]
    have : (less x ps)[(less x (ps.take k)).length]'hlen = ps[k] := by
      simp only [hq]
      rw [List.getElem_append_right (Nat.le_refl _)]
      simp
    rw [this]
  · have hkl : k = ps.length := by omega
    have ho : own ps n = ps[0].2 := own_eq ps n 0 h0 (by rw [← hk, hkl, Nat.mod_self])
    rw [ho] at hx ⊢
    have hsplit : ps = ps[0] :: ps.drop 1 := by
      conv => lhs; rw [← List.drop_zero (l := ps), List.drop_eq_getElem_cons h0]
    have hq : less x ps = ps[0] :: less x (ps.drop 1) := by
      conv => lhs; rw [hsplit]
      rw [less_cons x _ _ hx]
    have hl0 : 0 < (less x ps).length := by rw [hq, List.length_cons]; omega
    have hlb : lb (less x ps) n = (less x ps).length := by
      have := lb_parts (less x ps) [] n (fun p hp => by
        obtain ⟨t, ht, rfl⟩ := List.getElem_of_mem (less_mem hp).1
        exact k2 t ht (by omega)) (fun p hp => by cases hp)
      rw [List.append_nil] at this
      exact this
    refine ⟨hl0, ?_⟩
    rw [own_eq (less x ps) n 0 hl0 (by rw [hlb, Nat.mod_self])]
    have : (less x ps)[0]'hl0 = ps[0] := by simp only [hq]; rfl
    rw [this]
theorem own_not (ps : List (Nat × Nat)) (n x : Nat) (h0 : 0 < (less x ps).length) : own (less x ps) n ≠ x := by
  rw [own_eq (less x ps) n _ (Nat.mod_lt _ h0) rfl]
  exact (less_mem (List.getElem_mem _)).2
theorem less_sorted {ps : List (Nat × Nat)} (x : Nat) (h : ps.Pairwise ptle) : (less x ps).Pairwise ptle := List.Pairwise.filter _ h

end Go.Proofs.Ytgonagkhnkhcnaa
