import Derived.Test.YtgonagkhnkhcnaaRingDef
/- Plain laws of rings: a ring hangs on its backends as a set. -/
namespace Go.Proofs.Ytgonagkhnkhcnaa
set_option maxRecDepth 100000
theorem ptle_anti {x y : Nat × Nat} (h1 : ptle x y) (h2 : ptle y x) : x = y := by
  obtain ⟨a, b⟩ := x
  obtain ⟨c, d⟩ := y
  unfold ptle at h1 h2
  simp only at h1 h2
  have e1 : a = c := by omega
  have e2 : b = d := by omega
  rw [e1, e2]
theorem ptle_refl (x : Nat × Nat) : ptle x x := .inr ⟨rfl, Nat.le_refl _⟩
/-- one order alone -/
theorem sorted_one : ∀ {ps qs : List (Nat × Nat)}, ps.Perm qs → ps.Pairwise ptle → qs.Pairwise ptle → ps = qs := by
  intro ps
  induction ps with
  | nil => intro qs h _ _; exact (List.Perm.nil_eq h)
  | cons p t ih =>
    intro qs h h1 h2
    cases qs with
    | nil => exact absurd h.length_eq (by simp)
    | cons q u =>
      have hp : p = q := by
        have m1 : p ∈ q :: u := h.mem_iff.1 (List.mem_cons_self ..)
        have m2 : q ∈ p :: t := h.mem_iff.2 (List.mem_cons_self ..)
        rw [List.pairwise_cons] at h1 h2
        have a1 : ptle q p := by
          rcases List.mem_cons.1 m1 with e | e
          · rw [e]; exact ptle_refl _
          · exact h2.1 p e
        have a2 : ptle p q := by
          rcases List.mem_cons.1 m2 with e | e
          · rw [e]; exact ptle_refl _
          · exact h1.1 q e
        exact ptle_anti a2 a1
      subst hp
      rw [ih (List.Perm.cons_inv h) (List.pairwise_cons.1 h1).2 (List.pairwise_cons.1 h2).2]
/-- all backends' points -/
def allPts (bs : List Bk) : List (Nat × Nat) := bs.flatMap pts
theorem gather_all (t : List Bk) : ∀ (l : List Int) (q : List (Nat × Nat)), (l ++ ids t).Nodup → l.length + t.length ≤ 64 → gather t l q = q ++ allPts t := by
  induction t with
  | nil => intro l q _ _; show q = q ++ []; rw [List.append_nil]
  | cons b t ih =>
    intro l q hn hl
    have e : l ++ ids (b :: t) = (l ++ [b.id]) ++ ids t := by unfold ids; rw [List.map_cons, List.append_assoc]; rfl
    have hnot : b.id ∉ l := by
      intro hm
      rw [List.nodup_append] at hn
      exact hn.2.2 b.id hm b.id (by unfold ids; simp) rfl
    have hdn : dn l < 64 := by
      have := dn_le l
      simp at hl
      omega
    show gather t (l ++ [b.id]) (if b.id ∉ l ∧ dn l < 64 then q ++ pts b else q) = q ++ allPts (b :: t)
    rw [if_pos ⟨hnot, hdn⟩, ih _ _ (by rw [← e]; exact hn) (by simp at hl ⊢; omega), List.append_assoc]
    rfl
theorem newE_zero (bs : List Bk) : newE bs = 0 ↔ bs.all bk_ok = true ∧ (ids bs).Nodup ∧ bs.length ≤ 64 := by
  have hlen : (ids bs).length = bs.length := by unfold ids; rw [List.length_map]
  have hle := dn_le (ids bs)
  have hnd := dn_nodup (ids bs)
  unfold newE
  by_cases h1 : bs.all bk_ok = true
  · rw [if_pos h1]
    by_cases h2 : dn (ids bs) < bs.length
    · rw [if_pos h2]
      constructor
      · intro h; cases h
      · intro h; have := hnd.2 h.2.1; omega
    · rw [if_neg h2]
      by_cases h3 : 64 < bs.length
      · rw [if_pos h3]
        constructor
        · intro h; cases h
        · intro h; omega
      · rw [if_neg h3]
        exact ⟨fun _ => ⟨h1, hnd.1 (by omega), by omega⟩, fun _ => rfl⟩
  · rw [if_neg h1]
    constructor
    · intro h; cases h
    · intro h; exact absurd h.1 h1
theorem gath_all (bs : List Bk) (h : newE bs = 0) : gath bs bs.length = allPts bs := by
  obtain ⟨_, h2, h3⟩ := (newE_zero bs).1 h
  unfold gath
  rw [List.take_length, gather_all bs [] [] (by simpa using h2) (by simpa using h3), List.nil_append]
/-- what a backend's place on rings hangs on -/
def like (x y : Bk) : Prop := x.id = y.id ∧ x.wt = y.wt ∧ (x.addr.size = 4 ↔ y.addr.size = 4)
theorem like_pts {x y : Bk} (h : like x y) : pts x = pts y := by unfold pts; rw [h.1, h.2.1]
theorem like_ok {x y : Bk} (h : like x y) : bk_ok x = bk_ok y := by
  unfold bk_ok
  rw [h.1, h.2.1, decide_eq_decide.2 h.2.2]
theorem like_all {xs ys : List Bk} (hl : xs.length = ys.length) (h : ∀ i (h1 : i < xs.length) (h2 : i < ys.length), like xs[i] ys[i]) : ids xs = ids ys ∧ allPts xs = allPts ys ∧ xs.all bk_ok = ys.all bk_ok := by
  induction xs generalizing ys with
  | nil =>
    cases ys with
    | nil => exact ⟨rfl, rfl, rfl⟩
    | cons y t => simp at hl
  | cons x t ih =>
    cases ys with
    | nil => simp at hl
    | cons y u =>
      have h0 : like x y := h 0 (by simp) (by simp)
      obtain ⟨i1, i2, i3⟩ := ih (ys := u) (by simpa using hl) (fun i h1 h2 => h (i + 1) (by simpa using h1) (by simpa using h2))
      refine ⟨?_, ?_, ?_⟩
      · show x.id :: ids t = y.id :: ids u; rw [h0.1, i1]
      · show pts x ++ allPts t = pts y ++ allPts u; rw [like_pts h0, i2]
      · rw [List.all_cons, List.all_cons, like_ok h0, i3]
theorem perm_all {xs ys : List Bk} (h : xs.Perm ys) : (newE xs = 0 ↔ newE ys = 0) ∧ (allPts xs).Perm (allPts ys) := by
  refine ⟨?_, h.flatMap_right _⟩
  rw [newE_zero, newE_zero]
  have h1 : xs.all bk_ok = ys.all bk_ok := by
    rw [Bool.eq_iff_iff, List.all_eq_true, List.all_eq_true]
    exact ⟨fun g x hx => g x (h.mem_iff.2 hx), fun g x hx => g x (h.mem_iff.1 hx)⟩
  have h2 : (ids xs).Nodup ↔ (ids ys).Nodup := (h.map Bk.id).nodup_iff
  rw [h1, h2, h.length_eq]

end Go.Proofs.Ytgonagkhnkhcnaa
