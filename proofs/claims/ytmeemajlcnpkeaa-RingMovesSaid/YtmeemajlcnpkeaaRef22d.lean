import Derived.Test.YtmeemajlcnpkeaaRef22c
import Derived.Test.YtmeemajlcnpkeaaFilt
/- The document's order of points. -/
namespace Go.Proofs.Ytmeemajlcnpkeaa
open Go.RowKit
/-- strictly ahead -/
def aheadB (x y : Nat × Nat) : Bool := decide (x.1 < y.1 ∨ (x.1 = y.1 ∧ x.2 < y.2))
theorem ahead_false {x y : Nat × Nat} (h : aheadB x y = false) : ptle y x := by
  have h := of_decide_eq_false h
  unfold ptle; omega
theorem ahead_true {x y : Nat × Nat} (h : aheadB x y = true) : ptle x y := by
  have h := of_decide_eq_true h
  unfold ptle; omega
theorem ptle_trans {x y z : Nat × Nat} (h1 : ptle x y) (h2 : ptle y z) : ptle x z := by
  unfold ptle at *; omega
set_option maxRecDepth 100000 in
set_option maxHeartbeats 1000000 in
theorem rahead_any (a b c d : Nat) (w : World) :
    Calls Try.prog 33 #[.agg #[.int .u64 a, .int .i64 b], .agg #[.int .u64 c, .int .i64 d]] w fun e w' => e = .returned (.bool (aheadB (a, b) (c, d))) ∧ Below w.heap.size w w' := by
  obtain ⟨r, hr⟩ : ∃ r, r = aheadB (a, b) (c, d) := ⟨_, rfl⟩
  rw [← hr]
  have hb : Hid (Below w.heap.size w ((w.alloc (.cells #[.int .u64 a, .int .i64 b] 49)).alloc (.cells #[.int .u64 c, .int .i64 d] 49))) :=
    ((Below.refl _ w).alloc (Nat.le_refl _) _).alloc (by rw [World.size_alloc]; omega) _
  by_cases h1 : a < c
  · have e0 : r = true := by rw [hr]; exact decide_eq_true (.inl h1)
    have t1 : decide (a < c) = true := decide_eq_true h1
    clear hr
    subst e0
    go_enter Try.func33, Try.ntmps33
    go_wp2_with (fail)
    go_ret
    exact ⟨rfl, hb.out⟩
  · have t1 : decide (a < c) = false := decide_eq_false h1
    by_cases h2 : a = c
    · subst h2
      by_cases h3 : b < d
      · have e0 : r = true := by rw [hr]; exact decide_eq_true (.inr ⟨rfl, h3⟩)
        have t3 : decide (b < d) = true := decide_eq_true h3
        clear hr
        subst e0
        go_enter Try.func33, Try.ntmps33
        go_wp2_with (fail)
        go_ret
        exact ⟨rfl, hb.out⟩
      · have e0 : r = false := by rw [hr]; exact decide_eq_false (by intro h; rcases h with h | ⟨_, h⟩ <;> omega)
        have t3 : decide (b < d) = false := decide_eq_false h3
        clear hr
        subst e0
        go_enter Try.func33, Try.ntmps33
        go_wp2_with (fail)
        go_ret
        exact ⟨rfl, hb.out⟩
    · have e0 : r = false := by rw [hr]; exact decide_eq_false (by intro h; rcases h with h | ⟨h, _⟩ <;> omega)
      have t2 : ((a : Int) == (c : Int)) = false := by rw [beq_eq_false_iff_ne]; omega
      have t3 : (a == c) = false := by rw [beq_eq_false_iff_ne]; exact h2
      clear hr
      subst e0
      go_enter Try.func33, Try.ntmps33
      go_wp2_with (fail)
      go_ret
      exact ⟨rfl, hb.out⟩
/-- the least of those that are not below n, or of all: what the document finds -/
theorem own_least (ps : List (Nat × Nat)) (n : Nat) (hs : ps.Pairwise ptle) (x : Nat × Nat) (hx : x ∈ ps) (hn : n ≤ x.1) (hl : ∀ y ∈ ps, n ≤ y.1 → ptle x y) : own ps n = x.2 := by
  obtain ⟨k1, k2, k3⟩ := lb_spec ps n hs
  have h0 : 0 < ps.length := List.length_pos_of_mem hx
  have hlt : lb ps n < ps.length := by
    obtain ⟨t, ht, rfl⟩ := List.getElem_of_mem hx
    rcases Nat.lt_or_ge t (lb ps n) with h | h
    · have := k2 t ht h; omega
    · omega
  rw [own_eq ps n _ hlt (Nat.mod_eq_of_lt hlt)]
  have a1 : ptle x ps[lb ps n] := hl _ (List.getElem_mem hlt) (k3 _ hlt (Nat.le_refl _))
  have a2 : ptle ps[lb ps n] x := by
    obtain ⟨t, ht, rfl⟩ := List.getElem_of_mem hx
    rcases Nat.lt_or_ge t (lb ps n) with h | h
    · have := k2 t ht h; omega
    · rcases Nat.lt_or_ge (lb ps n) t with h2 | h2
      · exact List.pairwise_iff_getElem.1 hs _ _ hlt ht h2
      · have : lb ps n = t := by omega
        simp only [this]; exact ptle_refl _
  rw [ptle_anti a1 a2]
theorem own_first (ps : List (Nat × Nat)) (n : Nat) (hs : ps.Pairwise ptle) (x : Nat × Nat) (hx : x ∈ ps) (hn : ∀ y ∈ ps, y.1 < n) (hl : ∀ y ∈ ps, ptle x y) : own ps n = x.2 := by
  obtain ⟨k1, k2, k3⟩ := lb_spec ps n hs
  have h0 : 0 < ps.length := List.length_pos_of_mem hx
  have hk : lb ps n = ps.length := by
    rcases Nat.lt_or_ge (lb ps n) ps.length with h | h
    · have := k3 _ h (Nat.le_refl _)
      have := hn _ (List.getElem_mem h)
      omega
    · omega
  rw [own_eq ps n 0 h0 (by rw [hk, Nat.mod_self])]
  have a1 : ptle x ps[0] := hl _ (List.getElem_mem h0)
  have a2 : ptle ps[0] x := by
    obtain ⟨t, ht, rfl⟩ := List.getElem_of_mem hx
    rcases Nat.eq_zero_or_pos t with h | h
    · subst h; exact ptle_refl _
    · exact List.pairwise_iff_getElem.1 hs 0 t h0 ht h
  rw [ptle_anti a1 a2]
end Go.Proofs.Ytmeemajlcnpkeaa
