import Derived.Test.YtgonagkhnkhcnaaRingNew
import Derived.Test.YtgonagkhnkhcnaaPlace
/- RingShares: the walk. -/
namespace Go.Proofs.Ytgonagkhnkhcnaa
set_option maxRecDepth 100000
open Go.RowKit
theorem lb_ex (ps : List (Nat × Nat)) (n : Nat) (hs : ps.Pairwise ptle) : ∃ k, k ≤ ps.length ∧ (∀ t (h : t < ps.length), t < k → ps[t].1 < n) ∧ (∀ t (h : t < ps.length), k ≤ t → n ≤ ps[t].1) := by
  induction ps with
  | nil => refine ⟨0, Nat.le_refl _, ?_, ?_⟩ <;> (intro t h; cases h)
  | cons p t ih =>
    rw [List.pairwise_cons] at hs
    by_cases hp : p.1 < n
    · obtain ⟨k, h1, h2, h3⟩ := ih hs.2
      refine ⟨k + 1, by simp; omega, fun i h hi => ?_, fun i h hi => ?_⟩
      · cases i with
        | zero => exact hp
        | succ i => exact h2 i (by simpa using h) (by omega)
      · cases i with
        | zero => omega
        | succ i => exact h3 i (by simpa using h) (by omega)
    · refine ⟨0, Nat.zero_le _, fun i h hi => by omega, fun i h _ => ?_⟩
      cases i with
      | zero => show n ≤ p.1; omega
      | succ i =>
        have hi : i < t.length := by simpa using h
        have := hs.1 _ (List.getElem_mem hi)
        show n ≤ t[i].1
        rcases this with h | ⟨h, _⟩ <;> omega
theorem lb_spec (ps : List (Nat × Nat)) (n : Nat) (hs : ps.Pairwise ptle) : lb ps n ≤ ps.length ∧ (∀ t (h : t < ps.length), t < lb ps n → ps[t].1 < n) ∧ (∀ t (h : t < ps.length), lb ps n ≤ t → n ≤ ps[t].1) := by
  obtain ⟨k, h1, h2, h3⟩ := lb_ex ps n hs
  rw [lb_split ps n k h1 h2 h3]
  exact ⟨h1, h2, h3⟩
theorem BkIn.below {w w' : World} {a : Option Addr} {bs : List Bk} (h : BkIn w a bs) (hb : Below w.heap.size w w') : BkIn w' a bs := by
  intro j hj
  obtain ⟨x, hx, c0, c1, c2⟩ := h j hj
  exact ⟨x, hx, (hb.cell (World.block_lt_of_cell? w _ c0)).trans c0, (hb.cell (World.block_lt_of_cell? w _ c1)).trans c1, (hb.cell (World.block_lt_of_cell? w _ c2)).trans c2⟩
theorem row_le {B : Nat} {v : Value} {ps : List (Nat × Nat)} {w w1 W : World} (h : Row B v ps w1) (hb : Below w1.heap.size w1 W) : Row B v ps W := row_below h hb
end Go.Proofs.Ytgonagkhnkhcnaa
