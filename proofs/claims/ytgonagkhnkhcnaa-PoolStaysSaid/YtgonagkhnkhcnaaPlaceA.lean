import Derived.Test.YtgonagkhnkhcnaaRingDef
import Derived.StillTailTactics
/- Where a number lies on a ring: (*Ring).Place, sort.Search, (*Ring).Find, (*Ring).Len. -/
namespace Go.Proofs.Ytgonagkhnkhcnaa
set_option maxRecDepth 100000
open Go.RowKit
/-- how many points lie below a number -/
def lb (ps : List (Nat × Nat)) (n : Nat) : Nat := ps.countP (fun p => decide (p.1 < n))
theorem RingAt.below {B R : Nat} {v : Value} {ps : List (Nat × Nat)} {w w' : World} (h : RingAt B R v ps w) (hb : Below w.heap.size w w') : RingAt B R v ps w' :=
  ⟨by rw [hb.block R (heap_lt h.hR)]; exact h.hR, row_below h.row hb, h.vR, h.bR⟩
theorem RingAt.cR {B R : Nat} {v : Value} {ps : List (Nat × Nat)} {w : World} (h : RingAt B R v ps w) : w.cell? ⟨R, 0, none⟩ = some v := by rw [Lib.cell_of_heap h.hR]; rfl
theorem flat_get (ps : List (Nat × Nat)) : ∀ i (h : i < ps.length), (flat ps)[i * 2]? = some (.int .u64 ps[i].1) ∧ (flat ps)[i * 2 + 1]? = some (.int .i64 ps[i].2) := by
  induction ps with
  | nil => intro i h; cases h
  | cons p t ih =>
    intro i h
    have e : flat (p :: t) = .int .u64 p.1 :: .int .i64 p.2 :: flat t := rfl
    cases i with
    | zero => exact ⟨rfl, rfl⟩
    | succ i =>
      have := ih i (by simpa using h)
      rw [e, show (i + 1) * 2 = i * 2 + 1 + 1 by omega]
      exact this
theorem Row.shape {B : Nat} {v : Value} {ps : List (Nat × Nat)} {w : World} (h : Row B v ps w) (h0 : 0 < ps.length) : ∃ g c, v = .slice (some ⟨g, 0, none⟩) ps.length c ∧ ∀ i (hi : i < ps.length), w.cell? ⟨g, i * 2, none⟩ = some (.int .u64 ps[i].1) ∧ w.cell? ⟨g, i * 2 + 1, none⟩ = some (.int .i64 ps[i].2) := by
  obtain ⟨g, c, rfl, _⟩ := World.ownsRow.form h h0
  refine ⟨g, c, rfl, fun i hi => ?_⟩
  obtain ⟨h1, h2⟩ := flat_get ps i hi
  have e : ∀ j, (⟨g, 0, none⟩ : Addr).add j = ⟨g, j, none⟩ := fun j => by unfold Addr.add; split <;> simp_all
  exact ⟨by rw [← e]; exact World.ownsRow.cells h rfl _ _ h1, by rw [← e]; exact World.ownsRow.cells h rfl _ _ h2⟩
theorem Row.val {B : Nat} {v : Value} {ps : List (Nat × Nat)} {w : World} (h : Row B v ps w) : ∃ a c, v = .slice a ps.length c := by
  rcases h.2 with ⟨e, e0⟩ | ⟨g, cap, cur, e, _⟩
  · exact ⟨none, 0, by rw [e, e0]⟩
  · exact ⟨_, _, e⟩
set_option maxRecDepth 100000 in
set_option maxHeartbeats 1000000 in
theorem at_any (B R b1 b2 n i : Nat) (v : Value) (ps : List (Nat × Nat)) (w : World) (h1 : w.cell? ⟨b1, 0, none⟩ = some (.pointer (some ⟨R, 0, none⟩))) (h2 : w.cell? ⟨b2, 0, none⟩ = some (.int .u64 n)) (hr : RingAt B R v ps w) (hi : i < ps.length) :
    Calls Try.prog 61 #[.int .i64 i, .pointer (some ⟨b1, 0, none⟩), .pointer (some ⟨b2, 0, none⟩)] w fun e w' => e = .returned (.bool (decide (n ≤ ps[i].1))) ∧ Below w.heap.size w w' := by
  obtain ⟨g, c, rfl, hc⟩ := hr.row.shape (by omega)
  have h3 := hr.cR
  have h4 := (hc i hi).1
  obtain ⟨m, hm⟩ : ∃ m, m = ps[i].1 := ⟨_, rfl⟩
  obtain ⟨len, hlen⟩ : ∃ len, len = ps.length := ⟨_, rfl⟩
  have hi' : (i : Int) < (len : Int) := by omega
  rw [← hm] at h4 ⊢
  rw [← hlen] at h3
  clear hr hc hm hlen hi
  go_enter Try.func61, Try.ntmps61
  go_wp2_with (fail)
  go_still (by kernel_rfl)
  go_wp2
  go_ret
  exact ⟨rfl, (Below.refl _ w).drew⟩
theorem lb_split (ps : List (Nat × Nat)) (n k : Nat) (hk : k ≤ ps.length) (h1 : ∀ t (h : t < ps.length), t < k → ps[t].1 < n) (h2 : ∀ t (h : t < ps.length), k ≤ t → n ≤ ps[t].1) : lb ps n = k := by
  unfold lb
  conv => lhs; rw [← List.take_append_drop k ps]
  rw [List.countP_append]
  have e1 : (ps.take k).countP (fun p => decide (p.1 < n)) = k := by
    have : (ps.take k).countP (fun p => decide (p.1 < n)) = (ps.take k).length := by
      rw [List.countP_eq_length]
      intro a ha
      obtain ⟨t, ht, rfl⟩ := List.getElem_of_mem ha
      rw [List.getElem_take]
      rw [List.length_take] at ht
      exact decide_eq_true (h1 t (by omega) (by omega))
    rw [this, List.length_take]; omega
  have e2 : (ps.drop k).countP (fun p => decide (p.1 < n)) = 0 := by
    rw [List.countP_eq_zero]
    intro a ha
    obtain ⟨t, ht, rfl⟩ := List.getElem_of_mem ha
    rw [List.getElem_drop]
    rw [List.length_drop] at ht
    have := h2 (k + t) (by omega) (by omega)
    simp; omega
  rw [e1, e2, Nat.add_zero]
theorem sorted_le {ps : List (Nat × Nat)} (hs : ps.Pairwise ptle) {i j : Nat} (hij : i ≤ j) (hj : j < ps.length) : ps[i].1 ≤ ps[j].1 := by
  rcases Nat.lt_or_ge i j with h | h
  · have := List.pairwise_iff_getElem.1 hs i j (by omega) hj h
    rcases this with h | ⟨h, _⟩ <;> omega
  · have : i = j := by omega
    subst this; exact Nat.le_refl _

end Go.Proofs.Ytgonagkhnkhcnaa
