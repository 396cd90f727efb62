import Derived.Test.YtmijfhfjhbckdaaNeed
/- The document's act. -/
namespace Go.Proofs.Ytmijfhfjhbckdaa
set_option maxRecDepth 100000
open Go.RowKit
theorem set14 {w : World} {g : Nat} {a0 a1 a2 a3 a4 a5 a6 a7 a8 a9 a10 a11 a12 a13 b0 b1 b2 b3 b4 b5 b6 b7 b8 b9 b10 b11 b12 b13 : Value} {t : TypeId} (h : w.heap[g]? = some (.cells #[a0, a1, a2, a3, a4, a5, a6, a7, a8, a9, a10, a11, a12, a13] t (0, 0))) :
    ((((((((((((((w.setCell ⟨g, 0, none⟩ b0).setCell ⟨g, 1, none⟩ b1).setCell ⟨g, 2, none⟩ b2).setCell ⟨g, 3, none⟩ b3).setCell ⟨g, 4, none⟩ b4).setCell ⟨g, 5, none⟩ b5).setCell ⟨g, 6, none⟩ b6).setCell ⟨g, 7, none⟩ b7).setCell ⟨g, 8, none⟩ b8).setCell ⟨g, 9, none⟩ b9).setCell ⟨g, 10, none⟩ b10).setCell ⟨g, 11, none⟩ b11).setCell ⟨g, 12, none⟩ b12).setCell ⟨g, 13, none⟩ b13).heap[g]? = some (.cells #[b0, b1, b2, b3, b4, b5, b6, b7, b8, b9, b10, b11, b12, b13] t (0, 0)) := by
  simp [World.setCell, Array.getElem?_modify, h]
theorem below14 {w w2 : World} {g : Nat} {b0 b1 b2 b3 b4 b5 b6 b7 b8 b9 b10 b11 b12 b13 : Value} (h : Below w.heap.size w w2) (hg : w.heap.size ≤ g) : Below w.heap.size w ((((((((((((((w2.setCell ⟨g, 0, none⟩ b0).setCell ⟨g, 1, none⟩ b1).setCell ⟨g, 2, none⟩ b2).setCell ⟨g, 3, none⟩ b3).setCell ⟨g, 4, none⟩ b4).setCell ⟨g, 5, none⟩ b5).setCell ⟨g, 6, none⟩ b6).setCell ⟨g, 7, none⟩ b7).setCell ⟨g, 8, none⟩ b8).setCell ⟨g, 9, none⟩ b9).setCell ⟨g, 10, none⟩ b10).setCell ⟨g, 11, none⟩ b11).setCell ⟨g, 12, none⟩ b12).setCell ⟨g, 13, none⟩ b13) := by
  refine Below.setCell (p := ⟨g, 13, none⟩) ?_ hg _
  refine Below.setCell (p := ⟨g, 12, none⟩) ?_ hg _
  refine Below.setCell (p := ⟨g, 11, none⟩) ?_ hg _
  refine Below.setCell (p := ⟨g, 10, none⟩) ?_ hg _
  refine Below.setCell (p := ⟨g, 9, none⟩) ?_ hg _
  refine Below.setCell (p := ⟨g, 8, none⟩) ?_ hg _
  refine Below.setCell (p := ⟨g, 7, none⟩) ?_ hg _
  refine Below.setCell (p := ⟨g, 6, none⟩) ?_ hg _
  refine Below.setCell (p := ⟨g, 5, none⟩) ?_ hg _
  refine Below.setCell (p := ⟨g, 4, none⟩) ?_ hg _
  refine Below.setCell (p := ⟨g, 3, none⟩) ?_ hg _
  refine Below.setCell (p := ⟨g, 2, none⟩) ?_ hg _
  refine Below.setCell (p := ⟨g, 1, none⟩) ?_ hg _
  refine Below.setCell (p := ⟨g, 0, none⟩) ?_ hg _
  exact h
theorem take_all {l : List UInt8} {n : Nat} (h : l.drop n = []) : l.take n = l := by
  rw [List.drop_eq_nil_iff] at h
  exact List.take_of_length_le h
end Go.Proofs.Ytmijfhfjhbckdaa
