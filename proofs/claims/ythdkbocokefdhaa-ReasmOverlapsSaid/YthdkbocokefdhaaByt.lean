import Derived.Test.YthdkbocokefdhaaStr
import Derived.Laws.BitsAllLaws
import Derived.Lib.ConvBytes
import Derived.Laws.BytesArg
import Derived.Laws.IdiomStrings
/- A row of bytes that []byte(s) has made: read, written, and back to a text. -/
namespace Go.Proofs.Ythdkbocokefdhaa
set_option maxRecDepth 100000
open Go.RowKit
/-- block g holds the bytes l, then whatever; it may be written. -/
def BRow (w : World) (g : Nat) (l : List UInt8) : Prop :=
  ∃ (C : Array Value), w.heap[g]? = some (.cells C 5 (C.size, C.size + 1)) ∧ l.length ≤ C.size ∧ ∀ j (h : j < l.length), C[j]? = some (.int .u8 l[j].toNat)
theorem BRow.cell {w : World} {g : Nat} {l : List UInt8} (h : BRow w g l) {j : Nat} (hj : j < l.length) : w.cell? ⟨g, j, none⟩ = some (.int .u8 (l.getD j 0).toNat) := by
  obtain ⟨C, h1, h2, h3⟩ := h
  rw [cell_of_row w g j C 5 _ h1, h3 j hj, List.getD_eq_getElem?_getD, List.getElem?_eq_getElem hj]; rfl
theorem BRow.free {w : World} {g : Nat} {l : List UInt8} (h : BRow w g l) {j : Nat} (hj : j < l.length) : w.frozen? ⟨g, j, none⟩ = false := by
  obtain ⟨C, h1, h2, h3⟩ := h
  simp [World.frozen?, h1]; omega
theorem BRow.drew {w : World} {g : Nat} {l : List UInt8} (h : BRow w g l) : BRow w.drew g l := h
theorem BRow.set {w : World} {g : Nat} {l : List UInt8} (h : BRow w g l) (j : Nat) (b : UInt8) : BRow (w.setCell ⟨g, j, none⟩ (.int .u8 b.toNat)) g (l.set j b) := by
  obtain ⟨C, h1, h2, h3⟩ := h
  refine ⟨C.setIfInBounds j (.int .u8 b.toNat), ?_, by simpa using h2, fun i hi => ?_⟩
  · simp [World.setCell, Array.getElem?_modify, h1]
  · simp at hi
    rw [Array.getElem?_setIfInBounds, List.getElem_set]
    by_cases hij : j = i
    · subst hij; simp; omega
    · simp [hij, h3 i hi]
theorem conv_any (w : World) (s : ByteArray) : ∃ W1 cap, (convert 9 53 (.string s)).run Try.prog w = .ok (.slice (some ⟨w.heap.size, 0, none⟩) s.size cap) W1 ∧ Below w.heap.size w W1 ∧ BRow W1 w.heap.size s.data.toList := by
  refine ⟨_, _, Lib.run_convert_string_bytes w 9 53 5 s Try.underlying9 Try.underlying53 Try.underlying5, ?_, ?_⟩
  · unfold Lib.bytesWorld
    exact ⟨rfl, rfl, rfl, by simp [World.freeze], fun k hk => Lib.bytesWorld_at_old w 5 s k hk⟩
  · refine ⟨_, Lib.bytesWorld_at_new _ _ _, ?_, fun j h => ?_⟩
    · simp [Lib.bytesCells]
    · simp at h
      simp [Lib.bytesCells, Array.getElem?_append, h]
theorem back_any {w : World} {g : Nat} {l : List UInt8} (h : BRow w g l) (n cap : Nat) (hn : l.length = n) : (convert 53 9 (.slice (some ⟨g, 0, none⟩) n cap)).run Try.prog w = .ok (.string ⟨l.toArray⟩) w := by
  have hb := run_convert_bytes_arg (P := Try.prog) w 53 5 Try.underlying53 Try.underlying5 g 0 n cap (l.map fun b => (b.toNat : Int)) (by simpa using hn) (fun i hi => by
    rw [Nat.zero_add, h.cell (by omega)]
    simp [List.getElem?_eq_getElem (show i < l.length by omega), List.getD_eq_getElem?_getD]) 9 Try.underlying9
  rw [hb]
  congr 2
  simp only [strOfNums, List.map_map]
  congr 2
  conv => rhs; rw [← List.map_id l]
  apply List.map_congr_left
  intro x _
  simp
theorem BRow.below {w w' : World} {g : Nat} {l : List UInt8} (h : BRow w g l) (hb : Below w.heap.size w w') : BRow w' g l := by
  obtain ⟨C, h1, h2, h3⟩ := h
  have hlt : g < w.heap.size := by
    rcases Nat.lt_or_ge g w.heap.size with h' | h'
    · exact h'
    · simp [Array.getElem?_eq_none h'] at h1
  exact ⟨C, (hb.block _ hlt).trans h1, h2, h3⟩
theorem xor_b (a b : UInt8) : bits .xor .u8 (a.toNat : Int) (b.toNat : Int) = ((a ^^^ b).toNat : Int) := by
  rw [u8_xor_nat _ _ a.toNat_lt b.toNat_lt, UInt8.toNat_xor]
end Go.Proofs.Ythdkbocokefdhaa
