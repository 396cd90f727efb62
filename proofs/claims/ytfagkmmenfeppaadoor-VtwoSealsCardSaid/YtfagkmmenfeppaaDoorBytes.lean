import Derived.Test.YtfagkmmenfeppaaDoorFlds
import Derived.Test.YtfagkmmenfeppaaDoorFlips
import Derived.Lib.ConvBytes
import Derived.Laws.BytesArg
import Derived.Laws.IdiomStrings
/- A row of bytes that []byte(s) has made: read, written, and back to a text. -/
namespace Go.Proofs.YtfagkmmenfeppaaDoor
set_option maxRecDepth 100000
open Go.RowKit
/-- block g holds the bytes l, then whatever; it may be written. -/
def BRow (w : World) (g : Nat) (l : List UInt8) : Prop :=
  ∃ (C : Array Value), w.heap[g]? = some (.cells C 5 (C.size, C.size + 1)) ∧ l.length ≤ C.size ∧ ∀ j (h : j < l.length), C[j]? = some (.int .u8 l[j].toNat)
theorem BRow.cell {w : World} {g : Nat} {l : List UInt8} (h : BRow w g l) {j : Nat} (hj : j < l.length) : w.cell? ⟨g, j, none⟩ = some (.int .u8 (l.getD j 0).toNat) := by
  obtain ⟨C, h1, h2, h3⟩ := h
  rw [cell_of_row w g j C 5 _ h1, h3 j hj, List.getD_eq_getElem?_getD, List.getElem?_eq_getElem hj]; rfl
theorem BRow.free {w : World} {g : Nat} {l : List UInt8} (h : BRow w g l) {j : Nat} (hj : j < l.length) : w.frozen? ⟨g, j, none⟩ = false := by
  obtain ⟨C, h1, h2, h3⟩ := h
  simp [World.frozen?, h1]; omega
theorem BRow.drew {w : World} {g : Nat} {l : List UInt8} (h : BRow w g l) : BRow w.drew g l := h
theorem BRow.set {w : World} {g : Nat} {l : List UInt8} (h : BRow w g l) (j : Nat) (b : UInt8) : BRow (w.setCell ⟨g, j, none⟩ (.int .u8 b.toNat)) g (l.set j b) := by
  obtain ⟨C, h1, h2, h3⟩ := h
  refine ⟨C.setIfInBounds j (.int .u8 b.toNat), ?_, by simpa using h2, fun i hi => ?_⟩
  · simp [World.setCell, Array.getElem?_modify, h1]
  · simp at hi
    rw [Array.getElem?_setIfInBounds, List.getElem_set]
    by_cases hij : j = i
    · subst hij; simp; omega
    · simp [hij, h3 i hi]
theorem conv_any (w : World) (s : ByteArray) : ∃ W1 cap, (convert 9 40 (.string s)).run Tryd.prog w = .ok (.slice (some ⟨w.heap.size, 0, none⟩) s.size cap) W1 ∧ Below w.heap.size w W1 ∧ BRow W1 w.heap.size s.data.toList := by
  refine ⟨_, _, Lib.run_convert_string_bytes w 9 40 5 s Tryd.underlying9 Tryd.underlying40 Tryd.underlying5, ?_, ?_⟩
  · unfold Lib.bytesWorld
    exact ⟨rfl, rfl, rfl, by simp [World.freeze], fun k hk => Lib.bytesWorld_at_old w 5 s k hk⟩
  · refine ⟨_, Lib.bytesWorld_at_new _ _ _, ?_, fun j h => ?_⟩
    · simp [Lib.bytesCells]
    · simp at h
      simp [Lib.bytesCells, Array.getElem?_append, h]
theorem back_any {w : World} {g : Nat} {l : List UInt8} (h : BRow w g l) (n cap : Nat) (hn : l.length = n) : (convert 40 9 (.slice (some ⟨g, 0, none⟩) n cap)).run Tryd.prog w = .ok (.string ⟨l.toArray⟩) w := by
  have hb := run_convert_bytes_arg (P := Tryd.prog) w 40 5 Tryd.underlying40 Tryd.underlying5 g 0 n cap (l.map fun b => (b.toNat : Int)) (by simpa using hn) (fun i hi => by
    rw [Nat.zero_add, h.cell (by omega)]
    simp [List.getElem?_eq_getElem (show i < l.length by omega), List.getD_eq_getElem?_getD]) 9 Tryd.underlying9
  rw [hb]
  congr 2
  simp only [strOfNums, List.map_map]
  congr 2
  conv => rhs; rw [← List.map_id l]
  apply List.map_congr_left
  intro x _
  simp
theorem xor_u8 (b : UInt8) (j : Nat) (hj : j < 8) : bits .xor .u8 (b.toNat : Int) (2 ^ j % 256) = ((b ^^^ Crc.bitAt j).toNat : Int) := by
  have : ∀ (b : Fin 256) (j : Fin 8), bits .xor .u8 (b.val : Int) (2 ^ j.val % 256) = (((UInt8.ofNat b.val) ^^^ Crc.bitAt j.val).toNat : Int) := by decide +kernel
  have h := this ⟨b.toNat, b.toNat_lt⟩ ⟨j, hj⟩
  rw [UInt8.ofNat_toNat] at h
  exact h
theorem flip_facts {W1 : World} {g : Nat} {l : List UInt8} (hrow : BRow W1 g l) (n : Nat) (hn : l.length = n) (p : Nat) (hp : p < 8 * n) :
    ∃ (i j : Nat) (b b' : UInt8) (W2 : World), W1.cell? ⟨g, i, none⟩ = some (.int .u8 b.toNat) ∧ W1.frozen? ⟨g, i, none⟩ = false ∧ (p : Int) / 8 = (i : Int) ∧ (p : Int) % 8 = (j : Int) ∧ i < n ∧ (i : Int) < (n : Int) ∧ j < 8 ∧
      bits .xor .u8 (b.toNat : Int) (2 ^ j % 256) = (b'.toNat : Int) ∧ Hid ((W1.setCell ⟨g, i, none⟩ (.int .u8 b'.toNat)).drew = W2) ∧ BRow W2 g (Crc.flip l p) ∧ (∀ w : World, w.heap.size ≤ g → Below w.heap.size w W1 → Below w.heap.size w W2) := by
  have hi : p / 8 < l.length := by omega
  refine ⟨p / 8, p % 8, l.getD (p / 8) 0, _, _, hrow.cell hi, hrow.free hi, by omega, by omega, by omega, by omega, by omega, xor_u8 _ _ (by omega), rfl, (hrow.set _ _).drew, fun w hg hb => (hb.setCell hg _).drew⟩
end Go.Proofs.YtfagkmmenfeppaaDoor
