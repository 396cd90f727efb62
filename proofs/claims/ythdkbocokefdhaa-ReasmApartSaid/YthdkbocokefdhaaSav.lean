import Derived.Test.YthdkbocokefdhaaReadL
import Derived.Laws.Rows
import Derived.StillTailTactics
import Derived.Deep.RegionHeld3
import Derived.Deep.RegionWith
import Derived.RegionDies
import Derived.Deep.DeepCutAuto
/- What stays, but for some blocks. -/
namespace Go.Proofs.Ythdkbocokefdhaa
set_option maxRecDepth 100000
set_option maxRecDepth 100000
open Go.RowKit
structure Save (l : List Nat) (w w' : World) : Prop where
  os : w'.os = w.os
  tape : w'.tape = w.tape
  output : w'.output = w.output
  size : w.heap.size ≤ w'.heap.size
  block : ∀ k, k < w.heap.size → k ∉ l → w'.heap[k]? = w.heap[k]?
theorem Save.refl (l : List Nat) (w : World) : Save l w w := ⟨rfl, rfl, rfl, Nat.le_refl _, fun _ _ _ => rfl⟩
theorem Save.trans {l : List Nat} {w w1 w2 : World} (h : Save l w w1) (k : Save l w1 w2) : Save l w w2 :=
  ⟨k.os.trans h.os, k.tape.trans h.tape, k.output.trans h.output, Nat.le_trans h.size k.size, fun i hi hn => (k.block i (Nat.lt_of_lt_of_le hi h.size) hn).trans (h.block i hi hn)⟩
theorem Save.mono {l m : List Nat} {w w' : World} (h : Save l w w') (hm : ∀ k, k ∈ l → k ∈ m) : Save m w w' := ⟨h.os, h.tape, h.output, h.size, fun k hk hn => h.block k hk (fun hl => hn (hm k hl))⟩
theorem Save.of_below {l : List Nat} {w w' : World} (h : Below w.heap.size w w') : Save l w w' := ⟨h.os, h.tape, h.output, h.size, fun k hk _ => h.block k hk⟩
theorem But.save {b : Nat} {l : List Nat} {w w' : World} (h : But b w w') (hb : b ∈ l) : Save l w w' := ⟨h.os, h.tape, h.output, h.size, fun k hk hn => h.block k hk (fun e => hn (e ▸ hb))⟩
theorem Save.drew {l : List Nat} {w w' : World} (h : Save l w w') : Save l w w'.drew := ⟨h.os, h.tape, h.output, h.size, h.block⟩
theorem Save.drewN {l : List Nat} {w w' : World} (h : Save l w w') (n : Nat) : Save l w (w'.drewN n) := ⟨h.os, h.tape, h.output, h.size, h.block⟩
theorem Save.set {l : List Nat} {w w' : World} (h : Save l w w') {p : Addr} (hp : p.block ∈ l ∨ w.heap.size ≤ p.block) (v : Value) : Save l w (w'.setCell p v) :=
  ⟨h.os, h.tape, h.output, by simpa [World.setCell] using h.size, fun k hk hn => by
    rw [Below.heap_setCell _ _ _ _ (fun e => by
      rcases hp with h1 | h1
      · exact hn (e ▸ h1)
      · omega)]
    exact h.block k hk hn⟩
theorem Save.alloc {l : List Nat} {w w' : World} (h : Save l w w') (o : Obj) : Save l w (w'.alloc o) :=
  h.trans (Save.of_below ((Below.refl _ _).alloc (Nat.le_refl _) _))
theorem Save.below {l : List Nat} {B : Nat} {w w' : World} (h : Save l w w') (h1 : ∀ k ∈ l, B ≤ k) (h2 : B ≤ w.heap.size) : Below B w w' :=
  ⟨h.os, h.tape, h.output, h.size, fun k hk => h.block k (by omega) (fun hl => by have := h1 k hl; omega)⟩
theorem heap_lt {w : World} {k : Nat} {o : Obj} (h : w.heap[k]? = some o) : k < w.heap.size := by
  rcases Nat.lt_or_ge k w.heap.size with h' | h'
  · exact h'
  · simp [Array.getElem?_eq_none h'] at h
theorem cellAt {w : World} {X i : Nat} {C : Array Value} {t : TypeId} {v : Value} (h : w.heap[X]? = some (.cells C t (0, 0))) (hi : C[i]? = some v) : w.cell? ⟨X, i, none⟩ = some v := by
  rw [Lib.cell_of_heap h]; exact hi
theorem heap_set {w : World} {X i : Nat} {C : Array Value} {t : TypeId} (h : w.heap[X]? = some (.cells C t (0, 0))) (hi : i < C.size) (v : Value) : (w.setCell ⟨X, i, none⟩ v).heap[X]? = some (.cells (C.set i v) t (0, 0)) := by
  simp [World.setCell, Array.getElem?_modify, h, hi]
  rw [Array.setIfInBounds_def, dif_pos hi]
theorem alloc_new (w : World) (o : Obj) : (w.alloc o).heap[w.heap.size]? = some o := by
  show (w.heap.push o)[w.heap.size]? = _
  simp
end Go.Proofs.Ythdkbocokefdhaa
