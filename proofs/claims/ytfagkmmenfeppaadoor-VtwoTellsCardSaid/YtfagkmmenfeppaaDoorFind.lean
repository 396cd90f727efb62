import Derived.Test.YtfagkmmenfeppaaDoorRead
import Derived.Laws.Rows
/- find: the family that is asked for. -/
namespace Go.Proofs.YtfagkmmenfeppaaDoor
set_option maxRecDepth 100000
open Go.RowKit
/-- a family: its number, its byte, how long its addresses are -/
abbrev Fam := Nat × Nat × Nat
def fams : List Fam := [(0, 0, 0), (1, 17, 4), (3, 18, 4), (2, 33, 16), (4, 34, 16)]
def famV (f : Fam) : Value := .agg #[.int .i64 f.1, .int .i64 f.2.1, .int .i64 f.2.2]
/-- the table lies where it was laid -/
def FamAt (w : World) : Prop := ∃ t fr, w.heap[0]? = some (.cells #[.int .i64 0, .int .i64 0, .int .i64 0, .int .i64 1, .int .i64 17, .int .i64 4, .int .i64 3, .int .i64 18, .int .i64 4, .int .i64 2, .int .i64 33, .int .i64 16, .int .i64 4, .int .i64 34, .int .i64 16] t fr)
def famsC : Array Value := #[.int .i64 0, .int .i64 0, .int .i64 0, .int .i64 1, .int .i64 17, .int .i64 4, .int .i64 3, .int .i64 18, .int .i64 4, .int .i64 2, .int .i64 33, .int .i64 16, .int .i64 4, .int .i64 34, .int .i64 16]
theorem fam_index0 (w : World) : (Instr.index 85 (.agg famsC) (.int .i64 0)).run Tryd.prog w = .ok (famV (0, 0, 0)) w := by kernel_rfl
theorem fam_index1 (w : World) : (Instr.index 85 (.agg famsC) (.int .i64 1)).run Tryd.prog w = .ok (famV (1, 17, 4)) w := by kernel_rfl
theorem fam_index2 (w : World) : (Instr.index 85 (.agg famsC) (.int .i64 2)).run Tryd.prog w = .ok (famV (3, 18, 4)) w := by kernel_rfl
theorem fam_index3 (w : World) : (Instr.index 85 (.agg famsC) (.int .i64 3)).run Tryd.prog w = .ok (famV (2, 33, 16)) w := by kernel_rfl
theorem fam_index4 (w : World) : (Instr.index 85 (.agg famsC) (.int .i64 4)).run Tryd.prog w = .ok (famV (4, 34, 16)) w := by kernel_rfl
theorem fam_index (k : Nat) (hk : k < 5) (w : World) : (Instr.index 85 (.agg famsC) (.int .i64 k)).run Tryd.prog w = .ok (famV (fams.getD k (0, 0, 0))) w := by
  have : k = 0 ∨ k = 1 ∨ k = 2 ∨ k = 3 ∨ k = 4 := by omega
  rcases this with rfl | rfl | rfl | rfl | rfl
  · exact fam_index0 w
  · exact fam_index1 w
  · exact fam_index2 w
  · exact fam_index3 w
  · exact fam_index4 w
theorem FamAt.below {B : Nat} {w w' : World} (h : FamAt w) (hB : 0 < B) (hb : Below B w w') : FamAt w' := by
  obtain ⟨t, fr, h⟩ := h
  exact ⟨t, fr, by rw [hb.block 0 hB]; exact h⟩
theorem FamAt.pos {w : World} (h : FamAt w) : 0 < w.heap.size := by
  obtain ⟨t, fr, h⟩ := h
  rcases Nat.lt_or_ge 0 w.heap.size with h' | h'
  · exact h'
  · simp [Array.getElem?_eq_none h'] at h
theorem alloc_new (w : World) (o : Obj) : (w.alloc o).heap[w.heap.size]? = some o := by
  show (w.heap.push o)[w.heap.size]? = _
  simp
theorem find_no {p : Fam → Bool} (h : ∀ f ∈ fams.take 5, p f = false) : fams.find? p = none := by
  rw [List.find?_eq_none]
  intro f hf; rw [h f hf]; simp
theorem find_yes {p : Fam → Bool} {k : Nat} {f : Fam} (h : ∀ f ∈ fams.take k, p f = false) (ht : fams.take (k + 1) = fams.take k ++ [f]) (hp : p f = true) : fams.find? p = some f := by
  rw [← List.take_append_drop (k + 1) fams, ht, List.append_assoc, List.find?_append, List.find?_eq_none.2 (fun x hx => by rw [h x hx]; simp)]
  simp [hp]
theorem set3 {w : World} {g : Nat} {a b c x y z : Value} {t : TypeId} (h : w.heap[g]? = some (.cells #[a, b, c] t (0, 0))) : (((w.setCell ⟨g, 0, none⟩ x).setCell ⟨g, 1, none⟩ y).setCell ⟨g, 2, none⟩ z).heap[g]? = some (.cells #[x, y, z] t (0, 0)) := by
  simp [World.setCell, Array.getElem?_modify, h]
theorem find_end {w W : World} {fn fc fz : Nat} {b : Bool} {tmps : Array Value} (h2 : tmps.getD 2 undef = .pointer (some ⟨w.heap.size, 0, none⟩)) (h3 : tmps.getD 3 undef = .bool b)
    (h : W.heap[w.heap.size]? = some (.cells #[.int .i64 fn, .int .i64 fc, .int .i64 fz] 48 (0, 0))) : (results Tryd.f17 tmps).run Tryd.prog W = .ok (.tuple #[famV (fn, fc, fz), .bool b]) W := by
  have c0 : W.cell? ⟨w.heap.size, 0, none⟩ = some (.int .i64 fn) := by rw [Lib.cell_of_heap h]; rfl
  have c1 : W.cell? ⟨w.heap.size, 1, none⟩ = some (.int .i64 fc) := by rw [Lib.cell_of_heap h]; rfl
  have c2 : W.cell? ⟨w.heap.size, 2, none⟩ = some (.int .i64 fz) := by rw [Lib.cell_of_heap h]; rfl
  simp at h2 h3
  simp [results, Tryd.results17, go_sem, h2, h3, c0, c1, c2, famV]
theorem info85 : (Tryd.prog.info? 85).map (·.size) = some famsC.size := by kernel_rfl
set_option maxHeartbeats 2000000 in
theorem find_any (g : Nat) (cap : Array Value) (p : Fam → Bool) (w : World) (hf : FamAt w)
    (hg : ∀ (args : Array Value) (W : World), (callFunc g args).run Tryd.prog W = .ok (.enter g args) W)
    (H : ∀ f ∈ fams, ∀ W, Below w.heap.size w W → Calls Tryd.prog g (#[famV f] ++ cap) W fun e w' => e = .returned (.bool (p f)) ∧ Below W.heap.size W w') :
    Calls Tryd.prog 17 #[.func (.func g) #[] cap] w fun e w' => e = .returned (.tuple #[famV ((fams.find? p).getD (0, 0, 0)), .bool (fams.find? p).isSome]) ∧ Below w.heap.size w w' := by
  have h1 := hf.below hf.pos ((Below.refl w.heap.size w).alloc (Nat.le_refl _) (.cells #[.int .i64 0, .int .i64 0, .int .i64 0] 48))
  obtain ⟨t, fr, h1⟩ := h1
  have HH := Lib.hid H
  have H1 : Hid ((w.alloc (.cells #[.int .i64 0, .int .i64 0, .int .i64 0] 48)).heap[0]? = some (.cells famsC t fr)) := h1
  clear h1 H hf
  go_enter Tryd.func17, Tryd.ntmps17
  go_wp2_with (with_reducible refine wpList_load_row rfl 85 (.global 0) rfl 0 rfl t famsC fr _ H1.out Tryd.underlying85 rfl info85 ?_)
  go_loopw [5, 7, 9] (fun _ i _ wr => ∃ k : Nat, k ≤ 5 ∧ i = .int .i64 k ∧ Hid (∀ f ∈ fams.take k, p f = false) ∧ Hid (Below w.heap.size w wr) ∧ Hid (wr.heap[w.heap.size]? = some (.cells #[.int .i64 0, .int .i64 0, .int .i64 0] 48 (0, 0)))) (fun _ i _ _ => 5 - (intOf i).toNat)
  case atStart => exact ⟨0, by omega, rfl, (fun _ h => by cases h), (Below.refl _ _).alloc (Nat.le_refl _) _, alloc_new _ _⟩
  case round =>
    obtain ⟨k, hk, rfl, hno, hb, hcur⟩ := hrel
    by_cases hlt : k < 5
    · have hix := fun w => fam_index k hlt w
      have hmem : Hid (fams.getD k (0, 0, 0) ∈ fams) := by
        rw [List.getD_eq_getElem?_getD, List.getElem?_eq_getElem (by exact hlt)]; exact List.getElem_mem _
      have htk : Hid (fams.take (k + 1) = fams.take k ++ [fams.getD k (0, 0, 0)]) := by
        rw [List.getD_eq_getElem?_getD, List.getElem?_eq_getElem (by exact hlt)]
        exact List.take_succ_eq_append_getElem (by exact hlt)
      obtain ⟨⟨fn, fc, fz⟩, hfk⟩ : ∃ f, f = fams.getD k (0, 0, 0) := ⟨_, rfl⟩
      rw [← hfk] at hix hmem htk
      simp only [famV] at hix
      have C := Lib.hid (HH.out (fn, fc, fz) hmem.out)
      clear hfk
      have hb1 : Below w.heap.size w (wr.alloc (.cells #[.int .i64 fn, .int .i64 fc, .int .i64 fz] 48)) := hb.out.alloc hb.out.size _
      have CC := C.out _ hb1
      have hcur1 : (wr.alloc (.cells #[.int .i64 fn, .int .i64 fc, .int .i64 fz] 48)).heap[w.heap.size]? = some (.cells #[.int .i64 0, .int .i64 0, .int .i64 0] 48 (0, 0)) := by
        rw [Below.heap_alloc _ _ _ (by
          rcases Nat.lt_or_ge w.heap.size wr.heap.size with h' | h'
          · exact h'
          · have := hcur.out; simp [Array.getElem?_eq_none h'] at this)]
        exact hcur.out
      have hnew := alloc_new wr (.cells #[.int .i64 fn, .int .i64 fc, .int .i64 fz] 48)
      have HB1 := Lib.hid hb1
      have HC := Lib.hid CC
      have HCur := Lib.hid hcur1
      have HNew := Lib.hid hnew
      have hgt : w.heap.size < wr.heap.size := by
        rcases Nat.lt_or_ge w.heap.size wr.heap.size with h' | h'
        · exact h'
        · have := hcur.out; simp [Array.getElem?_eq_none h'] at this
      clear hb1 CC hcur1 hnew C
      go_wp2_with (fail)
      refine HC.out.mono ?_
      rintro e w2 ⟨rfl, hb2⟩
      have hb3 := HB1.out.trans (hb2.mono HB1.out.size)
      have hsz : (wr.alloc (.cells #[.int .i64 fn, .int .i64 fc, .int .i64 fz] 48)).heap.size = wr.heap.size + 1 := by simp
      have hc3 : w2.heap[w.heap.size]? = some (.cells #[.int .i64 0, .int .i64 0, .int .i64 0] 48 (0, 0)) := by rw [hb2.block _ (by omega)]; exact HCur.out
      have hn3 : w2.heap[wr.heap.size]? = some (.cells #[.int .i64 fn, .int .i64 fc, .int .i64 fz] 48 (0, 0)) := by rw [hb2.block _ (by omega)]; exact HNew.out
      have c0 : w2.cell? ⟨wr.heap.size, 0, none⟩ = some (.int .i64 fn) := by rw [Lib.cell_of_heap hn3]; rfl
      have c1 : w2.cell? ⟨wr.heap.size, 1, none⟩ = some (.int .i64 fc) := by rw [Lib.cell_of_heap hn3]; rfl
      have c2 : w2.cell? ⟨wr.heap.size, 2, none⟩ = some (.int .i64 fz) := by rw [Lib.cell_of_heap hn3]; rfl
      have d0 : w2.cell? ⟨w.heap.size, 0, none⟩ = some (.int .i64 0) := by rw [Lib.cell_of_heap hc3]; rfl
      have d1 : w2.cell? ⟨w.heap.size, 1, none⟩ = some (.int .i64 0) := by rw [Lib.cell_of_heap hc3]; rfl
      have d2 : w2.cell? ⟨w.heap.size, 2, none⟩ = some (.int .i64 0) := by rw [Lib.cell_of_heap hc3]; rfl
      have f0 := Lib.frozen_of_heap hc3 0
      have f1 := Lib.frozen_of_heap hc3 1
      have f2 := Lib.frozen_of_heap hc3 2
      have HB3 := Lib.hid hb3
      have HC3 := Lib.hid hc3
      clear hb3 hc3 hn3 hb2 hsz
      cases hp : p (fn, fc, fz) with
      | true =>
        have HF : Hid (fams.find? p = some (fn, fc, fz)) := find_yes hno.out htk.out hp
        clear hp
        go_wp2_with (fail)
        refine bodyPost_ret (find_end (w := w) (fn := fn) (fc := fc) (fz := fz) (b := true) rfl rfl ?_) rfl ⟨by rw [HF.out]; rfl, ?_⟩
        · exact set3 HC3.out
        · exact ((HB3.out.setCell (p := ⟨w.heap.size, 0, none⟩) (Nat.le_refl _) _).setCell (p := ⟨w.heap.size, 1, none⟩) (Nat.le_refl _) _).setCell (p := ⟨w.heap.size, 2, none⟩) (Nat.le_refl _) _
      | false =>
        have HN : Hid (∀ f ∈ fams.take (k + 1), p f = false) := by
          rw [htk.out]; intro f hf
          rcases List.mem_append.1 hf with h | h
          · exact hno.out f h
          · rw [List.mem_singleton.1 h]; exact hp
        clear hp
        go_wp2_with (fail)
        exact ⟨⟨k + 1, by omega, by go_num, HN.out, HB3.out, HC3.out⟩, by simp [intOf]; omega⟩
    · obtain rfl : k = 5 := by omega
      have d3 := hcur.out
      have d0 : wr.cell? ⟨w.heap.size, 0, none⟩ = some (.int .i64 0) := by rw [Lib.cell_of_heap d3]; rfl
      have d1 : wr.cell? ⟨w.heap.size, 1, none⟩ = some (.int .i64 0) := by rw [Lib.cell_of_heap d3]; rfl
      have d2 : wr.cell? ⟨w.heap.size, 2, none⟩ = some (.int .i64 0) := by rw [Lib.cell_of_heap d3]; rfl
      have f0 := Lib.frozen_of_heap d3 0
      have f1 := Lib.frozen_of_heap d3 1
      have f2 := Lib.frozen_of_heap d3 2
      clear d3
      go_wp2_with (fail)
      refine bodyPost_ret (find_end (w := w) (fn := 0) (fc := 0) (fz := 0) (b := false) rfl rfl ?_) rfl ⟨by rw [find_no hno.out]; rfl, ?_⟩
      · exact set3 hcur.out
      · exact ((hb.out.setCell (p := ⟨w.heap.size, 0, none⟩) (Nat.le_refl _) _).setCell (p := ⟨w.heap.size, 1, none⟩) (Nat.le_refl _) _).setCell (p := ⟨w.heap.size, 2, none⟩) (Nat.le_refl _) _
end Go.Proofs.YtfagkmmenfeppaaDoor
