import Derived.Test.YtfagkmmenfeppaaDoorRefE
/- What stands in memory while the document's Get reads. -/
namespace Go.Proofs.YtfagkmmenfeppaaDoor
set_option maxRecDepth 100000
open Go.RowKit
def zC : Array Value := #[.bool false, .int .i64 0, .string ⟨#[]⟩, .string ⟨#[]⟩, .int .i64 0, .int .i64 0, .slice none 0 0]
/-- block S holds the header that is made, R the result, N the empty one; the header's fields are a row of its own -/
structure DSt (B R N S : Nat) (w0 : World) (h0 h1 h2 h3 h4 h5 : Value) (v : Value) (fs : List Fd) (w : World) : Prop where
  hS : w.heap[S]? = some (.cells #[h0, h1, h2, h3, h4, h5, v] 24 (0, 0))
  hR : w.heap[R]? = some (.cells #[.bool false, .int .i64 0, .string ⟨#[]⟩, .string ⟨#[]⟩, .int .i64 0, .int .i64 0, .slice none 0 0] 24 (0, 0))
  hN : w.heap[N]? = some (.cells #[.bool false, .int .i64 0, .string ⟨#[]⟩, .string ⟨#[]⟩, .int .i64 0, .int .i64 0, .slice none 0 0] 24 (0, 0))
  row : w.ownsRow B 45 2 v fs.length (fflat fs)
  ne : R ≠ S ∧ N ≠ S ∧ R ≠ N
  lt : S < B ∧ R < B ∧ N < B
  lo : w0.heap.size ≤ S ∧ w0.heap.size ≤ R ∧ w0.heap.size ≤ N
  le : B ≤ w.heap.size
  bel : Below w0.heap.size w0 w
structure DMid (B R N S : Nat) (w0 : World) (h0 h1 h2 h3 h4 h5 : Value) (v : Value) (fs : List Fd) (w : World) : Prop where
  hS : ∃ u, w.heap[S]? = some (.cells #[h0, h1, h2, h3, h4, h5, u] 24 (0, 0))
  hR : w.heap[R]? = some (.cells #[.bool false, .int .i64 0, .string ⟨#[]⟩, .string ⟨#[]⟩, .int .i64 0, .int .i64 0, .slice none 0 0] 24 (0, 0))
  hN : w.heap[N]? = some (.cells #[.bool false, .int .i64 0, .string ⟨#[]⟩, .string ⟨#[]⟩, .int .i64 0, .int .i64 0, .slice none 0 0] 24 (0, 0))
  row : w.ownsRow B 45 2 v fs.length (fflat fs)
  ne : R ≠ S ∧ N ≠ S ∧ R ≠ N
  lt : S < B ∧ R < B ∧ N < B
  lo : w0.heap.size ≤ S ∧ w0.heap.size ≤ R ∧ w0.heap.size ≤ N
  le : B ≤ w.heap.size
  bel : Below w0.heap.size w0 w
theorem below_set {k : Nat} {w0 w : World} (h : Below k w0 w) {X i : Nat} (hX : k ≤ X) (v : Value) : Below k w0 (w.setCell ⟨X, i, none⟩ v) := h.setCell (p := ⟨X, i, none⟩) hX v
section
variable {B R N S : Nat} {w0 : World} {h0 h1 h2 h3 h4 h5 : Value} {v : Value} {fs : List Fd} {w : World}
theorem row_below {B : Nat} {e : TypeId} {z n : Nat} {v : Value} {xs : List Value} {w w' : World} (h : w.ownsRow B e z v n xs) (hs : Below w.heap.size w w') : w'.ownsRow B e z v n xs := by
  rcases h with ⟨h1, h2⟩
  refine ⟨h1, ?_⟩
  rcases h2 with h2 | ⟨g, cap, cur, e1, e2, e3, e4⟩
  · exact .inl h2
  · exact .inr ⟨g, cap, cur, e1, e2, by rw [hs.block g (heap_lt e3)]; exact e3, e4⟩
theorem row_cell {B : Nat} {e : TypeId} {z n : Nat} {v : Value} {xs : List Value} {w : World} (h : w.ownsRow B e z v n xs) {X i : Nat} (hX : X < B) (u : Value) : (w.setCell ⟨X, i, none⟩ u).ownsRow B e z v n xs := ownsRow_setCell_below h (a := ⟨X, i, none⟩) hX u
theorem DSt.below {w' : World} (h : DSt B R N S w0 h0 h1 h2 h3 h4 h5 v fs w) (hb : Below w.heap.size w w') : DSt B R N S w0 h0 h1 h2 h3 h4 h5 v fs w' :=
  ⟨(hb.block _ (heap_lt h.hS)).trans h.hS, (hb.block _ (heap_lt h.hR)).trans h.hR, (hb.block _ (heap_lt h.hN)).trans h.hN, row_below h.row hb, h.ne, h.lt, h.lo, Nat.le_trans h.le hb.size, h.bel.trans (hb.mono h.bel.size)⟩
theorem DSt.drew (h : DSt B R N S w0 h0 h1 h2 h3 h4 h5 v fs w) : DSt B R N S w0 h0 h1 h2 h3 h4 h5 v fs w.drew := h.below ((Below.refl _ _).drew)
theorem DSt.alloc (h : DSt B R N S w0 h0 h1 h2 h3 h4 h5 v fs w) (o : Obj) : DSt B R N S w0 h0 h1 h2 h3 h4 h5 v fs (w.alloc o) := h.below ((Below.refl _ _).alloc (Nat.le_refl _) o)
theorem DSt.set1 (h : DSt B R N S w0 h0 h1 h2 h3 h4 h5 v fs w) (u : Value) : DSt B R N S w0 h0 u h2 h3 h4 h5 v fs (w.setCell ⟨S, 1, none⟩ u) :=
  ⟨heap_set h.hS (i := 1) (by simp) u, (Below.heap_setCell _ _ _ _ h.ne.1).trans h.hR, (Below.heap_setCell _ _ _ _ h.ne.2.1).trans h.hN, row_cell h.row h.lt.1 u, h.ne, h.lt, h.lo, by simpa [World.setCell] using h.le, below_set h.bel h.lo.1 u⟩
theorem DSt.set2 (h : DSt B R N S w0 h0 h1 h2 h3 h4 h5 v fs w) (u : Value) : DSt B R N S w0 h0 h1 u h3 h4 h5 v fs (w.setCell ⟨S, 2, none⟩ u) :=
  ⟨heap_set h.hS (i := 2) (by simp) u, (Below.heap_setCell _ _ _ _ h.ne.1).trans h.hR, (Below.heap_setCell _ _ _ _ h.ne.2.1).trans h.hN, row_cell h.row h.lt.1 u, h.ne, h.lt, h.lo, by simpa [World.setCell] using h.le, below_set h.bel h.lo.1 u⟩
theorem DSt.set3 (h : DSt B R N S w0 h0 h1 h2 h3 h4 h5 v fs w) (u : Value) : DSt B R N S w0 h0 h1 h2 u h4 h5 v fs (w.setCell ⟨S, 3, none⟩ u) :=
  ⟨heap_set h.hS (i := 3) (by simp) u, (Below.heap_setCell _ _ _ _ h.ne.1).trans h.hR, (Below.heap_setCell _ _ _ _ h.ne.2.1).trans h.hN, row_cell h.row h.lt.1 u, h.ne, h.lt, h.lo, by simpa [World.setCell] using h.le, below_set h.bel h.lo.1 u⟩
theorem DSt.set4 (h : DSt B R N S w0 h0 h1 h2 h3 h4 h5 v fs w) (u : Value) : DSt B R N S w0 h0 h1 h2 h3 u h5 v fs (w.setCell ⟨S, 4, none⟩ u) :=
  ⟨heap_set h.hS (i := 4) (by simp) u, (Below.heap_setCell _ _ _ _ h.ne.1).trans h.hR, (Below.heap_setCell _ _ _ _ h.ne.2.1).trans h.hN, row_cell h.row h.lt.1 u, h.ne, h.lt, h.lo, by simpa [World.setCell] using h.le, below_set h.bel h.lo.1 u⟩
theorem DSt.set5 (h : DSt B R N S w0 h0 h1 h2 h3 h4 h5 v fs w) (u : Value) : DSt B R N S w0 h0 h1 h2 h3 h4 u v fs (w.setCell ⟨S, 5, none⟩ u) :=
  ⟨heap_set h.hS (i := 5) (by simp) u, (Below.heap_setCell _ _ _ _ h.ne.1).trans h.hR, (Below.heap_setCell _ _ _ _ h.ne.2.1).trans h.hN, row_cell h.row h.lt.1 u, h.ne, h.lt, h.lo, by simpa [World.setCell] using h.le, below_set h.bel h.lo.1 u⟩
theorem DSt.kS (h : DSt B R N S w0 h0 h1 h2 h3 h4 h5 v fs w) : w.cell? ⟨S, 0, none⟩ = some h0 ∧ w.cell? ⟨S, 1, none⟩ = some h1 ∧ w.cell? ⟨S, 2, none⟩ = some h2 ∧ w.cell? ⟨S, 3, none⟩ = some h3 ∧ w.cell? ⟨S, 4, none⟩ = some h4 ∧ w.cell? ⟨S, 5, none⟩ = some h5 ∧ w.cell? ⟨S, 6, none⟩ = some v :=
  ⟨cellAt h.hS rfl, cellAt h.hS rfl, cellAt h.hS rfl, cellAt h.hS rfl, cellAt h.hS rfl, cellAt h.hS rfl, cellAt h.hS rfl⟩
theorem DSt.kR (h : DSt B R N S w0 h0 h1 h2 h3 h4 h5 v fs w) : w.cell? ⟨R, 0, none⟩ = some (.bool false) ∧ w.cell? ⟨R, 1, none⟩ = some (.int .i64 0) ∧ w.cell? ⟨R, 2, none⟩ = some (.string ⟨#[]⟩) ∧ w.cell? ⟨R, 3, none⟩ = some (.string ⟨#[]⟩) ∧ w.cell? ⟨R, 4, none⟩ = some (.int .i64 0) ∧ w.cell? ⟨R, 5, none⟩ = some (.int .i64 0) ∧ w.cell? ⟨R, 6, none⟩ = some (.slice none 0 0) :=
  ⟨cellAt h.hR rfl, cellAt h.hR rfl, cellAt h.hR rfl, cellAt h.hR rfl, cellAt h.hR rfl, cellAt h.hR rfl, cellAt h.hR rfl⟩
theorem DSt.kN (h : DSt B R N S w0 h0 h1 h2 h3 h4 h5 v fs w) : w.cell? ⟨N, 0, none⟩ = some (.bool false) ∧ w.cell? ⟨N, 1, none⟩ = some (.int .i64 0) ∧ w.cell? ⟨N, 2, none⟩ = some (.string ⟨#[]⟩) ∧ w.cell? ⟨N, 3, none⟩ = some (.string ⟨#[]⟩) ∧ w.cell? ⟨N, 4, none⟩ = some (.int .i64 0) ∧ w.cell? ⟨N, 5, none⟩ = some (.int .i64 0) ∧ w.cell? ⟨N, 6, none⟩ = some (.slice none 0 0) :=
  ⟨cellAt h.hN rfl, cellAt h.hN rfl, cellAt h.hN rfl, cellAt h.hN rfl, cellAt h.hN rfl, cellAt h.hN rfl, cellAt h.hN rfl⟩
theorem DSt.fS (h : DSt B R N S w0 h0 h1 h2 h3 h4 h5 v fs w) (i : Nat) : w.frozen? ⟨S, i, none⟩ = false := Lib.frozen_of_heap h.hS i
theorem DSt.fR (h : DSt B R N S w0 h0 h1 h2 h3 h4 h5 v fs w) (i : Nat) : w.frozen? ⟨R, i, none⟩ = false := Lib.frozen_of_heap h.hR i
theorem DMid.drew (h : DMid B R N S w0 h0 h1 h2 h3 h4 h5 v fs w) : DMid B R N S w0 h0 h1 h2 h3 h4 h5 v fs w.drew := ⟨h.hS, h.hR, h.hN, h.row, h.ne, h.lt, h.lo, h.le, h.bel.drew⟩
theorem DMid.c6 (h : DMid B R N S w0 h0 h1 h2 h3 h4 h5 v fs w) : ∃ u, w.cell? ⟨S, 6, none⟩ = some u := by
  obtain ⟨u, hu⟩ := h.hS
  exact ⟨u, cellAt hu rfl⟩
theorem DMid.f (h : DMid B R N S w0 h0 h1 h2 h3 h4 h5 v fs w) (i : Nat) : w.frozen? ⟨S, i, none⟩ = false := by
  obtain ⟨u, hu⟩ := h.hS
  exact Lib.frozen_of_heap hu i
theorem DMid.store (h : DMid B R N S w0 h0 h1 h2 h3 h4 h5 v fs w) : DSt B R N S w0 h0 h1 h2 h3 h4 h5 v fs (w.setCell ⟨S, 6, none⟩ v) := by
  obtain ⟨u, hu⟩ := h.hS
  exact ⟨heap_set hu (i := 6) (by simp) v, (Below.heap_setCell _ _ _ _ h.ne.1).trans h.hR, (Below.heap_setCell _ _ _ _ h.ne.2.1).trans h.hN, row_cell h.row h.lt.1 v, h.ne, h.lt, h.lo, by simpa [World.setCell] using h.le, below_set h.bel h.lo.1 v⟩
theorem below_grown {k : Nat} {w0 w w' : World} {row : Option Nat} (h : Below k w0 w) (hg : w.grownBy w' row) (hr : ∀ j, row = some j → k ≤ j) (hk : k ≤ w.heap.size) : Below k w0 w' :=
  ⟨hg.os.trans h.os, hg.tape.trans h.tape, hg.output.trans h.output, Nat.le_trans h.size hg.size, fun j hj => (hg.block j (Nat.lt_of_lt_of_le hj hk) (fun e => by have := hr j e.symm; omega)).trans (h.block j hj)⟩
/-- the field that was laid, put behind the row -/
theorem DSt.append (h : DSt B R N S w0 h0 h1 h2 h3 h4 h5 v fs w) (ty : TypeId) (g c : Nat) (f : Fd) (hg : w.heap[g]? = some (.cells #[.int .i64 f.1, .string (bs f.2)] 45 (0, 0))) (hlen : fs.length ≤ 1000000) :
    ∃ v' w', (Builtin.append_ #[22, 22] ty #[v, .slice (some ⟨g, 0, none⟩) 1 c]).run Tryd.prog w = .ok v' w' ∧ (DMid B R N S w0 h0 h1 h2 h3 h4 h5 v' (fs ++ [f]) w' ∧ ∃ g cap, v' = .slice (some ⟨g, 0, none⟩) (fs.length + 1) cap) := by
  obtain ⟨i0, hi, hz0, hz1, hz2⟩ := info45
  obtain ⟨g', cap, w', hr, h2', h3', h4', h5'⟩ := run_append_lies (P := Tryd.prog) w 22 ty B 45 i0 _ 2 24 Tryd.underlying22 hi hz0 hz1 hz2 rfl (by decide) v fs.length (fflat fs) h.row ⟨g, 0, none⟩ 1 c (fcells f) rfl
    (World.news_of_block hg) (fun u hu => by unfold fcells at hu; simp at hu; rcases hu with rfl | rfl <;> rfl) (by omega) (by unfold maxLen; omega) (by omega) h.le _ rfl
  have hlt : ∀ {b : Nat} {o : Obj}, w.heap[b]? = some o → v.ownBlock ≠ some b → w'.heap[b]? = some o := fun hb hne => (h3'.block _ (heap_lt hb) (fun e => hne e.symm)).trans hb
  refine ⟨_, w', hr, ⟨⟨v, hlt h.hS (own_ne h.row h.lt.1)⟩, hlt h.hR (own_ne h.row h.lt.2.1), hlt h.hN (own_ne h.row h.lt.2.2), ?_, h.ne, h.lt, h.lo, Nat.le_trans h.le h3'.size, ?_⟩, g', cap, rfl⟩
  · rw [List.length_append, fflat_app]
    exact h2'
  · have hk : w0.heap.size ≤ B := Nat.le_of_lt (Nat.lt_of_le_of_lt h.lo.1 h.lt.1)
    exact below_grown h.bel h3' (fun k hk' => Nat.le_trans hk (World.ownsRow.lt h.row k hk').1) h.bel.size
end
theorem DSt.set7 {B R N S : Nat} {w0 w : World} {h0 h1 h2 h3 h4 h5 v : Value} (h : DSt B R N S w0 h0 h1 h2 h3 h4 h5 v [] w) (u0 u1 u2 u3 u4 u5 : Value) :
    DSt B R N S w0 u0 u1 u2 u3 u4 u5 (.slice none 0 0) [] (((((((w.setCell ⟨S, 0, none⟩ u0).setCell ⟨S, 1, none⟩ u1).setCell ⟨S, 2, none⟩ u2).setCell ⟨S, 3, none⟩ u3).setCell ⟨S, 4, none⟩ u4).setCell ⟨S, 5, none⟩ u5).setCell ⟨S, 6, none⟩ (.slice none 0 0)) := by
  have hk : ∀ (V : World) (i : Nat) (u : Value) (X : Nat), X ≠ S → (V.setCell ⟨S, i, none⟩ u).heap[X]? = V.heap[X]? := fun V i u X hX => Below.heap_setCell _ _ _ _ hX
  refine ⟨Go.Proofs.YtfagkmmenfeppaaDoor.set7 h.hS, ?_, ?_, World.ownsRow_nil _ _ _ _, h.ne, h.lt, h.lo, ?_, ?_⟩
  · rw [hk _ _ _ _ h.ne.1, hk _ _ _ _ h.ne.1, hk _ _ _ _ h.ne.1, hk _ _ _ _ h.ne.1, hk _ _ _ _ h.ne.1, hk _ _ _ _ h.ne.1, hk _ _ _ _ h.ne.1]; exact h.hR
  · rw [hk _ _ _ _ h.ne.2.1, hk _ _ _ _ h.ne.2.1, hk _ _ _ _ h.ne.2.1, hk _ _ _ _ h.ne.2.1, hk _ _ _ _ h.ne.2.1, hk _ _ _ _ h.ne.2.1, hk _ _ _ _ h.ne.2.1]; exact h.hN
  · simpa [World.setCell] using h.le
  · exact below_set (below_set (below_set (below_set (below_set (below_set (below_set h.bel h.lo.1 _) h.lo.1 _) h.lo.1 _) h.lo.1 _) h.lo.1 _) h.lo.1 _) h.lo.1 _
theorem row7 {w : World} {B X : Nat} {e : TypeId} {z n : Nat} {v : Value} {xs : List Value} (h : w.ownsRow B e z v n xs) (hX : X < B) {u0 u1 u2 u3 u4 u5 u6 : Value} :
    (((((((w.setCell ⟨X, 0, none⟩ u0).setCell ⟨X, 1, none⟩ u1).setCell ⟨X, 2, none⟩ u2).setCell ⟨X, 3, none⟩ u3).setCell ⟨X, 4, none⟩ u4).setCell ⟨X, 5, none⟩ u5).setCell ⟨X, 6, none⟩ u6).ownsRow B e z v n xs :=
  row_cell (row_cell (row_cell (row_cell (row_cell (row_cell (row_cell h hX u0) hX u1) hX u2) hX u3) hX u4) hX u5) hX u6
theorem below_dN (w : World) (n : Nat) : Below w.heap.size w (w.drewN n) := ⟨rfl, rfl, rfl, Nat.le_refl _, fun _ _ => rfl⟩
theorem rget_end {g : Nat} {a0 a1 a2 a3 a4 a5 a6 x y z : Value} {W : World} {tmps : Array Value} (h2 : tmps.getD 2 undef = .pointer (some ⟨g, 0, none⟩)) (h3 : tmps.getD 3 undef = x) (h4 : tmps.getD 4 undef = y) (h5 : tmps.getD 5 undef = z)
    (h : W.heap[g]? = some (.cells #[a0, a1, a2, a3, a4, a5, a6] 24 (0, 0))) : (results Tryd.f14 tmps).run Tryd.prog W = .ok (.tuple #[.agg #[a0, a1, a2, a3, a4, a5, a6], x, y, z]) W := by
  have c0 : W.cell? ⟨g, 0, none⟩ = some a0 := cellAt h rfl
  have c1 : W.cell? ⟨g, 1, none⟩ = some a1 := cellAt h rfl
  have c2 : W.cell? ⟨g, 2, none⟩ = some a2 := cellAt h rfl
  have c3 : W.cell? ⟨g, 3, none⟩ = some a3 := cellAt h rfl
  have c4 : W.cell? ⟨g, 4, none⟩ = some a4 := cellAt h rfl
  have c5 : W.cell? ⟨g, 5, none⟩ = some a5 := cellAt h rfl
  have c6 : W.cell? ⟨g, 6, none⟩ = some a6 := cellAt h rfl
  simp at h2 h3 h4 h5
  simp [results, Tryd.results14, go_sem, h2, h3, h4, h5, c0, c1, c2, c3, c4, c5, c6]
end Go.Proofs.YtfagkmmenfeppaaDoor
