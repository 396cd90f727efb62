import Derived.Test.YtgonagkhnkhcnaaRing
/- What stands in memory while a ring is made: the ring's block, the set's block, the backend's block, the row of points. -/
namespace Go.Proofs.Ytgonagkhnkhcnaa
set_option maxRecDepth 100000
open Go.RowKit
def pcells (p : Nat × Nat) : List Value := [.int .u64 p.1, .int .i64 p.2]
def flat (ps : List (Nat × Nat)) : List Value := ps.flatMap pcells
theorem flat_app (a b : List (Nat × Nat)) : flat (a ++ b) = flat a ++ flat b := by unfold flat; rw [List.flatMap_append]
theorem flat_len (ps : List (Nat × Nat)) : (flat ps).length = ps.length * 2 := by
  induction ps with
  | nil => rfl
  | cons p t ih => show (pcells p ++ flat t).length = _; rw [List.length_append, ih]; show 2 + _ = _; rw [List.length_cons]; omega
def Row (B : Nat) (v : Value) (ps : List (Nat × Nat)) (w : World) : Prop := w.ownsRow B 78 2 v ps.length (flat ps)
theorem Row.lt {B : Nat} {v : Value} {ps : List (Nat × Nat)} {w : World} (h : Row B v ps w) (k : Nat) (hk : v.ownBlock = some k) : B ≤ k ∧ k < w.heap.size := World.ownsRow.lt h k hk
/-- all of it -/
structure St (B R M T : Nat) (w0 : World) (id : Int) (ad : ByteArray) (wt : Nat) (v : Value) (ps : List (Nat × Nat)) (ids : List Int) (w : World) : Prop where
  hR : w.heap[R]? = some (.cells #[v] 75 (0, 0))
  row : Row B v ps w
  seen : Seen M ids w
  hT : w.heap[T]? = some (.cells #[.int .i64 id, .string ad, .float .f64 wt] 32 (0, 0))
  vR : v.ownBlock ≠ some R
  vM : v.ownBlock ≠ some M
  vT : v.ownBlock ≠ some T
  RM : R ≠ M
  RT : R ≠ T
  MT : M ≠ T
  bR : B ≤ R
  bM : B ≤ M
  bT : B ≤ T
  le : B ≤ w.heap.size
  bel : Below B w0 w
theorem heap_lt {w : World} {b : Nat} {o : Obj} (h : w.heap[b]? = some o) : b < w.heap.size := (Array.getElem?_eq_some_iff.1 h).1
section
variable {B R M T : Nat} {w0 : World} {id : Int} {ad : ByteArray} {wt : Nat} {v : Value} {ps : List (Nat × Nat)} {ids : List Int} {w : World}
theorem St.cR (h : St B R M T w0 id ad wt v ps ids w) : w.cell? ⟨R, 0, none⟩ = some v := by rw [Lib.cell_of_heap h.hR]; rfl
theorem St.fR (h : St B R M T w0 id ad wt v ps ids w) : w.frozen? ⟨R, 0, none⟩ = false := Lib.frozen_of_heap h.hR 0
theorem St.cT0 (h : St B R M T w0 id ad wt v ps ids w) : w.cell? ⟨T, 0, none⟩ = some (.int .i64 id) := by rw [Lib.cell_of_heap h.hT]; rfl
theorem St.cT1 (h : St B R M T w0 id ad wt v ps ids w) : w.cell? ⟨T, 1, none⟩ = some (.string ad) := by rw [Lib.cell_of_heap h.hT]; rfl
theorem St.cT2 (h : St B R M T w0 id ad wt v ps ids w) : w.cell? ⟨T, 2, none⟩ = some (.float .f64 wt) := by rw [Lib.cell_of_heap h.hT]; rfl
theorem St.drew (h : St B R M T w0 id ad wt v ps ids w) : St B R M T w0 id ad wt v ps ids w.drew :=
  ⟨h.hR, h.row, h.seen, h.hT, h.vR, h.vM, h.vT, h.RM, h.RT, h.MT, h.bR, h.bM, h.bT, h.le, h.bel.drew⟩
theorem row_below {B : Nat} {v : Value} {ps : List (Nat × Nat)} {w w' : World} (h : Row B v ps w) (hb : Below w.heap.size w w') : Row B v ps w' := by
  rcases h with ⟨h1, h2⟩
  refine ⟨h1, ?_⟩
  rcases h2 with h2 | ⟨g, cap, cur, e1, e2, e3, e4⟩
  · exact .inl h2
  · exact .inr ⟨g, cap, cur, e1, e2, by rw [hb.block g (heap_lt e3)]; exact e3, e4⟩
theorem seen_below {b : Nat} {ids : List Int} {w w' : World} (h : Seen b ids w) (hb : Below w.heap.size w w') : Seen b ids w' := by
  obtain ⟨es, clock, e1, e2⟩ := h
  exact ⟨es, clock, by rw [hb.block b (heap_lt e1)]; exact e1, e2⟩
theorem St.below {w' : World} (h : St B R M T w0 id ad wt v ps ids w) (hb : Below w.heap.size w w') : St B R M T w0 id ad wt v ps ids w' :=
  ⟨by rw [hb.block R (heap_lt h.hR)]; exact h.hR, row_below h.row hb, seen_below h.seen hb, by rw [hb.block T (heap_lt h.hT)]; exact h.hT, h.vR, h.vM, h.vT, h.RM, h.RT, h.MT, h.bR, h.bM, h.bT, Nat.le_trans h.le hb.size, h.bel.trans (hb.mono h.le)⟩
theorem St.alloc (h : St B R M T w0 id ad wt v ps ids w) (o : Obj) : St B R M T w0 id ad wt v ps ids (w.alloc o) := h.below ((Below.refl _ w).alloc (Nat.le_refl _) o)
/-- behind the append, ahead of the store -/
structure Mid (B R M T : Nat) (w0 : World) (id : Int) (ad : ByteArray) (wt : Nat) (v : Value) (ps : List (Nat × Nat)) (ids : List Int) (w : World) : Prop where
  hR : ∃ u, w.heap[R]? = some (.cells #[u] 75 (0, 0))
  row : Row B v ps w
  seen : Seen M ids w
  hT : w.heap[T]? = some (.cells #[.int .i64 id, .string ad, .float .f64 wt] 32 (0, 0))
  vR : v.ownBlock ≠ some R
  vM : v.ownBlock ≠ some M
  vT : v.ownBlock ≠ some T
  RM : R ≠ M
  RT : R ≠ T
  MT : M ≠ T
  bR : B ≤ R
  bM : B ≤ M
  bT : B ≤ T
  le : B ≤ w.heap.size
  bel : Below B w0 w
theorem Mid.fR (h : Mid B R M T w0 id ad wt v ps ids w) : w.frozen? ⟨R, 0, none⟩ = false := by
  obtain ⟨u, hu⟩ := h.hR
  exact Lib.frozen_of_heap hu 0
theorem Mid.cR (h : Mid B R M T w0 id ad wt v ps ids w) : ∃ u, w.cell? ⟨R, 0, none⟩ = some u := by
  obtain ⟨u, hu⟩ := h.hR
  exact ⟨u, by rw [Lib.cell_of_heap hu]; rfl⟩
theorem Mid.cT0 (h : Mid B R M T w0 id ad wt v ps ids w) : w.cell? ⟨T, 0, none⟩ = some (.int .i64 id) := by rw [Lib.cell_of_heap h.hT]; rfl
theorem Mid.drew (h : Mid B R M T w0 id ad wt v ps ids w) : Mid B R M T w0 id ad wt v ps ids w.drew :=
  ⟨h.hR, h.row, h.seen, h.hT, h.vR, h.vM, h.vT, h.RM, h.RT, h.MT, h.bR, h.bM, h.bT, h.le, h.bel.drew⟩
theorem info49 : ∃ i, Try.prog.info? 78 = some i ∧ i.zero = some (.agg #[.int .u64 0, .int .i64 0]) ∧ i.size = 2 ∧ i.bytes = 16 := by
  have h : (Try.prog.info? 78).map (fun i => (i.zero, i.size, i.bytes)) = some (some (.agg #[.int .u64 0, .int .i64 0]), 2, 16) := by kernel_rfl
  exact info_parts h
theorem grown_size {w w1 : World} {row : Option Nat} (h : w.grownBy w1 row) : w.heap.size ≤ w1.heap.size := by
  have := (Below.refl 0 w).grown h (Nat.zero_le _) (fun _ _ => Nat.zero_le _)
  exact this.size
/-- the point that was laid, put behind the row -/
theorem St.append (h : St B R M T w0 id ad wt v ps ids w) (ty : TypeId) (g c : Nat) (p : Nat × Nat) (hg : w.heap[g]? = some (.cells #[.int .u64 p.1, .int .i64 p.2] 78 (0, 0))) (hlen : ps.length ≤ 1000000) :
    ∃ v' w', (Builtin.append_ #[73, 73] ty #[v, .slice (some ⟨g, 0, none⟩) 1 c]).run Try.prog w = .ok v' w' ∧ (Mid B R M T w0 id ad wt v' (ps ++ [p]) ids w' ∧ ∃ g cap, v' = .slice (some ⟨g, 0, none⟩) (ps.length + 1) cap) := by
  obtain ⟨i0, hi, hz0, hz1, hz2⟩ := info49
  obtain ⟨v', w', hr, h2, h3, _, h5⟩ := run_append_own_at (P := Try.prog) w B 73 ty 78 i0 _ 2 16 Try.underlying73 hi hz0 hz1 hz2 rfl (by decide) v ps.length (flat ps) h.row ⟨g, 0, none⟩ 1 c (pcells p) rfl
    (World.news_of_block hg) (fun u hu => by unfold pcells at hu; simp at hu; rcases hu with rfl | rfl <;> rfl) (by unfold maxLen; omega) (by omega) h.le
  have hlt : ∀ {b : Nat} {o : Obj}, w.heap[b]? = some o → v.ownBlock ≠ some b → w'.heap[b]? = some o := fun hb hne => (h3.block _ (heap_lt hb) (fun e => hne e.symm)).trans hb
  have hne : ∀ {b : Nat} {o : Obj}, w.heap[b]? = some o → v.ownBlock ≠ some b → v'.ownBlock ≠ some b := fun {b} {o} hb hnb e => by
    rcases h5 with h5 | h5
    · exact hnb (h5 ▸ e)
    · rw [h5] at e; injection e with e; have := heap_lt hb; omega
  obtain ⟨gg, cc, hform, _⟩ := World.ownsRow.form h2 (by omega)
  refine ⟨v', w', hr, ⟨⟨_, hlt h.hR h.vR⟩, ?_, ?_, hlt h.hT h.vT, hne h.hR h.vR, ?_, hne h.hT h.vT, h.RM, h.RT, h.MT, h.bR, h.bM, h.bT, Nat.le_trans h.le (grown_size h3), h.bel.grown h3 h.le (fun q hq => (h.row.lt q hq).1)⟩, gg, cc, hform⟩
  · show w'.ownsRow B 78 2 v' (ps ++ [p]).length (flat (ps ++ [p]))
    rw [List.length_append, flat_app]
    exact h2
  · exact World.ownsMap.kept h.seen h3 (fun e => h.vM e.symm)
  · obtain ⟨es, clock, e1, _⟩ := h.seen
    exact hne e1 h.vM
theorem set_self {w : World} {b : Nat} {u v : Value} {t : TypeId} (h : w.heap[b]? = some (.cells #[u] t (0, 0))) : (w.setCell ⟨b, 0, none⟩ v).heap[b]? = some (.cells #[v] t (0, 0)) := by
  simp [World.setCell, Array.getElem?_modify, h]
theorem set_grown (w : World) (b : Nat) (v : Value) : w.grownBy (w.setCell ⟨b, 0, none⟩ v) (some b) :=
  ⟨rfl, rfl, rfl, by simp [World.setCell], fun k _ hk => Below.heap_setCell _ _ _ _ (fun e => hk (by simp [e]))⟩
/-- .. and stored -/
theorem Mid.store (h : Mid B R M T w0 id ad wt v ps ids w) : St B R M T w0 id ad wt v ps ids (w.setCell ⟨R, 0, none⟩ v) := by
  obtain ⟨u, hu⟩ := h.hR
  have hg := set_grown w R v
  exact ⟨set_self hu, World.ownsRow.kept h.row hg (.inr h.vR), World.ownsMap.kept h.seen hg (by intro e; injection e with e; exact h.RM e.symm), by rw [Below.heap_setCell _ _ _ _ (fun e => h.RT e.symm)]; exact h.hT, h.vR, h.vM, h.vT, h.RM, h.RT, h.MT, h.bR, h.bM, h.bT, Nat.le_trans h.le (grown_size hg), h.bel.setCell (p := ⟨R, 0, none⟩) h.bR _⟩
/-- a number is put into the set -/
theorem St.put (h : St B R M T w0 id ad wt v ps ids w) (x : Int) (hx : (Lit.int .i64 x).wf = true) (hn : ids.length ≤ 100000) :
    ∃ w', (Instr.mapUpdate 72 (.map (some M)) (.int .i64 x) (.bool true)).run Try.prog w = .ok () w' ∧ St B R M T w0 id ad wt v ps (ids ++ [x]) w' := by
  obtain ⟨w', h1, h2, h3⟩ := seen_put M ids w h.seen x hx hn
  have hlt : ∀ {b : Nat} {o : Obj}, w.heap[b]? = some o → b ≠ M → w'.heap[b]? = some o := fun hb hne => (h3.block _ (heap_lt hb) (fun e => hne (by injection e))).trans hb
  exact ⟨w', h1, hlt h.hR h.RM, World.ownsRow.kept h.row h3 (.inr h.vM), h2, hlt h.hT (fun e => h.MT e.symm), h.vR, h.vM, h.vT, h.RM, h.RT, h.MT, h.bR, h.bM, h.bT, Nat.le_trans h.le (grown_size h3), h.bel.grown h3 h.le (fun q hq => by injection hq with hq; have := h.bM; omega)⟩
end
/-- without the backend's block -/
structure So (B R M : Nat) (w0 : World) (v : Value) (ps : List (Nat × Nat)) (ids : List Int) (w : World) : Prop where
  hR : w.heap[R]? = some (.cells #[v] 75 (0, 0))
  row : Row B v ps w
  seen : Seen M ids w
  vR : v.ownBlock ≠ some R
  vM : v.ownBlock ≠ some M
  RM : R ≠ M
  bR : B ≤ R
  bM : B ≤ M
  le : B ≤ w.heap.size
  bel : Below B w0 w
theorem St.out {B R M T : Nat} {w0 : World} {id : Int} {ad : ByteArray} {wt : Nat} {v : Value} {ps : List (Nat × Nat)} {ids : List Int} {w : World} (h : St B R M T w0 id ad wt v ps ids w) : So B R M w0 v ps ids w :=
  ⟨h.hR, h.row, h.seen, h.vR, h.vM, h.RM, h.bR, h.bM, h.le, h.bel⟩
theorem So.box {B R M : Nat} {w0 : World} {v : Value} {ps : List (Nat × Nat)} {ids : List Int} {w w' : World} (h : So B R M w0 v ps ids w) (id : Int) (ad : ByteArray) (wt : Nat) (hb : Below w.heap.size w w') (hT : w'.heap[w.heap.size]? = some (.cells #[.int .i64 id, .string ad, .float .f64 wt] 32 (0, 0))) :
    St B R M w.heap.size w0 id ad wt v ps ids w' := by
  have hMlt : M < w.heap.size := by
    obtain ⟨es, clock, e1, _⟩ := h.seen
    exact heap_lt e1
  have hRlt := heap_lt h.hR
  refine ⟨by rw [hb.block R hRlt]; exact h.hR, row_below h.row hb, seen_below h.seen hb, hT, h.vR, h.vM, ?_, h.RM, by omega, by omega, h.bR, h.bM, h.le, Nat.le_trans h.le hb.size, h.bel.trans (hb.mono h.le)⟩
  intro e
  have := (h.row.lt _ e).2
  omega
theorem alloc_new (w : World) (o : Obj) : (w.alloc o).heap[w.heap.size]? = some o := by
  show (w.heap.push o)[w.heap.size]? = _; simp
theorem So.new (w : World) : So w.heap.size (w.heap.size + 1) w.heap.size w (.slice none 0 0) [] [] ((w.alloc (.map #[] 0)).alloc (.cells #[.slice none 0 0] 75)) := by
  refine ⟨?_, World.ownsRow_nil _ _ _ _, World.ownsMap.alloc (seen_new w) _, by simp [Value.ownBlock], by simp [Value.ownBlock], by omega, by omega, by omega, by rw [World.size_alloc, World.size_alloc]; omega, ((Below.refl _ w).alloc (Nat.le_refl _) _).alloc (by rw [World.size_alloc]; omega) _⟩
  have e : w.heap.size + 1 = (w.alloc (.map #[] 0)).heap.size := (World.size_alloc _ _).symm
  rw [e]; exact alloc_new _ _
theorem alloc_new_drew (w : World) (o : Obj) : (w.alloc o).drew.heap[w.heap.size]? = some o := alloc_new w o
theorem So.cR {B R M : Nat} {w0 : World} {v : Value} {ps : List (Nat × Nat)} {ids : List Int} {w : World} (h : So B R M w0 v ps ids w) : w.cell? ⟨R, 0, none⟩ = some v := by rw [Lib.cell_of_heap h.hR]; rfl
theorem step_append_at {P : Program} {ops : Array Oper} {o : Oper} {a : Act} {w : World} {K : Act → World → Prop} {Q : Exit → Act → World → Prop} {E : Prop}
    (s x : Operand) (t : TypeId) (hg : o.guard = none) (hop : o.op = Op.call { callee := Callee.builtin Builtin.append, args := #[s, x], argTypes := #[t, t] })
    (h : ∃ v' w', (Builtin.append_ #[t, t] o.type #[a.eval s, a.eval x]).run P w = .ok v' w' ∧ K (a.put o.dst v') w') :
    if Region.wanted o (yielded ops a.tmps) = true then Oper.wp P o a w K Q else E := by
  have hw : Region.wanted o (yielded ops a.tmps) = true := by simp [Region.wanted, hg]
  rw [if_pos hw]
  obtain ⟨v', w', h1, h2⟩ := h
  unfold Oper.wp
  simp [execOp, hop, resolve, invoke, builtin, h1, Result.andThen]
  exact h2
theorem ex_mono {P R K : Value → World → Prop} (h : ∃ v' w', P v' w' ∧ R v' w') (hk : ∀ v' w', R v' w' → K v' w') : ∃ v' w', P v' w' ∧ K v' w' := by
  obtain ⟨v', w', h1, h2⟩ := h
  exact ⟨v', w', h1, hk _ _ h2⟩

end Go.Proofs.Ytgonagkhnkhcnaa
