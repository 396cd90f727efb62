import Derived.Test.YtmijfhfjhbckdaaEnt
import Derived.Maps.AppendAt
/- Rows of entries. -/
namespace Go.Proofs.Ytmijfhfjhbckdaa
set_option maxRecDepth 100000
open Go.RowKit
theorem row_save {B : Nat} {l : List Nat} {e : TypeId} {z n : Nat} {v : Value} {xs : List Value} {w w' : World} (h : w.ownsRow B e z v n xs) (hs : Save l w w') (hl : ∀ k ∈ l, k < B) : w'.ownsRow B e z v n xs := by
  rcases h with ⟨h1, h2⟩
  refine ⟨h1, ?_⟩
  rcases h2 with h2 | ⟨g, cap, cur, e1, e2, e3, e4⟩
  · exact .inl h2
  · exact .inr ⟨g, cap, cur, e1, e2, by rw [hs.block g (heap_lt e3) (fun hg => by have := hl g hg; omega)]; exact e3, e4⟩
theorem row_keep {B : Nat} {e : TypeId} {z n : Nat} {v : Value} {xs : List Value} {w w' : World} (h : w.ownsRow B e z v n xs) (hb : Below w.heap.size w w') : w'.ownsRow B e z v n xs :=
  row_save h (Save.of_below (l := []) hb) (by simp)
/-- an entry's cells -/
def entC : EntP → List Value
  | .error n => [.int .i64 0, .string ⟨#[]⟩, .int .i64 0, .string ⟨#[]⟩, .float .f64 0, .int .i64 0, .bool false, .bool false, .int .u32 0, .bool false, .int .i64 0, .int .i64 0, .int .i64 0, .int .i64 0, .int .i64 (n : Nat)]
  | .ok (k, b) => (actC k b).toList ++ [.int .i64 0]
def flatE (l : List EntP) : List Value := l.flatMap entC
theorem actC_size (k : Nat) (b : BodyP) : (actC k b).size = 14 := by cases b <;> rfl
theorem entC_len (x : EntP) : (entC x).length = 15 := by
  rcases x with n | ⟨k, b⟩
  · rfl
  · show ((actC k b).toList ++ _).length = 15
    rw [List.length_append, Array.length_toList, actC_size]; rfl
theorem entC_all (x : EntP) : (entC x).all (fun u => u.oneCell') = true := by
  rcases x with n | ⟨k, b⟩
  · rfl
  · cases b <;> rfl
theorem entC_one (x : EntP) : ∀ u ∈ entC x, u.oneCell' = true := fun u hu => List.all_eq_true.1 (entC_all x) u hu
theorem flatE_app (a b : List EntP) : flatE (a ++ b) = flatE a ++ flatE b := by unfold flatE; rw [List.flatMap_append]
theorem flatE_one (x : EntP) : flatE [x] = entC x := by unfold flatE; simp
theorem flatE_len (l : List EntP) : (flatE l).length = l.length * 15 := by
  induction l with
  | nil => rfl
  | cons x l ih => rw [show x :: l = [x] ++ l from rfl, flatE_app, flatE_one, List.length_append, ih, entC_len]; simp; omega
def zEnt : Value := .agg #[.int .i64 0, .string ⟨#[]⟩, .int .i64 0, .string ⟨#[]⟩, .float .f64 0, .int .i64 0, .bool false, .bool false, .int .u32 0, .bool false, .int .i64 0, .int .i64 0, .int .i64 0, .int .i64 0, .int .i64 0]
theorem info_parts {P : Program} {t : TypeId} {z : Value} {a b : Nat} (h : (P.info? t).map (fun i => (i.zero, i.size, i.bytes)) = some (some z, a, b)) : ∃ i, P.info? t = some i ∧ i.zero = some z ∧ i.size = a ∧ i.bytes = b := by
  cases hi : P.info? t with
  | none => rw [hi] at h; cases h
  | some i =>
    rw [hi] at h
    simp at h
    exact ⟨i, rfl, h.1, h.2.1, h.2.2⟩
theorem info66 : ∃ i, Try.prog.info? 66 = some i ∧ i.zero = some zEnt ∧ i.size = 15 ∧ i.bytes = 120 := by
  have h : (Try.prog.info? 66).map (fun i => (i.zero, i.size, i.bytes)) = some (some zEnt, 15, 120) := by kernel_rfl
  exact info_parts h
theorem info51 : ∃ i, Try.prog.info? 51 = some i ∧ i.zero = some zEnt ∧ i.size = 15 ∧ i.bytes = 120 := by
  have h : (Try.prog.info? 51).map (fun i => (i.zero, i.size, i.bytes)) = some (some zEnt, 15, 120) := by kernel_rfl
  exact info_parts h
/-- a row of entries of one's own -/
structure RSt (E B : Nat) (w0 : World) (v : Value) (l : List EntP) (w : World) : Prop where
  row : w.ownsRow B E 15 v l.length (flatE l)
  le : B ≤ w.heap.size
  bel : Below B w0 w
section
variable {E B : Nat} {w0 w w' : World} {v : Value} {l : List EntP}
theorem RSt.nil (hb : Below B w0 w) (hB : B ≤ w.heap.size) : RSt E B w0 (.slice none 0 0) [] w := ⟨World.ownsRow_nil _ _ _ _, hB, hb⟩
theorem RSt.keep (h : RSt E B w0 v l w) (hb : Below w.heap.size w w') : RSt E B w0 v l w' := ⟨row_keep h.row hb, Nat.le_trans h.le hb.size, h.bel.trans (hb.mono h.le)⟩
theorem RSt.alloc (h : RSt E B w0 v l w) (o : Obj) : RSt E B w0 v l (w.alloc o) := h.keep ((Below.refl _ _).alloc (Nat.le_refl _) o)
theorem RSt.drew (h : RSt E B w0 v l w) : RSt E B w0 v l w.drew := ⟨h.row, h.le, h.bel.drew⟩
end
theorem cells_at {w : World} {g : Nat} {C : Array Value} {t : TypeId} (hg : w.heap[g]? = some (.cells C t (0, 0))) (j : Nat) (u : Value) (h : C.toList[j]? = some u) : w.cell? ((⟨g, 0, none⟩ : Addr).add j) = some u := by
  have ea : ∀ n, (⟨g, 0, none⟩ : Addr).add n = ⟨g, n, none⟩ := fun n => by unfold Addr.add; split <;> simp_all
  rw [ea, Lib.cell_of_heap hg]
  simpa using h
theorem app_ent (T E : Nat) (hT : Try.prog.underlying T = some (.slice E)) (hE : ∃ i, Try.prog.info? E = some i ∧ i.zero = some zEnt ∧ i.size = 15 ∧ i.bytes = 120) {B : Nat} {w0 w : World} {v : Value} {l : List EntP} (h : RSt E B w0 v l w) (ty : TypeId) (g c : Nat) (x : EntP)
    (hg : w.heap[g]? = some (.cells (entC x).toArray E (0, 0))) (hlen : l.length ≤ 1000000) :
    ∃ v' w', (Builtin.append_ #[T, T] ty #[v, .slice (some ⟨g, 0, none⟩) 1 c]).run Try.prog w = .ok v' w' ∧ RSt E B w0 v' (l ++ [x]) w' ∧ (∀ k, k < w.heap.size → (∀ q, v.ownBlock = some q → q ≠ k) → w'.heap[k]? = w.heap[k]?) ∧ w.heap.size ≤ w'.heap.size := by
  obtain ⟨i0, hi, hz0, hz1, hz2⟩ := hE
  obtain ⟨v', w', hr, h2, h3, _, h5⟩ := run_append_own_at (P := Try.prog) w B T ty E i0 _ 15 120 hT hi hz0 hz1 hz2 rfl (by decide) v l.length (flatE l) h.row ⟨g, 0, none⟩ 1 c (entC x) (by rw [entC_len]) (fun j u hu => cells_at hg j u hu)
    (entC_one x) (by unfold maxLen; omega) (by omega) h.le
  refine ⟨v', w', hr, ⟨?_, Nat.le_trans h.le h3.size, h.bel.grown h3 h.le (fun q hq => (World.ownsRow.lt h.row q hq).1)⟩, fun k hk hq => h3.block k hk (fun e => hq k e.symm rfl), h3.size⟩
  rw [List.length_append, flatE_app, flatE_one]
  exact h2
theorem wpList_append_ok {P : Program} {w : World} {ops : Array Oper} {rest : List Oper} {o : Oper} {a : Act} {Q : Exit → Act → World → Prop} (hgd : o.guard = none) (sl x : Operand) (t : TypeId)
    (ho : o.op = .call { callee := .builtin .append, args := #[sl, x], argTypes := #[t, t] }) (v0 x0 v' : Value) (w' : World) (hs : a.eval sl = v0) (hx : a.eval x = x0)
    (hr : (Builtin.append_ #[t, t] o.type #[v0, x0]).run P w = .ok v' w') (h : wpList P ops Q rest (a.put o.dst v') w') : wpList P ops Q (o :: rest) a w := by
  refine wpList_plain hgd fun K hK => ?_
  unfold Oper.wp execOp
  simp only [ho, resolve, invoke, builtin, Sem.run_bind, Sem.run_pure, Result.andThen_ok, List.map_toArray, List.map_cons, List.map_nil, hs, hx, hr]
  exact hK _ _ h
end Go.Proofs.Ytmijfhfjhbckdaa
