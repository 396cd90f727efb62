import Derived.Test.YthdkbocokefdhaaRw
/- Rows of strings. -/
namespace Go.Proofs.Ythdkbocokefdhaa
set_option maxRecDepth 100000
open Go.RowKit
def sv (l : List ByteArray) : List Value := l.map Value.string
def SRow (B : Nat) (v : Value) (l : List ByteArray) (w : World) : Prop := w.ownsRow B 9 1 v l.length (sv l)
theorem info9' : ∃ i, Try.prog.info? 9 = some i ∧ i.zero = some (.string ⟨#[]⟩) ∧ i.size = 1 ∧ i.bytes = 16 := by
  have h : (Try.prog.info? 9).map (fun i => (i.zero, i.size, i.bytes)) = some (some (.string ⟨#[]⟩), 1, 16) := by kernel_rfl
  cases hc : Try.prog.info? 9 with
  | none => rw [hc] at h; cases h
  | some i =>
    rw [hc] at h
    simp only [Option.map_some, Option.some.injEq, Prod.mk.injEq] at h
    exact ⟨i, rfl, h.1, h.2.1, h.2.2⟩
theorem cell_at1 {w : World} {g : Nat} {C : Array Value} {t : TypeId} (hg : w.heap[g]? = some (.cells C t (0, 0))) (j : Nat) (u : Value) (h : C.toList[j]? = some u) : w.cell? ((⟨g, 0, none⟩ : Addr).add j) = some u := by
  have ea : ∀ n, (⟨g, 0, none⟩ : Addr).add n = ⟨g, n, none⟩ := fun n => by unfold Addr.add; split <;> simp_all
  rw [ea, Lib.cell_of_heap hg]
  simpa using h
theorem app_s {B : Nat} {w : World} {v : Value} {l : List ByteArray} (h : SRow B v l w) (x : ByteArray) (g : Nat) (hg : w.heap[g]? = some (.cells #[.string x] 9 (0, 0))) (hlen : l.length ≤ 1000000) (hB : B ≤ w.heap.size) :
    ∃ v' w', (Builtin.append_ #[24, 24] 24 #[v, .slice (some ⟨g, 0, none⟩) 1 1]).run Try.prog w = .ok v' w' ∧ SRow B v' (l ++ [x]) w' ∧ w.grownBy w' v.ownBlock ∧ (v'.ownBlock = v.ownBlock ∨ v'.ownBlock = some w.heap.size) := by
  obtain ⟨i0, hi, hz0, hz1, hz2⟩ := info9'
  obtain ⟨v', w', hr, h2, h3, _, h5⟩ := run_append_own_at (P := Try.prog) w B 24 24 9 i0 _ 1 16 Try.underlying24 hi hz0 hz1 hz2 rfl (by decide) v l.length (sv l) h ⟨g, 0, none⟩ 1 1 [.string x] rfl (fun j u hu => cell_at1 hg j u hu)
    (fun u hu => by simp at hu; subst hu; rfl) (by unfold maxLen; omega) (by omega) hB
  refine ⟨v', w', hr, ?_, h3, h5⟩
  unfold SRow
  rw [List.length_append, show sv (l ++ [x]) = sv l ++ [.string x] by unfold sv; simp]
  exact h2
theorem SRow.nil (B : Nat) (w : World) : SRow B (.slice none 0 0) [] w := World.ownsRow_nil _ _ _ _
theorem SRow.same {B : Nat} {v : Value} {l : List ByteArray} {w w' : World} (h : SRow B v l w) (hs : ∀ b, v.ownBlock = some b → w'.heap[b]? = w.heap[b]?) : SRow B v l w' := by
  refine ⟨h.1, ?_⟩
  rcases h.2 with h1 | ⟨g, cap, cur, rfl, h0, hg, hr⟩
  · exact .inl h1
  · exact .inr ⟨g, cap, cur, rfl, h0, (hs g rfl).trans hg, hr⟩
theorem SRow.obj {B : Nat} {v : Value} {l : List ByteArray} {w : World} {b : Nat} (h : SRow B v l w) (hb : v.ownBlock = some b) : ∃ cur, w.heap[b]? = some (.cells cur 9 (0, 0)) := by
  rcases h.2 with ⟨rfl, _⟩ | ⟨g, cap, cur, rfl, _, hg, _⟩
  · cases hb
  · injection hb with hb
    subst hb
    exact ⟨cur, hg⟩
theorem SRow.ne {B : Nat} {v : Value} {l : List ByteArray} {w : World} {b c : Nat} {C : Array Value} {t : TypeId} (h : SRow B v l w) (hb : v.ownBlock = some b) (hc : w.heap[c]? = some (.cells C t (0, 0))) (ht : t ≠ 9) : b ≠ c := by
  obtain ⟨cur, h1⟩ := h.obj hb
  intro e
  rw [e, hc] at h1
  injection h1 with h1
  injection h1 with _ h1
  exact ht h1
theorem SRow.set {B : Nat} {v : Value} {l : List ByteArray} {w : World} {c : Nat} {C : Array Value} {t : TypeId} (h : SRow B v l w) (hc : w.heap[c]? = some (.cells C t (0, 0))) (ht : t ≠ 9) (i : Nat) (x : Value) : SRow B v l (w.setCell ⟨c, i, none⟩ x) :=
  h.same fun b hb => Below.heap_setCell _ _ _ _ (h.ne hb hc ht)
theorem SRow.le {B : Nat} {v : Value} {l : List ByteArray} {w : World} {b : Nat} (h : SRow B v l w) (hb : v.ownBlock = some b) : B ≤ b := (World.ownsRow.lt h b hb).1
theorem SRow.below {B : Nat} {v : Value} {l : List ByteArray} {w w' : World} (h : SRow B v l w) (hb : Below w.heap.size w w') : SRow B v l w' :=
  h.same fun b hq => by obtain ⟨cur, h1⟩ := h.obj hq; exact hb.block _ (heap_lt h1)
theorem SRow.at {B : Nat} {w : World} {v : Value} {l : List ByteArray} (h : SRow B v l w) (j : Nat) (hj : j < l.length) : ∃ g cap, v = .slice (some ⟨g, 0, none⟩) l.length cap ∧ w.cell? ⟨g, j, none⟩ = some (.string l[j]) := by
  rcases Nat.eq_zero_or_pos l.length with h0 | h0
  · omega
  obtain ⟨g, c, e, _⟩ := World.ownsRow.form h h0
  subst e
  refine ⟨g, c, rfl, ?_⟩
  have h1 := World.ownsRow.cells h rfl j (.string l[j]) (by unfold sv; simp [hj])
  have h2 : (⟨g, 0, none⟩ : Addr).add j = ⟨g, j, none⟩ := by unfold Addr.add; split <;> simp_all
  rw [h2] at h1; exact h1
theorem wpList_append_ok {P : Program} {w : World} {ops : Array Oper} {rest : List Oper} {o : Oper} {a : Act} {Q : Exit → Act → World → Prop} (hgd : o.guard = none) (sl x : Operand) (t : TypeId)
    (ho : o.op = .call { callee := .builtin .append, args := #[sl, x], argTypes := #[t, t] }) (v0 x0 v' : Value) (w' : World) (hs : a.eval sl = v0) (hx : a.eval x = x0)
    (hr : (Builtin.append_ #[t, t] o.type #[v0, x0]).run P w = .ok v' w') (h : wpList P ops Q rest (a.put o.dst v') w') : wpList P ops Q (o :: rest) a w := by
  refine wpList_plain hgd fun K hK => ?_
  unfold Oper.wp execOp
  simp only [ho, resolve, invoke, builtin, Sem.run_bind, Sem.run_pure, Result.andThen_ok, List.map_toArray, List.map_cons, List.map_nil, hs, hx, hr]
  exact hK _ _ h
theorem wpList_append_v {P : Program} {ops : Array Oper} {rest : List Oper} {o : Oper} {a : Act} {w : World} {Q : Exit → Act → World → Prop}
    (s x : Operand) (t : TypeId) (v0 x0 : Value) (hg : o.guard = none) (hop : o.op = Op.call { callee := Callee.builtin Builtin.append, args := #[s, x], argTypes := #[t, t] })
    (hs : a.eval s = v0) (hx : a.eval x = x0)
    (h : ∃ v' w', (Builtin.append_ #[t, t] o.type #[v0, x0]).run P w = .ok v' w' ∧ wpList P ops Q rest (a.put o.dst v') w') :
    wpList P ops Q (o :: rest) a w := by
  subst hs hx
  obtain ⟨v', w', h1, h2⟩ := h
  refine wpList_plain hg fun K' hK' => ?_
  unfold Oper.wp
  simp [execOp, hop, resolve, invoke, builtin, h1, Result.andThen]
  exact hK' _ _ h2
end Go.Proofs.Ythdkbocokefdhaa
