import Derived.Test.YthdkbocokefdhaaMapT
/- A round through the table's map, in the walk. -/
namespace Go.Proofs.Ythdkbocokefdhaa
set_option maxRecDepth 100000
open Go.RowKit
section
variable (w : World) {ops : Array Oper} {rest : List Oper} {o : Oper} {a : Act} {Q : Exit → Act → World → Prop}
theorem wpList_next_e (hg : o.guard = none) (it : Operand) (hop : o.op = Op.next it false) (M r : Nat) (K : List (Ky × Nat)) (acc : List Ky) (cnt : Nat) (hit : a.eval it = .pointer (some ⟨r, 0, none⟩)) (h : Rg M r K acc cnt w)
    (hDone : cnt = 0 → (∀ i ∈ ks K, i ∈ acc) → wpList Try.prog ops Q rest (a.put o.dst (.tuple #[.bool false])) w)
    (hMore : ∀ (k : Ky) (p : Nat) (w' : World) (cnt' : Nat), (k, p) ∈ K → k ∉ acc → Rg M r K (k :: acc) cnt' w' → cnt' < cnt → w.grownBy w' (some r) → w'.heap.size = w.heap.size → (Instr.entry (.pointer (some ⟨r, 0, none⟩))).run Try.prog w' = .ok (.tuple #[kv k, .pointer (some ⟨p, 0, none⟩)]) w' →
      wpList Try.prog ops Q rest (a.put o.dst (.tuple #[.bool true, kv k, .pointer (some ⟨p, 0, none⟩)])) w') :
    wpList Try.prog ops Q (o :: rest) a w := by
  refine wpList_plain hg fun K' hK' => ?_
  unfold Oper.wp
  rcases h.next o.type with ⟨h0, hp, hrun⟩ | ⟨k, p, w', cnt', hm, ha, hrun, hrg, hlt, hgr, hsz, hen⟩
  · simp [execOp, hop, hit, hrun, Result.andThen]
    exact hK' _ _ (hDone h0 hp)
  · simp [execOp, hop, hit, hrun, Result.andThen]
    exact hK' _ _ (hMore k p w' cnt' hm ha hrg hlt hgr hsz hen)
theorem wpList_range_e (hg : o.guard = none) (m : Operand) (hop : o.op = Op.range 63 m) (M : Nat) (K : List (Ky × Nat)) (hm : a.eval m = .map (some M)) (h : PM M K w)
    (hK : ∀ w', Rg M w.heap.size K [] K.length w' → w.grownBy w' none → w'.heap.size = w.heap.size + 1 → wpList Try.prog ops Q rest (a.put o.dst (.pointer (some ⟨w.heap.size, 0, none⟩))) w') :
    wpList Try.prog ops Q (o :: rest) a w := by
  obtain ⟨D, h1, h2⟩ := h
  refine wpList_range_own w hg m 63 hop 68 69 law68 Try.underlying63 ptR M K.length D hm h1 (fun w' r1 r2 r3 => hK w' ?_ r2 r3)
  rw [h2.size] at r1
  refine ⟨D, _, K.length, r1, h2, fun k hk => h2.only k hk, fun i hi => ?_⟩
  rw [h2.has i hi, decide_eq_decide]
  exact ⟨fun h => ⟨h, fun hc => by cases hc⟩, fun h => h.1⟩
end
end Go.Proofs.Ythdkbocokefdhaa
