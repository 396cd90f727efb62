import Derived.Test.YthdkbocokefdhaaSav
import Derived.Deep.RegionHeld
import Derived.Deep.RegionHeld3
/- A region that draws its order: one operation at a time. -/
namespace Go.Proofs.Ythdkbocokefdhaa
set_option maxRecDepth 100000
open Go.RowKit
section
variable {P : Program} {ops : Array Oper} {Q : Exit → Act → World → Prop} {md : Region.Mode} {S : World → Prop}
/-- the beginning -/
theorem wst {id : Nat} {a : Act} {w : World} (S : World → Prop) (hS : S w.drew) {n : Nat} {l' : Array Bool}
    (h : S w.drew → wpAnyH P .any ops Q S n l' a w.drew)
    (hm : P.follows .mixedOrders = true := by kernel_rfl)
    (hn : ops.size = n := by (simp only [List.size_toArray, List.length_cons, List.length_nil, Nat.reduceAdd]; rfl))
    (hl : Array.replicate n false = l' := by (simp only [← List.toArray_replicate, List.replicate_succ, List.replicate_zero]; rfl)) : (Code.region id ops true).wp P Q a w := by
  subst hn hl
  exact wp_region_held_drew hm hS h
/-- operation i only reckons, or is left out -/
theorem tk (i : Nat) {oi : Oper} {v : Value} {fuel : Nat} {listed l' : Array Bool} {a a' : Act} {w : World}
    (h : wpAnyH P md ops Q S fuel l' a' w)
    (hi : ops[i]? = some oi := by ((simp only [List.getElem?_toArray, List.getElem?_cons_succ, List.getElem?_cons_zero]); rfl))
    (hs : Region.noSelect ops = true := by kernel_rfl) (hf : Region.free md ops listed i = true := by kernel_rfl) (hr : (Region.ready md ops listed).contains i = true := by kernel_rfl)
    (hS : S w := by assumption)
    (hy : YieldsIf P ops S oi v a := by first | exact Or.inr ⟨by rfl, rfl⟩ | (refine Or.inl ⟨by rfl, ?_⟩; intro w hSw; go_simp; first | done | with_reducible rfl))
    (ha : a.put oi.dst v = a' := by ((try simp only [Act.put, List.setIfInBounds_toArray, List.set_cons_zero, List.set_cons_succ]); rfl))
    (hl : listed.setIfInBounds i true = l' := by ((try simp only [List.setIfInBounds_toArray, List.set_cons_zero, List.set_cons_succ]); rfl))
    (hQ : ∀ c a w, Q (.panic c) (a.put oi.dst v) w → Q (.panic c) a w := by exact fun _ _ _ h => h) : wpAnyH P md ops Q S (fuel + 1) listed a w := by
  subst ha hl
  exact wpAnyH_take hi hs hf hr hQ hy hS h
/-- operation i is left out -/
theorem sk (i : Nat) {oi : Oper} {fuel : Nat} {listed l' : Array Bool} {a a' : Act} {w : World}
    (h : wpAnyH P md ops Q S fuel l' a' w)
    (hi : ops[i]? = some oi := by ((simp only [List.getElem?_toArray, List.getElem?_cons_succ, List.getElem?_cons_zero]); rfl))
    (hy : Region.wanted oi (yielded ops a.tmps) = false := by rfl)
    (hs : Region.noSelect ops = true := by kernel_rfl) (hf : Region.free md ops listed i = true := by kernel_rfl) (hr : (Region.ready md ops listed).contains i = true := by kernel_rfl)
    (hS : S w := by assumption)
    (ha : a.put oi.dst undef = a' := by ((try simp only [Act.put, List.setIfInBounds_toArray, List.set_cons_zero, List.set_cons_succ]); rfl))
    (hl : listed.setIfInBounds i true = l' := by ((try simp only [List.setIfInBounds_toArray, List.set_cons_zero, List.set_cons_succ]); rfl))
    (hQ : ∀ c a w, Q (.panic c) (a.put oi.dst undef) w → Q (.panic c) a w := by exact fun _ _ _ h => h) : wpAnyH P md ops Q S (fuel + 1) listed a w := by
  subst ha hl
  exact wpAnyH_take hi hs hf hr hQ (Or.inr ⟨hy, rfl⟩) hS h
/-- operation i reads what S tells -/
theorem tv (i : Nat) {oi : Oper} {v : Value} {fuel : Nat} {listed l' : Array Bool} {a a' : Act} {w : World}
    (hy : ∀ w, S w → (execOp a.eval oi).run P w = .ok (.value v) w)
    (h : wpAnyH P md ops Q S fuel l' a' w)
    (hi : ops[i]? = some oi := by ((simp only [List.getElem?_toArray, List.getElem?_cons_succ, List.getElem?_cons_zero]); rfl))
    (hw : Region.wanted oi (yielded ops a.tmps) = true := by rfl)
    (hs : Region.noSelect ops = true := by kernel_rfl) (hf : Region.free md ops listed i = true := by kernel_rfl) (hr : (Region.ready md ops listed).contains i = true := by kernel_rfl)
    (hS : S w := by assumption)
    (ha : a.put oi.dst v = a' := by ((try simp only [Act.put, List.setIfInBounds_toArray, List.set_cons_zero, List.set_cons_succ]); rfl))
    (hl : listed.setIfInBounds i true = l' := by ((try simp only [List.setIfInBounds_toArray, List.set_cons_zero, List.set_cons_succ]); rfl))
    (hQ : ∀ c a w, Q (.panic c) (a.put oi.dst v) w → Q (.panic c) a w := by exact fun _ _ _ h => h) : wpAnyH P md ops Q S (fuel + 1) listed a w := by
  subst ha hl
  exact wpAnyH_take hi hs hf hr hQ (Or.inl ⟨hw, hy⟩) hS h
/-- operation i is carried out: no other one may come up -/
theorem rd (i : Nat) {oi : Oper} {fuel : Nat} {listed l' : Array Bool} {a : Act} {w : World}
    (h : ∀ K' : Act → World → Prop, Shut (∀ a w, S w → (S w → wpAnyH P md ops Q S fuel l' a w) → K' a w) → if Region.wanted oi (yielded ops a.tmps) = true then Oper.wp P oi a w K' Q else K' (a.put oi.dst undef) w)
    (hi : ops[i]? = some oi := by ((simp only [List.getElem?_toArray, List.getElem?_cons_succ, List.getElem?_cons_zero]); rfl))
    (hr : Region.ready md ops listed = [i] := by kernel_rfl)
    (hl : listed.setIfInBounds i true = l' := by ((try simp only [List.setIfInBounds_toArray, List.set_cons_zero, List.set_cons_succ]); rfl)) : wpAnyH P md ops Q S (fuel + 1) listed a w := by
  subst hl
  exact wpAnyH_ready (rs := [i]) hr (by simp) (AllReadyH.cons hi h AllReadyH.nil)
/-- and on, behind it -/
theorem goon {fuel : Nat} {l' : Array Bool} {a a' : Act} {w : World} {K : Act → World → Prop} (hK : Shut (∀ a w, S w → (S w → wpAnyH P md ops Q S fuel l' a w) → K a w)) (hS : S w)
    (h : S w → wpAnyH P md ops Q S fuel l' a' w) (ha : a = a' := by ((try simp only [Act.put, List.setIfInBounds_toArray, List.set_cons_zero, List.set_cons_succ]); rfl)) : K a w := by
  subst ha
  exact hK.out _ _ hS h
end
end Go.Proofs.Ythdkbocokefdhaa
