import Derived.Test.YtmijfhfjhbckdaaPuts
/- ScriptPuts, at what came in. -/
namespace Go.Proofs.Ytmijfhfjhbckdaa
set_option maxRecDepth 100000
open Go.RowKit
open Go.ChangeShapes Go.WideShapes
theorem open_act {H : Type} {enc : TypeId × Value → H} {w : World} {base : Nat} {v : Value} {d : DataW H} {p : List MemPlace} (hv : Value.okWide Try.prog w .any base 47 v) (h : DataW.Trod enc Try.prog w 0 (fun _ => true) true 47 v d p) : ∃ g : ActL, v = .agg g.C ∧ g.came := by
  obtain ⟨cs, rfl, hsz⟩ := okWide_struct Try.underlying47 hv
  obtain ⟨fuel, hf⟩ := h
  obtain ⟨g, e, hg⟩ := act_cells hf
  obtain ⟨l⟩ := cs
  simp only [Value.cells] at e
  exact ⟨g, by rw [show l = _ from e], hg⟩
theorem puts_law (w : World) (q : ActL) (hq : q.came) (g : CfgL) (hg : g.came) (s : StoL) (hs : s.came) (l : List RepL) (a : Option Addr) (cap : Nat) (hin : RepIn w a l) :
    Calls Try.prog 5 #[.agg q.C, g.V, s.V, .slice a l.length cap] w fun e w' => e = .returned (.bool true) ∧ Below w.heap.size w w' :=
  puts_walk w q hq g.y0 g.y1 g.y2 g.y3 g.y4 g.y5 g.y6 g.y7 g.y8 s.z0 s.z1 s.z2 l a cap hin hg.y4 hg.y1 hg.y6 hg.y7 hs.z0 hs.z2
end Go.Proofs.Ytmijfhfjhbckdaa
