import Derived.Test.YtmijfhfjhbckdaaBack
/- ScriptBack, at what came in. -/
namespace Go.Proofs.Ytmijfhfjhbckdaa
set_option maxRecDepth 100000
open Go.RowKit
open Go.ChangeShapes Go.WideShapes
structure CfgL where
  y0 : ByteArray
  y1 : Int
  y2 : Bool
  y3 : Bool
  y4 : Nat
  y5 : Bool
  y6 : Int
  y7 : Int
  y8 : Int
def CfgL.V (g : CfgL) : Value := .agg #[.string g.y0, .int .i64 g.y1, .bool g.y2, .bool g.y3, .int .u32 (g.y4 : Nat), .bool g.y5, .int .i64 g.y6, .int .i64 g.y7, .int .i64 g.y8]
structure CfgL.came (g : CfgL) : Prop where
  y1 : inI g.y1
  y4 : g.y4 < 4294967296
  y6 : inI g.y6
  y7 : inI g.y7
structure StoL where
  z0 : Int
  z1 : Int
  z2 : Int
def StoL.V (g : StoL) : Value := .agg #[.int .i64 g.z0, .int .i64 g.z1, .int .i64 g.z2]
structure StoL.came (g : StoL) : Prop where
  z0 : inI g.z0
  z1 : inI g.z1
  z2 : inI g.z2
theorem open_cfg {H : Type} {enc : TypeId × Value → H} {w : World} {base : Nat} {v : Value} {d : DataW H} {p : List MemPlace} (hv : Value.okWide Try.prog w .any base 27 v) (h : DataW.Trod enc Try.prog w 0 (fun _ => true) true 27 v d p) : ∃ g : CfgL, v = g.V ∧ g.came := by
  obtain ⟨cs, rfl, hsz⟩ := okWide_struct Try.underlying27 hv
  obtain ⟨fuel, hf⟩ := h
  obtain ⟨y0, md, sm, ky, va, df, tl, ts, mt, e, h1, h2, h3, h4⟩ := cfg_cells hf
  obtain ⟨l⟩ := cs
  simp only [Value.cells] at e
  exact ⟨⟨y0, md, sm, ky, va, df, tl, ts, mt⟩, by rw [show l = _ from e]; rfl, ⟨h1, h2, h3, h4⟩⟩
theorem open_sto {H : Type} {enc : TypeId × Value → H} {w : World} {base : Nat} {v : Value} {d : DataW H} {p : List MemPlace} (hv : Value.okWide Try.prog w .any base 29 v) (h : DataW.Trod enc Try.prog w 0 (fun _ => true) true 29 v d p) : ∃ g : StoL, v = g.V ∧ g.came := by
  obtain ⟨cs, rfl, hsz⟩ := okWide_struct Try.underlying29 hv
  obtain ⟨fuel, hf⟩ := h
  obtain ⟨z0, z1, z2, e, h1, h2, h3⟩ := sto_cells hf
  obtain ⟨l⟩ := cs
  simp only [Value.cells] at e
  exact ⟨⟨z0, z1, z2⟩, by rw [show l = _ from e]; rfl, ⟨h1, h2, h3⟩⟩
theorem back_law (w : World) (l : List ActL) (a : Option Addr) (cap : Nat) (hin : ActIn w a l ∧ ∀ y ∈ l, y.came) (g : CfgL) (hg : g.came) (s : StoL) (hs : s.came) (more : ByteArray) (hm : more.size ≤ maxLen) :
    Calls Try.prog 4 #[.slice a l.length cap, g.V, s.V, .string more] w fun e w' => e = .returned (.bool true) ∧ Below w.heap.size w w' :=
  back_walk w l a cap g.y0 g.y1 g.y2 g.y3 g.y4 g.y5 g.y6 g.y7 g.y8 s.z0 s.z1 s.z2 more hin.1 hin.2 hg.y4 hg.y1 hg.y6 hg.y7 hs.z0 hs.z2
end Go.Proofs.Ytmijfhfjhbckdaa
