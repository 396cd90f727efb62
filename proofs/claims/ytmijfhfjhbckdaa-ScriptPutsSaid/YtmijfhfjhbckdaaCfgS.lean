import Derived.Test.YtmijfhfjhbckdaaAwake
import Derived.Test.YtmijfhfjhbckdaaBackP
/- A configuration and a store: in two blocks, and as they came in. -/
namespace Go.Proofs.Ytmijfhfjhbckdaa
set_option maxRecDepth 100000
open Go.RowKit
open Go.ChangeShapes Go.WideShapes
/-- a configuration and a store, laid in two blocks -/
structure Two (A B : Nat) (C S : Array Value) (w V : World) : Prop where
  hA : V.heap[A]? = some (.cells C 27 (0, 0))
  hB : V.heap[B]? = some (.cells S 29 (0, 0))
  bl : Below w.heap.size w V
theorem Two.below {A B : Nat} {C S : Array Value} {w V W : World} (h : Two A B C S w V) (hb : Below V.heap.size V W) : Two A B C S w W := ⟨(hb.block _ (heap_lt h.hA)).trans h.hA, (hb.block _ (heap_lt h.hB)).trans h.hB, h.bl.trans (hb.mono h.bl.size)⟩
theorem Two.lay {C S : Array Value} {w V : World} (h : Below w.heap.size w V) : Two V.heap.size (V.heap.size + 1) C S w ((V.alloc (.cells C 27)).alloc (.cells S 29)) := ⟨heap_alloc2_old _ _ _, heap_alloc2_new _ _ _, (h.alloc h.size _).alloc (by have := h.size; simp; omega) _⟩
structure CfgL where
  y0 : ByteArray
  y1 : Int
  y2 : Bool
  y3 : Bool
  y4 : Nat
  y5 : Bool
  y6 : Int
  y7 : Int
  y8 : Int
def CfgL.V (g : CfgL) : Value := .agg #[.string g.y0, .int .i64 g.y1, .bool g.y2, .bool g.y3, .int .u32 (g.y4 : Nat), .bool g.y5, .int .i64 g.y6, .int .i64 g.y7, .int .i64 g.y8]
structure CfgL.came (g : CfgL) : Prop where
  y1 : inI g.y1
  y4 : g.y4 < 4294967296
  y6 : inI g.y6
  y7 : inI g.y7
structure StoL where
  z0 : Int
  z1 : Int
  z2 : Int
def StoL.V (g : StoL) : Value := .agg #[.int .i64 g.z0, .int .i64 g.z1, .int .i64 g.z2]
structure StoL.came (g : StoL) : Prop where
  z0 : inI g.z0
  z1 : inI g.z1
  z2 : inI g.z2
theorem open_cfg {H : Type} {enc : TypeId × Value → H} {w : World} {base : Nat} {v : Value} {d : DataW H} {p : List MemPlace} (hv : Value.okWide Try.prog w .any base 27 v) (h : DataW.Trod enc Try.prog w 0 (fun _ => true) true 27 v d p) : ∃ g : CfgL, v = g.V ∧ g.came := by
  obtain ⟨cs, rfl, hsz⟩ := okWide_struct Try.underlying27 hv
  obtain ⟨fuel, hf⟩ := h
  obtain ⟨y0, md, sm, ky, va, df, tl, ts, mt, e, h1, h2, h3, h4⟩ := cfg_cells hf
  obtain ⟨l⟩ := cs
  simp only [Value.cells] at e
  exact ⟨⟨y0, md, sm, ky, va, df, tl, ts, mt⟩, by rw [show l = _ from e]; rfl, ⟨h1, h2, h3, h4⟩⟩
theorem open_sto {H : Type} {enc : TypeId × Value → H} {w : World} {base : Nat} {v : Value} {d : DataW H} {p : List MemPlace} (hv : Value.okWide Try.prog w .any base 29 v) (h : DataW.Trod enc Try.prog w 0 (fun _ => true) true 29 v d p) : ∃ g : StoL, v = g.V ∧ g.came := by
  obtain ⟨cs, rfl, hsz⟩ := okWide_struct Try.underlying29 hv
  obtain ⟨fuel, hf⟩ := h
  obtain ⟨z0, z1, z2, e, h1, h2, h3⟩ := sto_cells hf
  obtain ⟨l⟩ := cs
  simp only [Value.cells] at e
  exact ⟨⟨z0, z1, z2⟩, by rw [show l = _ from e]; rfl, ⟨h1, h2, h3⟩⟩
end Go.Proofs.Ytmijfhfjhbckdaa
