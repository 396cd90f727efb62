import Derived.Test.YtfagkmmenfeppaaDoorOpen
import Derived.LaidOnce
/- The table that lies, out of the row's condition. -/
namespace Go.Proofs.YtfagkmmenfeppaaDoor
set_option maxRecDepth 100000
open Go.RowKit
open Go.ChangeShapes Go.WideShapes
def laidL : List (String × DataW Unit) := [("palanquin/vtwo.families", Rows.laid_palanquin_vtwo_families)]
theorem gFam : Tryd.prog.globalNamed "palanquin/vtwo.families" = some 0 := by kernel_rfl
theorem tFam : (Tryd.prog.globals[0]?).map (·.type) = some 85 := by kernel_rfl
theorem cells85 : Tryd.prog.cellsOf 85 = 15 := by kernel_rfl
theorem cells48 : Tryd.prog.cellsOf 48 = 3 := by kernel_rfl
theorem fields48 : ∃ f0 f1 f2, Tryd.prog.underlying 48 = some (.struct #[f0, f1, f2]) ∧ (f0.offset = 0 ∧ f1.offset = 1 ∧ f2.offset = 2) ∧ f0.type = 3 ∧ f1.type = 3 ∧ f2.type = 3 := ⟨_, _, _, Tryd.underlying48, ⟨rfl, rfl, rfl⟩, rfl, rfl, rfl⟩
theorem door_met (os : Os) (args : Array Value) : laidMetH Tryd.prog laidL ((World.doorLaid Tryd.prog 400 os).forCall (fun _ _ => 0) ⟨#[], args, []⟩).memory :=
  laidMetH_of_parts3 (fuel := 8) (laidMet_of_run' 8 (by kernel_rfl) (by kernel_rfl)) (by kernel_rfl) (by kernel_rfl)
/-- three numbers of one family -/
theorem fam_three {W : World} {sp : Nat → Bool} {hd : Bool} {k : Nat} {cs : List Value} {x : DataW Unit × List MemPlace} {enc : TypeId × Value → Unit} (h : DataW.trod enc Tryd.prog W 0 sp hd k 48 cs = some x) :
    ∃ a b c : Int, cs = [.int .i64 a, .int .i64 b, .int .i64 c] ∧ x.1 = .agg [.lit (.int .i64 a), .lit (.int .i64 b), .lit (.int .i64 c)] := by
  obtain ⟨f0, f1, f2, he, ⟨o0, o1, o2⟩, q0, q1, q2⟩ := fields48
  obtain ⟨xs, m, hk, hxy, hlen, hxl, hg⟩ := DataW.trod_struct he h
  rw [cells48] at hlen
  match xs, hxl, cs, hlen with
  | [y0, y1, y2], _, [v0, v1, v2], _ =>
    have g0 := hg 0 f0 rfl
    have g1 := hg 1 f1 rfl
    have g2 := hg 2 f2 rfl
    simp [o0, o1, o2, q0, q1, q2, cells3] at g0 g1 g2
    obtain ⟨a, e0, d0, _⟩ := DataW.trod_int Tryd.underlying3 g0
    obtain ⟨b, e1, d1, _⟩ := DataW.trod_int Tryd.underlying3 g1
    obtain ⟨c, e2, d2, _⟩ := DataW.trod_int Tryd.underlying3 g2
    simp at e0 e1 e2
    refine ⟨a, b, c, by rw [e0, e1, e2], ?_⟩
    rw [hxy]
    simp [d0, d1, d2]
theorem fam_of_laid {W : World} (h : laidMetH Tryd.prog laidL W) : FamAt W := by
  rw [MakeChecks.laidMetH_plain _ _ _ (by kernel_rfl)] at h
  obtain ⟨ps, ⟨g0, t0, cs0, f0, p0, q0, hg0, ht0, hv0, hd0, _, _⟩, _, _⟩ := h
  obtain rfl := Option.some.inj (gFam.symm.trans hg0)
  obtain rfl := Option.some.inj (tFam.symm.trans ht0)
  obtain ⟨xs, m, hk, hx1, hlen, hn, hel⟩ := DataW.trod_array Tryd.underlying85 hd0
  rw [cells85] at hlen
  have h0 := hel 0 (by decide)
  have h1 := hel 1 (by decide)
  have h2 := hel 2 (by decide)
  have h3 := hel 3 (by decide)
  have h4 := hel 4 (by decide)
  rw [cells48] at h0 h1 h2 h3 h4
  simp only [Prod.mk.injEq] at hx1
  obtain ⟨l⟩ := cs0
  match xs, hn, l, hlen with
  | [x0, x1, x2, x3, x4], _, [v0, v1, v2, v3, v4, v5, v6, v7, v8, v9, v10, v11, v12, v13, v14], _ =>
    obtain ⟨a0, b0, c0, e0, z0⟩ := fam_three (x := x0) h0
    obtain ⟨a1, b1, c1, e1, z1⟩ := fam_three (x := x1) h1
    obtain ⟨a2, b2, c2, e2, z2⟩ := fam_three (x := x2) h2
    obtain ⟨a3, b3, c3, e3, z3⟩ := fam_three (x := x3) h3
    obtain ⟨a4, b4, c4, e4, z4⟩ := fam_three (x := x4) h4
    simp only [List.drop, List.take, List.cons.injEq, and_true, Nat.zero_mul, Nat.one_mul, Nat.reduceMul] at e0 e1 e2 e3 e4
    simp only [List.map_cons, List.map_nil, z0, z1, z2, z3, z4, Rows.laid_palanquin_vtwo_families] at hx1
    simp at hx1
    obtain ⟨rfl, rfl, rfl⟩ := e0
    obtain ⟨rfl, rfl, rfl⟩ := e1
    obtain ⟨rfl, rfl, rfl⟩ := e2
    obtain ⟨rfl, rfl, rfl⟩ := e3
    obtain ⟨rfl, rfl, rfl⟩ := e4
    obtain ⟨⟨⟨rfl, rfl, rfl⟩, ⟨rfl, rfl, rfl⟩, ⟨rfl, rfl, rfl⟩, ⟨rfl, rfl, rfl⟩, rfl, rfl, rfl⟩, _⟩ := hx1
    simp only [World.var?, gFam, Option.bind_some] at hv0
    split at hv0
    · rename_i cs t fr heq
      cases hv0
      exact ⟨t, fr, heq⟩
    · cases hv0
end Go.Proofs.YtfagkmmenfeppaaDoor
