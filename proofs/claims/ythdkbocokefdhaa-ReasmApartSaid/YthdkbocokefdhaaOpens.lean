import Derived.Test.YthdkbocokefdhaaOncA
import Derived.Deep.Slices
import Derived.ChangeArms
import Derived.OpenShut
import Derived.ShutString
import Derived.ChangeOld
import Derived.ProofKit
/- What comes into a law, opened: a header, numbers. -/
namespace Go.Proofs.Ythdkbocokefdhaa
set_option maxRecDepth 100000
open Go.RowKit
open Go.ChangeShapes Go.WideShapes Go.ChangeAt
theorem hcells3 : Try.prog.cellsOf 3 = 1 := by kernel_rfl
theorem hcells4 : Try.prog.cellsOf 4 = 1 := by kernel_rfl
theorem hcells9 : Try.prog.cellsOf 9 = 1 := by kernel_rfl
theorem hcells43 : Try.prog.cellsOf 43 = 10 := by kernel_rfl
theorem fs43 : ∃ f0 f1 f2 f3 f4 f5 f6 f7 f8 f9, Try.prog.underlying 43 = some (.struct #[f0, f1, f2, f3, f4, f5, f6, f7, f8, f9]) ∧
    (f0.offset = 0 ∧ f1.offset = 1 ∧ f2.offset = 2 ∧ f3.offset = 3 ∧ f4.offset = 4 ∧ f5.offset = 5 ∧ f6.offset = 6 ∧ f7.offset = 7 ∧ f8.offset = 8 ∧ f9.offset = 9) ∧
    f0.type = 3 ∧ f1.type = 3 ∧ f2.type = 3 ∧ f3.type = 3 ∧ f4.type = 3 ∧ f5.type = 4 ∧ f6.type = 4 ∧ f7.type = 9 ∧ f8.type = 9 ∧ f9.type = 9 :=
  ⟨_, _, _, _, _, _, _, _, _, _, Try.underlying43, ⟨rfl, rfl, rfl, rfl, rfl, rfl, rfl, rfl, rfl, rfl⟩, rfl, rfl, rfl, rfl, rfl, rfl, rfl, rfl, rfl, rfl⟩
def H4.small (h : H4) : Prop := h.src.length < 9223372036854775808 ∧ h.dst.length < 9223372036854775808 ∧ h.opt.length < 9223372036854775808
theorem h4_cells {H : Type} {enc : TypeId × Value → H} {w : World} {base : Nat} {spare : Nat → Bool} {held : Bool} {fuel : Nat} {x : DataW H × List MemPlace} {cs : List Value} (h : DataW.trod enc Try.prog w base spare held fuel 43 cs = some x) :
    ∃ g : H4, cs = (hc g).toList ∧ g.small := by
  obtain ⟨f0, f1, f2, f3, f4, f5, f6, f7, f8, f9, he, ⟨o0, o1, o2, o3, o4, o5, o6, o7, o8, o9⟩, q0, q1, q2, q3, q4, q5, q6, q7, q8, q9⟩ := fs43
  obtain ⟨xs, k, hk, hxy, hlen, hxl, hg⟩ := DataW.trod_struct he h
  rw [hcells43] at hlen
  match xs, hxl, cs, hlen with
  | [y0, y1, y2, y3, y4, y5, y6, y7, y8, y9], _, [v0, v1, v2, v3, v4, v5, v6, v7, v8, v9], _ =>
    have g0 := hg 0 f0 rfl
    have g1 := hg 1 f1 rfl
    have g2 := hg 2 f2 rfl
    have g3 := hg 3 f3 rfl
    have g4 := hg 4 f4 rfl
    have g5 := hg 5 f5 rfl
    have g6 := hg 6 f6 rfl
    have g7 := hg 7 f7 rfl
    have g8 := hg 8 f8 rfl
    have g9 := hg 9 f9 rfl
    simp [o0, o1, o2, o3, o4, o5, o6, o7, o8, o9, q0, q1, q2, q3, q4, q5, q6, q7, q8, q9, hcells3, hcells4, hcells9] at g0 g1 g2 g3 g4 g5 g6 g7 g8 g9
    obtain ⟨r0, e0, _, w0⟩ := DataW.trod_int Try.underlying3 g0
    obtain ⟨r1, e1, _, w1⟩ := DataW.trod_int Try.underlying3 g1
    obtain ⟨r2, e2, _, w2⟩ := DataW.trod_int Try.underlying3 g2
    obtain ⟨r3, e3, _, w3⟩ := DataW.trod_int Try.underlying3 g3
    obtain ⟨r4, e4, _, w4⟩ := DataW.trod_int Try.underlying3 g4
    obtain ⟨r5, e5, _⟩ := DataW.trod_bool Try.underlying4 g5
    obtain ⟨r6, e6, _⟩ := DataW.trod_bool Try.underlying4 g6
    obtain ⟨r7, e7, _, w7⟩ := DataW.trod_string Try.underlying9 g7
    obtain ⟨r8, e8, _, w8⟩ := DataW.trod_string Try.underlying9 g8
    obtain ⟨r9, e9, _, w9⟩ := DataW.trod_string Try.underlying9 g9
    simp at e0 e1 e2 e3 e4 e5 e6 e7 e8 e9
    subst e0 e1 e2 e3 e4 e5 e6 e7 e8 e9
    have sz : ∀ r : ByteArray, r.size ≤ maxLen → r.data.toList.length < 9223372036854775808 := fun r h => by
      have e : r.data.toList.length = r.size := by simp
      unfold maxLen at h; omega
    exact ⟨⟨r0, r1, r2, r3, r4, r5, r6, r7.data.toList, r8.data.toList, r9.data.toList⟩, rfl, sz r7 w7, sz r8 w8, sz r9 w9⟩
theorem open_h4 {H : Type} {enc : TypeId × Value → H} {w : World} {base : Nat} {v : Value} {d : DataW H} {p : List MemPlace} (hv' : Value.okWide Try.prog w .any base 43 v) (h : DataW.Trod enc Try.prog w 0 (fun _ => true) true 43 v d p) : ∃ g : H4, v = hv g ∧ g.small := by
  obtain ⟨cs, rfl, hsz⟩ := okWide_struct Try.underlying43 hv'
  obtain ⟨fuel, hf⟩ := h
  obtain ⟨g, e, hs⟩ := h4_cells hf
  obtain ⟨l⟩ := cs
  simp only [Value.cells] at e
  exact ⟨g, by unfold hv; rw [show l = _ from e], hs⟩
theorem u16_nat {a : Int} (h : (Lit.int .u16 a).wf = true) : ∃ b : Nat, a = b ∧ b < 65536 := by
  have hmin : IntKind.u16.min = 0 := rfl
  have hmax : IntKind.u16.max = 65535 := rfl
  simp only [Lit.wf, Bool.and_eq_true, decide_eq_true_eq] at h
  exact ⟨a.toNat, by omega, by omega⟩
theorem open_u16s {H : Type} {enc : TypeId × Value → H} {w : World} {spare : Nat → Bool} {held : Bool} {fuel : Nat} {a : Option Addr} {len cap : Nat} {x : DataW H × List MemPlace} (h : DataW.trod enc Try.prog w 0 spare held fuel 55 [.slice a len cap] = some x) :
    ∃ zs : List Nat, zs.length = len ∧ U16In w a zs ∧ zs.length ≤ 9223372036854775807 := by
  rcases open_ints Try.underlying55 Try.underlying44 (by kernel_rfl) h with ⟨hcs, _⟩ | ⟨y, l, c, zs, hcs, _, hl, hm, hz, _, hcell, hwz⟩
  · simp at hcs
    obtain ⟨rfl, rfl, rfl⟩ := hcs
    exact ⟨[], rfl, fun j hj => by simp at hj, by simp⟩
  · simp at hcs
    obtain ⟨rfl, rfl, rfl⟩ := hcs
    have hzl : len ≤ zs.length := by rw [hz]; split <;> omega
    refine ⟨(zs.take len).map Int.toNat, by simp; omega, fun j hj => ?_, by unfold maxLen at hm; simp; omega⟩
    have hjl : j < len := by simp at hj; omega
    have hjz : j < zs.length := by omega
    have e1 : zs.getD j 0 = zs[j] := by rw [List.getD_eq_getElem?_getD, List.getElem?_eq_getElem hjz, Option.getD_some]
    obtain ⟨b, hb, hb9⟩ := u16_nat (hwz zs[j] (List.getElem_mem hjz))
    have e2 : (((zs.take len).map Int.toNat)[j] : Nat) = b := by simp [hb]
    refine ⟨y, rfl, ?_, by rw [e2]; exact hb9⟩
    rw [hcell j hjz, e1, e2, hb]
theorem once_law (w : World) (g : H4) (hg : g.small) (s : ByteArray) (ws : s.size ≤ maxLen) (mtu : Int) (_ : (Lit.int .i64 mtu).wf = true) (l : List Nat) (a : Option Addr) (cap : Nat) (hin : U16In w a l ∧ l.length ≤ 9223372036854775807) :
    Calls Try.prog 7 #[hv g, .string s, .int .i64 mtu, .slice a l.length cap] w fun e w' => e = .returned (.bool true) ∧ Below w.heap.size w w' :=
  once_walk g s.data.toList mtu l a cap w hin.1 hg (by have e : s.data.toList.length = s.size := by simp
                                                       unfold maxLen at ws; omega) hin.2
end Go.Proofs.Ythdkbocokefdhaa
