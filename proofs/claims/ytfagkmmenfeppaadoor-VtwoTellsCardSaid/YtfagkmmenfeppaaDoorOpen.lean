import Derived.Test.YtfagkmmenfeppaaDoorCheck
import Derived.Test.YtfagkmmenfeppaaDoorRows
import Derived.Deep.Slices
import Derived.ChangeArms
import Derived.LaidMore
import Derived.OpenShut
import Derived.ProofKit
import Derived.Stop.Joined
/- A header that came in, opened; the table that lies. -/
namespace Go.Proofs.YtfagkmmenfeppaaDoor
set_option maxRecDepth 100000
open Go.RowKit
open Go.ChangeShapes Go.WideShapes
theorem cells45 : Tryd.prog.cellsOf 45 = 2 := by kernel_rfl
theorem cells24 : Tryd.prog.cellsOf 24 = 7 := by kernel_rfl
theorem cells3 : Tryd.prog.cellsOf 3 = 1 := by kernel_rfl
theorem cells9 : Tryd.prog.cellsOf 9 = 1 := by kernel_rfl
theorem cells4 : Tryd.prog.cellsOf 4 = 1 := by kernel_rfl
theorem cells22 : Tryd.prog.cellsOf 22 = 1 := by kernel_rfl
theorem fields45 : ∃ f0 f1, Tryd.prog.underlying 45 = some (.struct #[f0, f1]) ∧ f0.offset = 0 ∧ f1.offset = 1 ∧ f0.type = 3 ∧ f1.type = 9 := ⟨_, _, Tryd.underlying45, rfl, rfl, rfl, rfl⟩
theorem fields24 : ∃ f0 f1 f2 f3 f4 f5 f6, Tryd.prog.underlying 24 = some (.struct #[f0, f1, f2, f3, f4, f5, f6]) ∧ (f0.offset = 0 ∧ f1.offset = 1 ∧ f2.offset = 2 ∧ f3.offset = 3 ∧ f4.offset = 4 ∧ f5.offset = 5 ∧ f6.offset = 6) ∧ f0.type = 4 ∧ f1.type = 3 ∧ f2.type = 9 ∧ f3.type = 9 ∧ f4.type = 3 ∧ f5.type = 3 ∧ f6.type = 22 := ⟨_, _, _, _, _, _, _, Tryd.underlying24, ⟨rfl, rfl, rfl, rfl, rfl, rfl, rfl⟩, rfl, rfl, rfl, rfl, rfl, rfl, rfl⟩
theorem open_fields {H : Type} {enc : TypeId × Value → H} {w : World} {spare : Nat → Bool} {held : Bool} {fuel : Nat} {cs : List Value} {x : DataW H × List MemPlace} (h : DataW.trod enc Tryd.prog w 0 spare held fuel 22 cs = some x) :
    ∃ (a : Option Addr) (fs : List Fi) (cap : Nat), cs = [.slice a fs.length cap] ∧ FdIn w a fs ∧ fs.length ≤ maxLen ∧ ∀ y ∈ fs, y.2.length ≤ maxLen := by
  rcases Go.Deep.open_slice Tryd.underlying22 h with ⟨h0, _⟩ | ⟨b, l, c, m, n, D, Pl, h0, hb, hl, hm, hmm, _, hx⟩
  · exact ⟨none, [], 0, h0, (fun j hj => by simp at hj), Nat.zero_le _, fun y hy => by simp at hy⟩
  · have hlm : l ≤ m := by rw [hmm]; split <;> omega
    obtain ⟨f0, f1, he, o0, o1, q0, q1⟩ := fields45
    have each : ∀ i, i < l → ∃ q : Fi, (w.cell? (b.add (i * 2)) = some (.int .i64 q.1) ∧ w.cell? { block := (b.add (i * 2)).block, off := (b.add (i * 2)).off + 1 } = some (.string (bs q.2))) ∧ q.2.length ≤ maxLen := by
      intro i hi
      obtain ⟨cs', h1, h2⟩ := hx i (by omega)
      rw [cells45] at h1
      obtain ⟨_, hlen, hcell⟩ := World.cells?_some h1
      obtain ⟨xs, k, hk, hxy, hlen', hxl, hf⟩ := DataW.trod_struct he h2
      rw [cells45] at hlen'
      match xs, hxl, cs', hlen' with
      | [y0, y1], _, [v0, v1], _ =>
        have g0 := hf 0 f0 rfl
        have g1 := hf 1 f1 rfl
        simp [o0, o1, q0, q1, cells3, cells9] at g0 g1
        obtain ⟨id, e0, _, w0⟩ := DataW.trod_int Tryd.underlying3 g0
        obtain ⟨ad, e1, _, w1⟩ := DataW.trod_string Tryd.underlying9 g1
        simp at e0 e1
        subst e0; subst e1
        have c0 := hcell 0 (by omega)
        have c1 := hcell 1 (by omega)
        exact ⟨(id, ad.data.toList), ⟨by simpa [Addr.add] using c0, by rw [bs_of]; simpa [Addr.add] using c1⟩, w1⟩
    have : Inhabited Fi := ⟨(0, [])⟩
    obtain ⟨q, hq⟩ := Go.Deep.choose_lt each
    refine ⟨some b, (List.range l).map q, c, ?_, ?_, ?_, ?_⟩
    · rw [h0]; simp
    · intro j hj
      have hj' : j < l := by simpa using hj
      refine ⟨b, rfl, ?_⟩
      have := (hq j hj').1
      simpa using this
    · simp; omega
    · intro y hy
      obtain ⟨j, hj, rfl⟩ := List.mem_map.1 hy
      exact (hq j (List.mem_range.1 hj)).2
theorem open_stream {H : Type} {enc : TypeId × Value → H} {w : World} {base : Nat} {v : Value} {d : DataW H} {p : List MemPlace} (hv : Value.okWide Tryd.prog w .any base 24 v) (h : DataW.Trod enc Tryd.prog w 0 (fun _ => true) true 24 v d p) :
    ∃ (s : Stm) (a : Option Addr) (cap : Nat), v = s.val a cap ∧ FdIn w a s.fs ∧ s.fs.length ≤ maxLen ∧ s.src.length ≤ maxLen ∧ s.dst.length ≤ maxLen ∧ ∀ y ∈ s.fs, y.2.length ≤ maxLen := by
  obtain ⟨cs, rfl, hsz⟩ := okWide_struct Tryd.underlying24 hv
  obtain ⟨fuel, hf⟩ := h
  obtain ⟨f0, f1, f2, f3, f4, f5, f6, he, ⟨o0, o1, o2, o3, o4, o5, o6⟩, q0, q1, q2, q3, q4, q5, q6⟩ := fields24
  obtain ⟨xs, k, hk, hxy, hlen', hxl, hg⟩ := DataW.trod_struct he hf
  rw [cells24] at hlen'
  obtain ⟨l⟩ := cs
  simp only [Value.cells] at hlen' hg
  match xs, hxl, l, hlen' with
  | [y0, y1, y2, y3, y4, y5, y6], _, [v0, v1, v2, v3, v4, v5, v6], _ =>
    have g0 := hg 0 f0 rfl
    have g1 := hg 1 f1 rfl
    have g2 := hg 2 f2 rfl
    have g3 := hg 3 f3 rfl
    have g4 := hg 4 f4 rfl
    have g5 := hg 5 f5 rfl
    have g6 := hg 6 f6 rfl
    simp [o0, o1, o2, o3, o4, o5, o6, q0, q1, q2, q3, q4, q5, q6, cells3, cells9, cells4, cells22] at g0 g1 g2 g3 g4 g5 g6
    obtain ⟨r0, e0, _⟩ := DataW.trod_bool Tryd.underlying4 g0
    obtain ⟨r1, e1, _⟩ := DataW.trod_int Tryd.underlying3 g1
    obtain ⟨r2, e2, _, w2⟩ := DataW.trod_string Tryd.underlying9 g2
    obtain ⟨r3, e3, _, w3⟩ := DataW.trod_string Tryd.underlying9 g3
    obtain ⟨r4, e4, _⟩ := DataW.trod_int Tryd.underlying3 g4
    obtain ⟨r5, e5, _⟩ := DataW.trod_int Tryd.underlying3 g5
    obtain ⟨a, fs, cap, e6, h6, h7, h8⟩ := open_fields g6
    simp at e0 e1 e2 e3 e4 e5 e6
    subst e0 e1 e2 e3 e4 e5 e6
    exact ⟨⟨r0, r1, r2.data.toList, r3.data.toList, r4, r5, fs⟩, a, cap, by simp [Stm.val, bs_of], h6, h7, w2, w3, h8⟩
end Go.Proofs.YtfagkmmenfeppaaDoor
