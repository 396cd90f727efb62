import Derived.Test.YtgonagkhnkhcnaaPoolDo
import Derived.Deep.Slices
import Derived.ChangeArms
/- A slice of acts that came in, opened. -/
namespace Go.Proofs.Ytgonagkhnkhcnaa
set_option maxRecDepth 100000
open Go.RowKit
open Go.ChangeShapes Go.WideShapes
section
variable {H : Type} {enc : TypeId × Value → H} {P : Program} {w : World} {base : Nat} {spare : Nat → Bool} {held : Bool}
theorem float_cell {t : TypeId} {k : FloatKind} {fuel : Nat} {cs : List Value} {x : DataW H × List MemPlace} (ht : P.underlying t = some (.float k)) (h : DataW.trod enc P w base spare held fuel t cs = some x) : ∃ b, cs = [.float k b] ∧ (Lit.float k b).wf = true := by
  cases fuel with
  | zero => simp [DataW.trod] at h
  | succ n =>
    unfold DataW.trod at h
    rw [ht] at h
    split at h <;> simp_all
/-- one backend's three cells -/
theorem bk_cells {t : TypeId} {f0 f1 f2 : Field} {fuel : Nat} {cs : List Value} {x : DataW H × List MemPlace} (he : P.underlying t = some (.struct #[f0, f1, f2])) (ce : P.cellsOf t = 3) (o0 : f0.offset = 0) (o1 : f1.offset = 1) (o2 : f2.offset = 2)
    (t0 : P.underlying f0.type = some (.int .i64)) (t1 : P.underlying f1.type = some .string) (t2 : P.underlying f2.type = some (.float .f64)) (c0 : P.cellsOf f0.type = 1) (c1 : P.cellsOf f1.type = 1) (c2 : P.cellsOf f2.type = 1)
    (h : DataW.trod enc P w base spare held fuel t cs = some x) : ∃ (id : Int) (ad : ByteArray) (wt : Nat), cs = [.int .i64 id, .string ad, .float .f64 wt] ∧ (Lit.int .i64 id).wf = true ∧ ad.size ≤ maxLen ∧ wt < 2 ^ 64 := by
  obtain ⟨xs, k, hk, hxy, hlen, hxl, hf⟩ := DataW.trod_struct he h
  rw [ce] at hlen
  match xs, hxl, cs, hlen with
  | [y0, y1, y2], _, [v0, v1, v2], _ =>
    have g0 := hf 0 f0 rfl
    have g1 := hf 1 f1 rfl
    have g2 := hf 2 f2 rfl
    simp [o0, o1, o2, c0, c1, c2] at g0 g1 g2
    obtain ⟨id, e0, _, w0⟩ := DataW.trod_int t0 g0
    obtain ⟨ad, e1, _, w1⟩ := DataW.trod_string t1 g1
    obtain ⟨wt, e2, w2⟩ := float_cell t2 g2
    simp at e0 e1 e2
    refine ⟨id, ad, wt, by rw [e0, e1, e2], w0, w1, ?_⟩
    simpa [Lit.wf] using w2
/-- one act's four cells -/
theorem ac_cells {t : TypeId} {f0 f1 g0 g1 g2 : Field} {fuel : Nat} {cs : List Value} {x : DataW H × List MemPlace} (he : P.underlying t = some (.struct #[f0, f1])) (ce : P.cellsOf t = 4) (o0 : f0.offset = 0) (o1 : f1.offset = 1)
    (t0 : P.underlying f0.type = some .bool) (c0 : P.cellsOf f0.type = 1) (c1 : P.cellsOf f1.type = 3)
    (hb : P.underlying f1.type = some (.struct #[g0, g1, g2])) (p0 : g0.offset = 0) (p1 : g1.offset = 1) (p2 : g2.offset = 2)
    (s0 : P.underlying g0.type = some (.int .i64)) (s1 : P.underlying g1.type = some .string) (s2 : P.underlying g2.type = some (.float .f64)) (d0 : P.cellsOf g0.type = 1) (d1 : P.cellsOf g1.type = 1) (d2 : P.cellsOf g2.type = 1)
    (h : DataW.trod enc P w base spare held fuel t cs = some x) : ∃ (r : Bool) (id : Int) (ad : ByteArray) (wt : Nat), cs = [.bool r, .int .i64 id, .string ad, .float .f64 wt] ∧ (Lit.int .i64 id).wf = true ∧ ad.size ≤ maxLen ∧ wt < 2 ^ 64 := by
  obtain ⟨xs, k, hk, hxy, hlen, hxl, hf⟩ := DataW.trod_struct he h
  rw [ce] at hlen
  match xs, hxl, cs, hlen with
  | [y0, y1], _, [v0, v1, v2, v3], _ =>
    have e0 := hf 0 f0 rfl
    have e1 := hf 1 f1 rfl
    simp [o0, o1, c0, c1] at e0 e1
    obtain ⟨r, q0, _⟩ := DataW.trod_bool t0 e0
    obtain ⟨id, ad, wt, q1, w0, w1, w2⟩ := bk_cells hb c1 p0 p1 p2 s0 s1 s2 d0 d1 d2 e1
    simp at q0 q1
    obtain ⟨rfl, rfl, rfl⟩ := q1
    exact ⟨r, id, ad, wt, by rw [q0], w0, w1, w2⟩
end
theorem fields34 : ∃ f0 f1, Try.prog.underlying 34 = some (.struct #[f0, f1]) ∧ f0.offset = 0 ∧ f1.offset = 1 ∧ f0.type = 4 ∧ f1.type = 32 := ⟨_, _, Try.underlying34, rfl, rfl, rfl, rfl⟩
theorem fields32' : ∃ f0 f1 f2, Try.prog.underlying 32 = some (.struct #[f0, f1, f2]) ∧ f0.offset = 0 ∧ f1.offset = 1 ∧ f2.offset = 2 ∧ f0.type = 3 ∧ f1.type = 9 ∧ f2.type = 30 := ⟨_, _, _, Try.underlying32, rfl, rfl, rfl, rfl, rfl, rfl⟩
theorem cells34 : Try.prog.cellsOf 34 = 4 := by kernel_rfl
theorem cells32 : Try.prog.cellsOf 32 = 3 := by kernel_rfl
theorem cells3 : Try.prog.cellsOf 3 = 1 := by kernel_rfl
theorem cells4 : Try.prog.cellsOf 4 = 1 := by kernel_rfl
theorem cells9 : Try.prog.cellsOf 9 = 1 := by kernel_rfl
theorem cells30 : Try.prog.cellsOf 30 = 1 := by kernel_rfl
/-- the acts that came in -/
theorem open_acts {H : Type} {enc : TypeId × Value → H} {w : World} {spare : Nat → Bool} {held : Bool} {fuel : Nat} {a : Option Addr} {len cap : Nat} {x : DataW H × List MemPlace} (h : DataW.trod enc Try.prog w 0 spare held fuel 22 [.slice a len cap] = some x) :
    (∃ cs : List Ac, cs.length = len ∧ ActIn w a cs ∧ ActOk cs) := by
  rcases Go.Deep.open_slice Try.underlying22 h with ⟨h0, _⟩ | ⟨b, l, c, m, n, D, Pl, h0, hb, hl, hm, hmm, _, hx⟩
  · simp at h0
    obtain ⟨rfl, rfl, rfl⟩ := h0
    exact ⟨[], rfl, fun j hj => by simp at hj, fun b hb => by simp at hb⟩
  · simp at h0
    obtain ⟨rfl, rfl, rfl⟩ := h0
    have hlm : len ≤ m := by rw [hmm]; split <;> omega
    obtain ⟨f0, f1, he, o0, o1, q0, q1⟩ := fields34
    obtain ⟨g0, g1, g2, hb2, p0, p1, p2, r0, r1, r2⟩ := fields32'
    have each : ∀ i, i < len → ∃ q : Ac, (w.cell? (b.add (i * 4)) = some (.bool q.rem) ∧ w.cell? { block := (b.add (i * 4)).block, off := (b.add (i * 4)).off + 1 } = some (.int .i64 q.b.id) ∧ w.cell? { block := (b.add (i * 4)).block, off := (b.add (i * 4)).off + 2 } = some (.string q.b.addr) ∧ w.cell? { block := (b.add (i * 4)).block, off := (b.add (i * 4)).off + 3 } = some (.float .f64 q.b.wt)) ∧ q.b.wt < W64 ∧ q.b.addr.size ≤ maxLen ∧ (Lit.int .i64 q.b.id).wf = true := by
      intro i hi
      obtain ⟨cs', h1, h2⟩ := hx i (by omega)
      rw [cells34] at h1
      obtain ⟨_, hlen, hcell⟩ := World.cells?_some h1
      obtain ⟨rm, id, ad, wt, rfl, w0, w1, w2⟩ := ac_cells he cells34 o0 o1 (by rw [q0]; exact Try.underlying4) (by rw [q0]; exact cells4) (by rw [q1]; exact cells32) (by rw [q1]; exact hb2) p0 p1 p2 (by rw [r0]; exact Try.underlying3) (by rw [r1]; exact Try.underlying9) (by rw [r2]; exact Try.underlying30) (by rw [r0]; exact cells3) (by rw [r1]; exact cells9) (by rw [r2]; exact cells30) h2
      have e0 := hcell 0 (by omega)
      have e1 := hcell 1 (by omega)
      have e2 := hcell 2 (by omega)
      have e3 := hcell 3 (by omega)
      exact ⟨⟨rm, ⟨id, ad, wt⟩⟩, ⟨by simpa [Addr.add] using e0, by simpa [Addr.add] using e1, by simpa [Addr.add] using e2, by simpa [Addr.add] using e3⟩, by unfold W64; omega, w1, w0⟩
    have : Inhabited Ac := ⟨⟨false, ⟨0, ByteArray.empty, 0⟩⟩⟩
    obtain ⟨q, hq⟩ := Go.Deep.choose_lt each
    refine ⟨(List.range len).map q, by simp, ?_, ?_⟩
    · intro j hj
      have hj' : j < len := by simpa using hj
      refine ⟨b, rfl, ?_⟩
      have := (hq j hj').1
      simpa using this
    · intro y hy
      obtain ⟨j, hj, rfl⟩ := List.mem_map.1 hy
      exact (hq j (List.mem_range.1 hj)).2
end Go.Proofs.Ytgonagkhnkhcnaa
