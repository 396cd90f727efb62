import Derived.Test.YtmeemajlcnpkeaaRingDef
import Derived.Deep.Slices
import Derived.ChangeArms
/- A slice of backends that came in, opened. -/
namespace Go.Proofs.Ytmeemajlcnpkeaa
open Go.RowKit
open Go.ChangeShapes Go.WideShapes
section
variable {H : Type} {enc : TypeId × Value → H} {P : Program} {w : World} {base : Nat} {spare : Nat → Bool} {held : Bool}
theorem float_cell {t : TypeId} {k : FloatKind} {fuel : Nat} {cs : List Value} {x : DataW H × List MemPlace} (ht : P.underlying t = some (.float k)) (h : DataW.trod enc P w base spare held fuel t cs = some x) : ∃ b, cs = [.float k b] ∧ (Lit.float k b).wf = true := by
  cases fuel with
  | zero => simp [DataW.trod] at h
  | succ n =>
    unfold DataW.trod at h
    rw [ht] at h
    split at h <;> simp_all
/-- one backend's three cells -/
theorem bk_cells {t : TypeId} {f0 f1 f2 : Field} {fuel : Nat} {cs : List Value} {x : DataW H × List MemPlace} (he : P.underlying t = some (.struct #[f0, f1, f2])) (ce : P.cellsOf t = 3) (o0 : f0.offset = 0) (o1 : f1.offset = 1) (o2 : f2.offset = 2)
    (t0 : P.underlying f0.type = some (.int .i64)) (t1 : P.underlying f1.type = some .string) (t2 : P.underlying f2.type = some (.float .f64)) (c0 : P.cellsOf f0.type = 1) (c1 : P.cellsOf f1.type = 1) (c2 : P.cellsOf f2.type = 1)
    (h : DataW.trod enc P w base spare held fuel t cs = some x) : ∃ (id : Int) (ad : ByteArray) (wt : Nat), cs = [.int .i64 id, .string ad, .float .f64 wt] ∧ (Lit.int .i64 id).wf = true ∧ ad.size ≤ maxLen ∧ wt < 2 ^ 64 := by
  obtain ⟨xs, k, hk, hxy, hlen, hxl, hf⟩ := DataW.trod_struct he h
  rw [ce] at hlen
  match xs, hxl, cs, hlen with
  | [y0, y1, y2], _, [v0, v1, v2], _ =>
    have g0 := hf 0 f0 rfl
    have g1 := hf 1 f1 rfl
    have g2 := hf 2 f2 rfl
    simp [o0, o1, o2, c0, c1, c2] at g0 g1 g2
    obtain ⟨id, e0, _, w0⟩ := DataW.trod_int t0 g0
    obtain ⟨ad, e1, _, w1⟩ := DataW.trod_string t1 g1
    obtain ⟨wt, e2, w2⟩ := float_cell t2 g2
    simp at e0 e1 e2
    refine ⟨id, ad, wt, by rw [e0, e1, e2], w0, w1, ?_⟩
    simpa [Lit.wf] using w2
end
theorem fields30 : ∃ f0 f1 f2, Try.prog.underlying 30 = some (.struct #[f0, f1, f2]) ∧ f0.offset = 0 ∧ f1.offset = 1 ∧ f2.offset = 2 ∧ f0.type = 3 ∧ f1.type = 9 ∧ f2.type = 28 := ⟨_, _, _, Try.underlying30, rfl, rfl, rfl, rfl, rfl, rfl⟩
theorem cells30 : Try.prog.cellsOf 30 = 3 := by kernel_rfl
theorem cells3 : Try.prog.cellsOf 3 = 1 := by kernel_rfl
theorem cells9 : Try.prog.cellsOf 9 = 1 := by kernel_rfl
theorem cells28 : Try.prog.cellsOf 28 = 1 := by kernel_rfl
/-- the backends that came in -/
theorem open_bks {H : Type} {enc : TypeId × Value → H} {w : World} {spare : Nat → Bool} {held : Bool} {fuel : Nat} {a : Option Addr} {len cap : Nat} {x : DataW H × List MemPlace} (h : DataW.trod enc Try.prog w 0 spare held fuel 22 [.slice a len cap] = some x) :
    (∃ bs : List Bk, bs.length = len ∧ BkIn w a bs ∧ BkOk bs) ∧ len ≤ cap ∧ cap ≤ maxLen ∧ (a = none → len = 0 ∧ cap = 0) := by
  rcases Go.Deep.open_slice Try.underlying22 h with ⟨h0, _⟩ | ⟨b, l, c, m, n, D, Pl, h0, hb, hl, hm, hmm, _, hx⟩
  · simp at h0
    obtain ⟨rfl, rfl, rfl⟩ := h0
    exact ⟨⟨[], rfl, fun j hj => by simp at hj, fun b hb => by simp at hb⟩, Nat.le_refl _, Nat.zero_le _, fun _ => ⟨rfl, rfl⟩⟩
  · simp at h0
    obtain ⟨rfl, rfl, rfl⟩ := h0
    have hlm : len ≤ m := by rw [hmm]; split <;> omega
    obtain ⟨f0, f1, f2, he, o0, o1, o2, q0, q1, q2⟩ := fields30
    have each : ∀ i, i < len → ∃ q : Bk, (w.cell? (b.add (i * 3)) = some (.int .i64 q.id) ∧ w.cell? { block := (b.add (i * 3)).block, off := (b.add (i * 3)).off + 1 } = some (.string q.addr) ∧ w.cell? { block := (b.add (i * 3)).block, off := (b.add (i * 3)).off + 2 } = some (.float .f64 q.wt)) ∧ q.wt < W64 ∧ q.addr.size ≤ maxLen ∧ (Lit.int .i64 q.id).wf = true := by
      intro i hi
      obtain ⟨cs', h1, h2⟩ := hx i (by omega)
      rw [cells30] at h1
      obtain ⟨_, hlen, hcell⟩ := World.cells?_some h1
      obtain ⟨id, ad, wt, rfl, w0, w1, w2⟩ := bk_cells he cells30 o0 o1 o2 (by rw [q0]; exact Try.underlying3) (by rw [q1]; exact Try.underlying9) (by rw [q2]; exact Try.underlying28) (by rw [q0]; exact cells3) (by rw [q1]; exact cells9) (by rw [q2]; exact cells28) h2
      have e0 := hcell 0 (by omega)
      have e1 := hcell 1 (by omega)
      have e2 := hcell 2 (by omega)
      exact ⟨⟨id, ad, wt⟩, ⟨by simpa [Addr.add] using e0, by simpa [Addr.add] using e1, by simpa [Addr.add] using e2⟩, by unfold W64; omega, w1, w0⟩
    have : Inhabited Bk := ⟨⟨0, ByteArray.empty, 0⟩⟩
    obtain ⟨q, hq⟩ := Go.Deep.choose_lt each
    refine ⟨⟨(List.range len).map q, by simp, ?_, ?_⟩, hl, hm, fun h => by cases h⟩
    · intro j hj
      have hj' : j < len := by simpa using hj
      refine ⟨b, rfl, ?_⟩
      have := (hq j hj').1
      simpa using this
    · intro y hy
      obtain ⟨j, hj, rfl⟩ := List.mem_map.1 hy
      exact (hq j (List.mem_range.1 hj)).2
end Go.Proofs.Ytmeemajlcnpkeaa
