import Derived.Test.YtmijfhfjhbckdaaPCfgP
import Derived.Deep.Slices
import Derived.ChangeArms
import Derived.OpenShut
import Derived.ProofKit
/- Acts, a configuration, a store that came in, opened. -/
namespace Go.Proofs.Ytmijfhfjhbckdaa
set_option maxRecDepth 100000
open Go.RowKit
open Go.ChangeShapes Go.WideShapes
theorem wf_inI {z : Int} (h : (Lit.int .i64 z).wf = true) : inI z := by
  have hmin : IntKind.i64.min = -9223372036854775808 := rfl
  have hmax : IntKind.i64.max = 9223372036854775807 := rfl
  simp only [Lit.wf, Bool.and_eq_true, decide_eq_true_eq] at h
  exact ⟨by omega, by omega⟩
theorem wf_u32 {z : Int} (h : (Lit.int .u32 z).wf = true) : ∃ n : Nat, z = n ∧ n < 4294967296 := by
  have hmin : IntKind.u32.min = 0 := rfl
  have hmax : IntKind.u32.max = 4294967295 := rfl
  simp only [Lit.wf, Bool.and_eq_true, decide_eq_true_eq] at h
  exact ⟨z.toNat, by omega, by omega⟩
theorem cells3 : Try.prog.cellsOf 3 = 1 := by kernel_rfl
theorem cells4 : Try.prog.cellsOf 4 = 1 := by kernel_rfl
theorem cells9 : Try.prog.cellsOf 9 = 1 := by kernel_rfl
theorem cells23 : Try.prog.cellsOf 23 = 1 := by kernel_rfl
theorem cells43 : Try.prog.cellsOf 43 = 1 := by kernel_rfl
theorem cells25 : Try.prog.cellsOf 25 = 7 := by kernel_rfl
theorem cells45 : Try.prog.cellsOf 45 = 3 := by kernel_rfl
theorem cells47 : Try.prog.cellsOf 47 = 14 := by kernel_rfl
theorem cells27 : Try.prog.cellsOf 27 = 9 := by kernel_rfl
theorem cells29 : Try.prog.cellsOf 29 = 3 := by kernel_rfl
theorem fs25 : ∃ f0 f1 f2 f3 f4 f5 f6, Try.prog.underlying 25 = some (.struct #[f0, f1, f2, f3, f4, f5, f6]) ∧ (f0.offset = 0 ∧ f1.offset = 1 ∧ f2.offset = 2 ∧ f3.offset = 3 ∧ f4.offset = 4 ∧ f5.offset = 5 ∧ f6.offset = 6) ∧ f0.type = 3 ∧ f1.type = 4 ∧ f2.type = 4 ∧ f3.type = 23 ∧ f4.type = 4 ∧ f5.type = 3 ∧ f6.type = 3 :=
  ⟨_, _, _, _, _, _, _, Try.underlying25, ⟨rfl, rfl, rfl, rfl, rfl, rfl, rfl⟩, rfl, rfl, rfl, rfl, rfl, rfl, rfl⟩
theorem fs45 : ∃ f0 f1 f2, Try.prog.underlying 45 = some (.struct #[f0, f1, f2]) ∧ (f0.offset = 0 ∧ f1.offset = 1 ∧ f2.offset = 2) ∧ f0.type = 3 ∧ f1.type = 9 ∧ f2.type = 43 := ⟨_, _, _, Try.underlying45, ⟨rfl, rfl, rfl⟩, rfl, rfl, rfl⟩
theorem fs47 : ∃ f0 f1 f2 f3 f4 f5, Try.prog.underlying 47 = some (.struct #[f0, f1, f2, f3, f4, f5]) ∧ (f0.offset = 0 ∧ f1.offset = 1 ∧ f2.offset = 2 ∧ f3.offset = 5 ∧ f4.offset = 12 ∧ f5.offset = 13) ∧ f0.type = 3 ∧ f1.type = 9 ∧ f2.type = 45 ∧ f3.type = 25 ∧ f4.type = 3 ∧ f5.type = 3 :=
  ⟨_, _, _, _, _, _, Try.underlying47, ⟨rfl, rfl, rfl, rfl, rfl, rfl⟩, rfl, rfl, rfl, rfl, rfl, rfl⟩
theorem fs27 : ∃ f0 f1 f2, Try.prog.underlying 27 = some (.struct #[f0, f1, f2]) ∧ (f0.offset = 0 ∧ f1.offset = 1 ∧ f2.offset = 8) ∧ f0.type = 9 ∧ f1.type = 25 ∧ f2.type = 3 := ⟨_, _, _, Try.underlying27, ⟨rfl, rfl, rfl⟩, rfl, rfl, rfl⟩
theorem fs29 : ∃ f0 f1 f2, Try.prog.underlying 29 = some (.struct #[f0, f1, f2]) ∧ (f0.offset = 0 ∧ f1.offset = 1 ∧ f2.offset = 2) ∧ f0.type = 3 ∧ f1.type = 3 ∧ f2.type = 3 := ⟨_, _, _, Try.underlying29, ⟨rfl, rfl, rfl⟩, rfl, rfl, rfl⟩
section
variable {H : Type} {enc : TypeId × Value → H} {w : World} {base : Nat} {spare : Nat → Bool} {held : Bool} {fuel : Nat} {x : DataW H × List MemPlace}
theorem float_cell {P : Program} {t : TypeId} {k : FloatKind} {cs : List Value} (ht : P.underlying t = some (.float k)) (h : DataW.trod enc P w base spare held fuel t cs = some x) : ∃ b, cs = [.float k b] ∧ (Lit.float k b).wf = true := by
  cases fuel with
  | zero => simp [DataW.trod] at h
  | succ n =>
    unfold DataW.trod at h
    rw [ht] at h
    split at h <;> simp_all
theorem tun_cells {cs : List Value} (h : DataW.trod enc Try.prog w base spare held fuel 25 cs = some x) :
    ∃ (md : Int) (sm ky : Bool) (va : Nat) (df : Bool) (tl ts : Int), cs = [.int .i64 md, .bool sm, .bool ky, .int .u32 (va : Nat), .bool df, .int .i64 tl, .int .i64 ts] ∧ inI md ∧ va < 4294967296 ∧ inI tl ∧ inI ts := by
  obtain ⟨f0, f1, f2, f3, f4, f5, f6, he, ⟨o0, o1, o2, o3, o4, o5, o6⟩, q0, q1, q2, q3, q4, q5, q6⟩ := fs25
  obtain ⟨xs, k, hk, hxy, hlen, hxl, hg⟩ := DataW.trod_struct he h
  rw [cells25] at hlen
  match xs, hxl, cs, hlen with
  | [y0, y1, y2, y3, y4, y5, y6], _, [v0, v1, v2, v3, v4, v5, v6], _ =>
    have g0 := hg 0 f0 rfl
    have g1 := hg 1 f1 rfl
    have g2 := hg 2 f2 rfl
    have g3 := hg 3 f3 rfl
    have g4 := hg 4 f4 rfl
    have g5 := hg 5 f5 rfl
    have g6 := hg 6 f6 rfl
    simp [o0, o1, o2, o3, o4, o5, o6, q0, q1, q2, q3, q4, q5, q6, cells3, cells4, cells23] at g0 g1 g2 g3 g4 g5 g6
    obtain ⟨r0, e0, _, w0⟩ := DataW.trod_int Try.underlying3 g0
    obtain ⟨r1, e1, _⟩ := DataW.trod_bool Try.underlying4 g1
    obtain ⟨r2, e2, _⟩ := DataW.trod_bool Try.underlying4 g2
    obtain ⟨r3, e3, _, w3⟩ := DataW.trod_int Try.underlying23 g3
    obtain ⟨r4, e4, _⟩ := DataW.trod_bool Try.underlying4 g4
    obtain ⟨r5, e5, _, w5⟩ := DataW.trod_int Try.underlying3 g5
    obtain ⟨r6, e6, _, w6⟩ := DataW.trod_int Try.underlying3 g6
    simp at e0 e1 e2 e3 e4 e5 e6
    subst e0 e1 e2 e3 e4 e5 e6
    obtain ⟨n, rfl, hn⟩ := wf_u32 w3
    exact ⟨r0, r1, r2, n, r4, r5, r6, rfl, wf_inI w0, hn, wf_inI w5, wf_inI w6⟩
theorem bk_cells {cs : List Value} (h : DataW.trod enc Try.prog w base spare held fuel 45 cs = some x) :
    ∃ (id : Int) (ad : ByteArray) (wt : Nat), cs = [.int .i64 id, .string ad, .float .f64 wt] ∧ wt < 18446744073709551616 := by
  obtain ⟨f0, f1, f2, he, ⟨o0, o1, o2⟩, q0, q1, q2⟩ := fs45
  obtain ⟨xs, k, hk, hxy, hlen, hxl, hg⟩ := DataW.trod_struct he h
  rw [cells45] at hlen
  match xs, hxl, cs, hlen with
  | [y0, y1, y2], _, [v0, v1, v2], _ =>
    have g0 := hg 0 f0 rfl
    have g1 := hg 1 f1 rfl
    have g2 := hg 2 f2 rfl
    simp [o0, o1, o2, q0, q1, q2, cells3, cells9, cells43] at g0 g1 g2
    obtain ⟨r0, e0, _, w0⟩ := DataW.trod_int Try.underlying3 g0
    obtain ⟨r1, e1, _, w1⟩ := DataW.trod_string Try.underlying9 g1
    obtain ⟨r2, e2, w2⟩ := float_cell Try.underlying43 g2
    simp at e0 e1 e2
    subst e0 e1 e2
    refine ⟨r0, r1, r2, rfl, ?_⟩
    simpa [Lit.wf] using w2
/-- what an act that came in bears -/
structure ActL.came (a : ActL) : Prop where
  wt : a.wt < 18446744073709551616
  va : a.va < 4294967296
  md : inI a.md
  tl : inI a.tl
  ts : inI a.ts
theorem act_cells {cs : List Value} (h : DataW.trod enc Try.prog w base spare held fuel 47 cs = some x) : ∃ a : ActL, cs = a.C.toList ∧ a.came := by
  obtain ⟨f0, f1, f2, f3, f4, f5, he, ⟨o0, o1, o2, o3, o4, o5⟩, q0, q1, q2, q3, q4, q5⟩ := fs47
  obtain ⟨xs, k, hk, hxy, hlen, hxl, hg⟩ := DataW.trod_struct he h
  rw [cells47] at hlen
  match xs, hxl, cs, hlen with
  | [y0, y1, y2, y3, y4, y5], _, [v0, v1, v2, v3, v4, v5, v6, v7, v8, v9, v10, v11, v12, v13], _ =>
    have g0 := hg 0 f0 rfl
    have g1 := hg 1 f1 rfl
    have g2 := hg 2 f2 rfl
    have g3 := hg 3 f3 rfl
    have g4 := hg 4 f4 rfl
    have g5 := hg 5 f5 rfl
    simp [o0, o1, o2, o3, o4, o5, q0, q1, q2, q3, q4, q5, cells3, cells9, cells45, cells25] at g0 g1 g2 g3 g4 g5
    obtain ⟨r0, e0, _, w0⟩ := DataW.trod_int Try.underlying3 g0
    obtain ⟨r1, e1, _, w1⟩ := DataW.trod_string Try.underlying9 g1
    obtain ⟨id, ad, wt, e2, w2⟩ := bk_cells g2
    obtain ⟨md, sm, ky, va, df, tl, ts, e3, i1, i2, i3, i4⟩ := tun_cells g3
    obtain ⟨r4, e4, _, w4⟩ := DataW.trod_int Try.underlying3 g4
    obtain ⟨r5, e5, _, w5⟩ := DataW.trod_int Try.underlying3 g5
    simp at e0 e1 e2 e3 e4 e5
    obtain ⟨rfl, rfl, rfl⟩ := e2
    obtain ⟨rfl, rfl, rfl, rfl, rfl, rfl, rfl⟩ := e3
    subst e0 e1 e4 e5
    exact ⟨⟨r0, r1, id, ad, wt, md, sm, ky, va, df, tl, ts, r4, r5⟩, rfl, ⟨w2, i2, i1, i3, i4⟩⟩
theorem cfg_cells {cs : List Value} (h : DataW.trod enc Try.prog w base spare held fuel 27 cs = some x) :
    ∃ (y0 : ByteArray) (md : Int) (sm ky : Bool) (va : Nat) (df : Bool) (tl ts mt : Int), cs = [.string y0, .int .i64 md, .bool sm, .bool ky, .int .u32 (va : Nat), .bool df, .int .i64 tl, .int .i64 ts, .int .i64 mt] ∧ inI md ∧ va < 4294967296 ∧ inI tl ∧ inI ts := by
  obtain ⟨f0, f1, f2, he, ⟨o0, o1, o2⟩, q0, q1, q2⟩ := fs27
  obtain ⟨xs, k, hk, hxy, hlen, hxl, hg⟩ := DataW.trod_struct he h
  rw [cells27] at hlen
  match xs, hxl, cs, hlen with
  | [y0, y1, y2], _, [v0, v1, v2, v3, v4, v5, v6, v7, v8], _ =>
    have g0 := hg 0 f0 rfl
    have g1 := hg 1 f1 rfl
    have g2 := hg 2 f2 rfl
    simp [o0, o1, o2, q0, q1, q2, cells3, cells9, cells25] at g0 g1 g2
    obtain ⟨r0, e0, _, w0⟩ := DataW.trod_string Try.underlying9 g0
    obtain ⟨md, sm, ky, va, df, tl, ts, e1, i1, i2, i3, i4⟩ := tun_cells g1
    obtain ⟨r2, e2, _, w2⟩ := DataW.trod_int Try.underlying3 g2
    simp at e0 e1 e2
    obtain ⟨rfl, rfl, rfl, rfl, rfl, rfl, rfl⟩ := e1
    subst e0 e2
    exact ⟨r0, md, sm, ky, va, df, tl, ts, r2, rfl, i1, i2, i3, i4⟩
theorem sto_cells {cs : List Value} (h : DataW.trod enc Try.prog w base spare held fuel 29 cs = some x) :
    ∃ (z0 z1 z2 : Int), cs = [.int .i64 z0, .int .i64 z1, .int .i64 z2] ∧ inI z0 ∧ inI z1 ∧ inI z2 := by
  obtain ⟨f0, f1, f2, he, ⟨o0, o1, o2⟩, q0, q1, q2⟩ := fs29
  obtain ⟨xs, k, hk, hxy, hlen, hxl, hg⟩ := DataW.trod_struct he h
  rw [cells29] at hlen
  match xs, hxl, cs, hlen with
  | [y0, y1, y2], _, [v0, v1, v2], _ =>
    have g0 := hg 0 f0 rfl
    have g1 := hg 1 f1 rfl
    have g2 := hg 2 f2 rfl
    simp [o0, o1, o2, q0, q1, q2, cells3] at g0 g1 g2
    obtain ⟨r0, e0, _, w0⟩ := DataW.trod_int Try.underlying3 g0
    obtain ⟨r1, e1, _, w1⟩ := DataW.trod_int Try.underlying3 g1
    obtain ⟨r2, e2, _, w2⟩ := DataW.trod_int Try.underlying3 g2
    simp at e0 e1 e2
    subst e0 e1 e2
    exact ⟨r0, r1, r2, rfl, wf_inI w0, wf_inI w1, wf_inI w2⟩
end
theorem spot_none {w : World} {x : Addr} {u : Value} (h : w.cell? x = some u) : x.spot = none := by
  unfold World.cell? at h
  split at h
  · split at h
    · cases h
    · rename_i hs
      simpa using hs
  · cases h
/-- acts that lie behind one another -/
def ActIn (w : World) (a : Option Addr) (l : List ActL) : Prop :=
  ∀ j (hj : j < l.length), ∃ x, a = some x ∧ w.cell? (x.add (j * 14)) = some (.int .i64 l[j].k) ∧ ∀ i v, (l[j].C)[i]? = some v → w.cell? { block := (x.add (j * 14)).block, off := (x.add (j * 14)).off + i } = some v
theorem cell_same {w w' : World} {a : Addr} (h : w'.heap[a.block]? = w.heap[a.block]?) : w'.cell? a = w.cell? a := by
  unfold World.cell?
  rw [h]
theorem cell_block {w : World} {a : Addr} {v : Value} (h : w.cell? a = some v) : a.block < w.heap.size := by
  unfold World.cell? at h
  rcases Nat.lt_or_ge a.block w.heap.size with h' | h'
  · exact h'
  · rw [Array.getElem?_eq_none h'] at h; simp at h
theorem ActIn.below {w w' : World} {a : Option Addr} {l : List ActL} (h : ActIn w a l) (hb : Below w.heap.size w w') : ActIn w' a l := fun j hj => by
  obtain ⟨x, hx, h0, h1⟩ := h j hj
  refine ⟨x, hx, (cell_same (hb.block _ (cell_block h0))).trans h0, fun i v hv => ?_⟩
  have := h1 i v hv
  exact (cell_same (hb.block _ (cell_block this))).trans this
theorem open_acts {H : Type} {enc : TypeId × Value → H} {w : World} {spare : Nat → Bool} {held : Bool} {fuel : Nat} {a : Option Addr} {len cap : Nat} {x : DataW H × List MemPlace} (h : DataW.trod enc Try.prog w 0 spare held fuel 41 [.slice a len cap] = some x) :
    ∃ l : List ActL, l.length = len ∧ ActIn w a l ∧ ∀ y ∈ l, y.came := by
  rcases Go.Deep.open_slice Try.underlying41 h with ⟨h0, _⟩ | ⟨b, l, c, m, n, D, Pl, h0, hb, hl, hm, hmm, _, hx⟩
  · simp at h0
    obtain ⟨rfl, rfl, rfl⟩ := h0
    exact ⟨[], rfl, fun j hj => by simp at hj, fun b hb => by simp at hb⟩
  · simp at h0
    obtain ⟨rfl, rfl, rfl⟩ := h0
    have hlm : len ≤ m := by rw [hmm]; split <;> omega
    have each : ∀ i, i < len → ∃ q : ActL, (w.cell? (b.add (i * 14)) = some (.int .i64 q.k) ∧ ∀ j v, (q.C)[j]? = some v → w.cell? { block := (b.add (i * 14)).block, off := (b.add (i * 14)).off + j } = some v) ∧ q.came := by
      intro i hi
      obtain ⟨cs', h1, h2⟩ := hx i (by omega)
      rw [cells47] at h1
      obtain ⟨_, hlen, hcell⟩ := World.cells?_some h1
      obtain ⟨q, rfl, hq⟩ := act_cells h2
      refine ⟨q, ⟨by have e := hcell 0 (by omega); simpa [Addr.add, ActL.C] using e, fun j v hv => ?_⟩, hq⟩
      have hj : j < 14 := by
        have := (Array.getElem?_eq_some_iff.1 hv).1
        simpa [ActL.C] using this
      have e := hcell j hj
      have e2 : q.C.toList[j]? = some v := by simpa using hv
      rw [e2] at e
      generalize b.add (i * 14) = X at e ⊢
      obtain ⟨bb, oo, ss⟩ := X
      unfold Addr.add at e
      by_cases h0 : j = 0
      · rw [if_pos h0] at e
        have hs := spot_none e
        simp only at hs
        subst hs h0
        exact e
      · rw [if_neg h0] at e
        exact e
    have : Inhabited ActL := ⟨⟨0, ByteArray.empty, 0, ByteArray.empty, 0, 0, false, false, 0, false, 0, 0, 0, 0⟩⟩
    obtain ⟨q, hq⟩ := Go.Deep.choose_lt each
    refine ⟨(List.range len).map q, by simp, ?_, ?_⟩
    · intro j hj
      have hj' : j < len := by simpa using hj
      refine ⟨b, rfl, ?_⟩
      have := (hq j hj').1
      simpa using this
    · intro y hy
      obtain ⟨j, hj, rfl⟩ := List.mem_map.1 hy
      exact (hq j (List.mem_range.1 hj)).2
end Go.Proofs.Ytmijfhfjhbckdaa
