import Derived.Test.YtmijfhfjhbckdaaCfgS
/- Replies that came in; their bytes. -/
namespace Go.Proofs.Ytmijfhfjhbckdaa
set_option maxRecDepth 100000
open Go.RowKit
open Go.ChangeShapes Go.WideShapes
structure RepL where
  e : Int
  n : Int
  cs : List Int
  ca : Option Addr
  cc : Nat
  os : List ByteArray
  oa : Option Addr
  oc : Nat
def IntIn (w : World) (a : Option Addr) (l : List Int) : Prop := ∀ j (hj : j < l.length), ∃ x, a = some x ∧ w.cell? (x.add j) = some (.int .i64 l[j])
def StrIn (w : World) (a : Option Addr) (l : List ByteArray) : Prop := ∀ j (hj : j < l.length), ∃ x, a = some x ∧ w.cell? (x.add j) = some (.string l[j])
theorem IntIn.below {w w' : World} {a : Option Addr} {l : List Int} (h : IntIn w a l) (hb : Below w.heap.size w w') : IntIn w' a l := fun j hj => by
  obtain ⟨x, hx, h0⟩ := h j hj
  exact ⟨x, hx, (cell_same (hb.block _ (cell_block h0))).trans h0⟩
theorem StrIn.below {w w' : World} {a : Option Addr} {l : List ByteArray} (h : StrIn w a l) (hb : Below w.heap.size w w') : StrIn w' a l := fun j hj => by
  obtain ⟨x, hx, h0⟩ := h j hj
  exact ⟨x, hx, (cell_same (hb.block _ (cell_block h0))).trans h0⟩
/-- a reply that lies at x -/
structure RepAt (w : World) (x : Addr) (r : RepL) : Prop where
  c0 : w.cell? x = some (.int .i64 r.e)
  c1 : w.cell? { block := x.block, off := x.off + 1 } = some (.int .i64 r.n)
  c2 : w.cell? { block := x.block, off := x.off + 2 } = some (.slice r.ca r.cs.length r.cc)
  c3 : w.cell? { block := x.block, off := x.off + 3 } = some (.slice r.oa r.os.length r.oc)
  ci : IntIn w r.ca r.cs
  oi : StrIn w r.oa r.os
  cl : r.cs.length ≤ r.cc
  ol : r.os.length ≤ r.oc
theorem RepAt.below {w w' : World} {x : Addr} {r : RepL} (h : RepAt w x r) (hb : Below w.heap.size w w') : RepAt w' x r :=
  ⟨(cell_same (hb.block _ (cell_block h.c0))).trans h.c0, (cell_same (hb.block _ (cell_block h.c1))).trans h.c1, (cell_same (hb.block _ (cell_block h.c2))).trans h.c2, (cell_same (hb.block _ (cell_block h.c3))).trans h.c3, h.ci.below hb, h.oi.below hb, h.cl, h.ol⟩
def RepIn (w : World) (a : Option Addr) (l : List RepL) : Prop := ∀ j (hj : j < l.length), ∃ x, a = some x ∧ RepAt w (x.add (j * 4)) l[j]
theorem RepIn.below {w w' : World} {a : Option Addr} {l : List RepL} (h : RepIn w a l) (hb : Below w.heap.size w w') : RepIn w' a l := fun j hj => by
  obtain ⟨x, hx, h0⟩ := h j hj
  exact ⟨x, hx, h0.below hb⟩
theorem cells58 : Try.prog.cellsOf 58 = 4 := by kernel_rfl
theorem cells30 : Try.prog.cellsOf 30 = 1 := by kernel_rfl
theorem cells55 : Try.prog.cellsOf 55 = 1 := by kernel_rfl
theorem cells56 : Try.prog.cellsOf 56 = 1 := by kernel_rfl
theorem fs58 : ∃ f0 f1 f2 f3, Try.prog.underlying 58 = some (.struct #[f0, f1, f2, f3]) ∧ (f0.offset = 0 ∧ f1.offset = 1 ∧ f2.offset = 2 ∧ f3.offset = 3) ∧ f0.type = 30 ∧ f1.type = 3 ∧ f2.type = 55 ∧ f3.type = 56 :=
  ⟨_, _, _, _, Try.underlying58, ⟨rfl, rfl, rfl, rfl⟩, rfl, rfl, rfl, rfl⟩
section
variable {H : Type} {enc : TypeId × Value → H} {w : World} {spare : Nat → Bool} {held : Bool} {fuel : Nat} {x : DataW H × List MemPlace}
theorem open_ints {cs : List Value} (h : DataW.trod enc Try.prog w 0 spare held fuel 55 cs = some x) : ∃ (a : Option Addr) (l : List Int) (cap : Nat), cs = [.slice a l.length cap] ∧ IntIn w a l ∧ l.length ≤ cap := by
  rcases Go.Deep.open_slice Try.underlying55 h with ⟨h0, _⟩ | ⟨b, len, c, m, n, D, Pl, h0, hb, hl, hm, hmm, _, hx⟩
  · exact ⟨none, [], 0, h0, (fun j hj => by simp at hj), Nat.zero_le _⟩
  · have hlm : len ≤ m := by rw [hmm]; split <;> omega
    have each : ∀ i, i < len → ∃ q : Int, w.cell? (b.add i) = some (.int .i64 q) := by
      intro i hi
      obtain ⟨cs', h1, h2⟩ := hx i (by omega)
      rw [cells30] at h1
      obtain ⟨_, hlen, hcell⟩ := World.cells?_some h1
      obtain ⟨r, e0, _⟩ := DataW.trod_int Try.underlying30 h2
      subst e0
      have e := hcell 0 (by omega)
      exact ⟨r, by simpa [Addr.add] using e⟩
    obtain ⟨q, hq⟩ := Go.Deep.choose_lt each
    refine ⟨some b, (List.range len).map q, c, ?_, ?_, ?_⟩
    · rw [h0]; simp
    · intro j hj
      have hj' : j < len := by simpa using hj
      exact ⟨b, rfl, by simpa using hq j hj'⟩
    · simp; omega
theorem open_strs {cs : List Value} (h : DataW.trod enc Try.prog w 0 spare held fuel 56 cs = some x) : ∃ (a : Option Addr) (l : List ByteArray) (cap : Nat), cs = [.slice a l.length cap] ∧ StrIn w a l ∧ l.length ≤ cap := by
  rcases Go.Deep.open_slice Try.underlying56 h with ⟨h0, _⟩ | ⟨b, len, c, m, n, D, Pl, h0, hb, hl, hm, hmm, _, hx⟩
  · exact ⟨none, [], 0, h0, (fun j hj => by simp at hj), Nat.zero_le _⟩
  · have hlm : len ≤ m := by rw [hmm]; split <;> omega
    have each : ∀ i, i < len → ∃ q : ByteArray, w.cell? (b.add i) = some (.string q) := by
      intro i hi
      obtain ⟨cs', h1, h2⟩ := hx i (by omega)
      rw [cells9] at h1
      obtain ⟨_, hlen, hcell⟩ := World.cells?_some h1
      obtain ⟨r, e0, _⟩ := DataW.trod_string Try.underlying9 h2
      subst e0
      have e := hcell 0 (by omega)
      exact ⟨r, by simpa [Addr.add] using e⟩
    obtain ⟨q, hq⟩ := Go.Deep.choose_lt each
    refine ⟨some b, (List.range len).map q, c, ?_, ?_, ?_⟩
    · rw [h0]; simp
    · intro j hj
      have hj' : j < len := by simpa using hj
      exact ⟨b, rfl, by simpa using hq j hj'⟩
    · simp; omega
theorem open_reps {a : Option Addr} {len cap : Nat} (h : DataW.trod enc Try.prog w 0 spare held fuel 54 [.slice a len cap] = some x) : ∃ l : List RepL, l.length = len ∧ RepIn w a l := by
  rcases Go.Deep.open_slice Try.underlying54 h with ⟨h0, _⟩ | ⟨b, len', c, m, n, D, Pl, h0, hb, hl, hm, hmm, _, hx⟩
  · simp at h0
    obtain ⟨rfl, rfl, rfl⟩ := h0
    exact ⟨[], rfl, fun j hj => by simp at hj⟩
  · simp at h0
    obtain ⟨rfl, rfl, rfl⟩ := h0
    have hlm : len ≤ m := by rw [hmm]; split <;> omega
    have each : ∀ i, i < len → ∃ q : RepL, RepAt w (b.add (i * 4)) q := by
      intro i hi
      obtain ⟨cs', h1, h2⟩ := hx i (by omega)
      rw [cells58] at h1
      obtain ⟨_, hlen, hcell⟩ := World.cells?_some h1
      obtain ⟨f0, f1, f2, f3, he, ⟨o0, o1, o2, o3⟩, q0, q1, q2, q3⟩ := fs58
      obtain ⟨xs, k, hk, hxy, hlen', hxl, hg⟩ := DataW.trod_struct he h2
      rw [cells58] at hlen'
      match xs, hxl, cs', hlen' with
      | [y0, y1, y2, y3], _, [v0, v1, v2, v3], _ =>
        have g0 := hg 0 f0 rfl
        have g1 := hg 1 f1 rfl
        have g2 := hg 2 f2 rfl
        have g3 := hg 3 f3 rfl
        simp [o0, o1, o2, o3, q0, q1, q2, q3, cells3, cells30, cells55, cells56] at g0 g1 g2 g3
        obtain ⟨r0, e0, _⟩ := DataW.trod_int Try.underlying30 g0
        obtain ⟨r1, e1, _⟩ := DataW.trod_int Try.underlying3 g1
        obtain ⟨ca, cs, cc, e2, h7, h8⟩ := open_ints g2
        obtain ⟨oa, os, oc, e3, h9, h10⟩ := open_strs g3
        simp at e0 e1 e2 e3
        subst e0 e1 e2 e3
        have d0 := hcell 0 (by omega)
        have d1 := hcell 1 (by omega)
        have d2 := hcell 2 (by omega)
        have d3 := hcell 3 (by omega)
        exact ⟨⟨r0, r1, cs, ca, cc, os, oa, oc⟩, ⟨by simpa [Addr.add] using d0, by simpa [Addr.add] using d1, by simpa [Addr.add] using d2, by simpa [Addr.add] using d3, h7, h9, h8, h10⟩⟩
    have : Inhabited RepL := ⟨⟨0, 0, [], none, 0, [], none, 0⟩⟩
    obtain ⟨q, hq⟩ := Go.Deep.choose_lt each
    refine ⟨(List.range len).map q, by simp, ?_⟩
    intro j hj
    have hj' : j < len := by simpa using hj
    exact ⟨b, rfl, by simpa using hq j hj'⟩
end
def codB (cs : List Int) : List UInt8 := cs.flatMap fun c => be (u64 c) 1
def outB (os : List ByteArray) : List UInt8 := os.flatMap fun p => be (min p.size 65535) 2 ++ p.data.toList.take 65535
/-- a reply's bytes -/
def repB (r : RepL) : List UInt8 := be (u64 r.e) 1 ++ (be (u64 r.n) 4 ++ (be r.cs.length 2 ++ (codB r.cs ++ (be r.os.length 2 ++ outB r.os))))
def repsB (l : List RepL) : List UInt8 := l.flatMap repB
structure RepL.few (r : RepL) : Prop where
  c : r.cs.length ≤ 600
  o : r.os.length ≤ 60
  p : ∀ x ∈ r.os, x.size ≤ 70000
theorem codB_len (cs : List Int) : (codB cs).length = cs.length := by
  induction cs with
  | nil => rfl
  | cons c cs ih => show (be (u64 c) 1 ++ codB cs).length = _; rw [List.length_append, be_length, ih, List.length_cons]; omega
theorem outB_len : ∀ (os : List ByteArray), (outB os).length ≤ os.length * 65537
  | [] => by simp [outB]
  | p :: os => by
    show ((be (min p.size 65535) 2 ++ p.data.toList.take 65535) ++ outB os).length ≤ _
    have := outB_len os
    rw [List.length_append, List.length_append, be_length, List.length_take, List.length_cons]
    omega
theorem repB_len {r : RepL} (h : r.few) : (repB r).length ≤ 5000000 := by
  unfold repB
  simp only [List.length_append, be_length, codB_len]
  have := outB_len r.os
  have := h.c
  have := h.o
  omega
theorem repsB_len : ∀ (l : List RepL), (∀ r ∈ l, r.few) → (repsB l).length ≤ l.length * 5000000
  | [], _ => by simp [repsB]
  | r :: l, h => by
    show (repB r ++ repsB l).length ≤ _
    have h1 := repsB_len l (fun y hy => h y (List.mem_cons_of_mem _ hy))
    have h2 := repB_len (h r List.mem_cons_self)
    rw [List.length_append, List.length_cons]
    omega
theorem codB_snoc (cs : List Int) (j : Nat) (hj : j < cs.length) : codB (cs.take (j + 1)) = codB (cs.take j) ++ be (u64 cs[j]) 1 := by
  rw [List.take_succ_eq_append_getElem hj]; unfold codB; rw [List.flatMap_append]; simp
theorem outB_snoc (os : List ByteArray) (j : Nat) (hj : j < os.length) : outB (os.take (j + 1)) = outB (os.take j) ++ (be (min os[j].size 65535) 2 ++ os[j].data.toList.take 65535) := by
  rw [List.take_succ_eq_append_getElem hj]; unfold outB; rw [List.flatMap_append]; simp
theorem repsB_snoc (l : List RepL) (j : Nat) (hj : j < l.length) : repsB (l.take (j + 1)) = repsB (l.take j) ++ repB l[j] := by
  rw [List.take_succ_eq_append_getElem hj]; unfold repsB; rw [List.flatMap_append]; simp
end Go.Proofs.Ytmijfhfjhbckdaa
