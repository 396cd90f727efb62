import Derived.Test.YtfagkmmenfeppaaDoorBack
import Derived.Maps.AppendAt
/- A row of fields that is made by appends. -/
namespace Go.Proofs.YtfagkmmenfeppaaDoor
set_option maxRecDepth 100000
open Go.RowKit
def icells (b : Fi) : List Value := [.int .i64 b.1, .string (bs b.2)]
def iflat (l : List Fi) : List Value := l.flatMap icells
theorem iflat_app (a b : List Fi) : iflat (a ++ b) = iflat a ++ iflat b := by unfold iflat; rw [List.flatMap_append]
theorem iflat_len (l : List Fi) : (iflat l).length = l.length * 2 := by
  induction l with
  | nil => rfl
  | cons p t ih => show (icells p ++ iflat t).length = _; rw [List.length_append, ih]; show 2 + _ = _; rw [List.length_cons]; omega
theorem iflat_get (l : List Fi) : ∀ i (h : i < l.length), (iflat l)[i * 2]? = some (.int .i64 l[i].1) ∧ (iflat l)[i * 2 + 1]? = some (.string (bs l[i].2)) := by
  induction l with
  | nil => intro i h; cases h
  | cons b t ih =>
    intro i h
    cases i with
    | zero => exact ⟨rfl, rfl⟩
    | succ i =>
      have hi : i < t.length := by simpa using h
      obtain ⟨h1, h2⟩ := ih i hi
      have e : ∀ j, (iflat (b :: t))[j + 2]? = (iflat t)[j]? := fun j => by
        show (icells b ++ iflat t)[j + 2]? = _
        rw [List.getElem?_append_right (by show 2 ≤ j + 2; omega)]
        show (iflat t)[j + 2 - 2]? = _
        rw [Nat.add_sub_cancel]
      refine ⟨?_, ?_⟩
      · rw [show (i + 1) * 2 = i * 2 + 2 by omega, e]; exact h1
      · rw [show (i + 1) * 2 + 1 = (i * 2 + 1) + 2 by omega, e]; exact h2
theorem iflat_at (l : List Fi) (j : Nat) (u : Value) (h : (iflat l)[j]? = some u) : ∃ i, ∃ hi : i < l.length, (j = i * 2 ∧ u = .int .i64 l[i].1) ∨ (j = i * 2 + 1 ∧ u = .string (bs l[i].2)) := by
  obtain ⟨hj, _⟩ := List.getElem?_eq_some_iff.1 h
  rw [iflat_len] at hj
  have hi : j / 2 < l.length := by omega
  obtain ⟨h1, h2⟩ := iflat_get l (j / 2) hi
  refine ⟨j / 2, hi, ?_⟩
  have hm : j % 2 = 0 ∨ j % 2 = 1 := by omega
  rcases hm with hm | hm
  · have e : j = j / 2 * 2 := by omega
    rw [← e, h] at h1
    exact .inl ⟨e, Option.some.inj h1⟩
  · have e : j = j / 2 * 2 + 1 := by omega
    rw [← e, h] at h2
    exact .inr ⟨e, Option.some.inj h2⟩
theorem spot_none {w : World} {x : Addr} {u : Value} (h : w.cell? x = some u) : x.spot = none := by
  unfold World.cell? at h
  split at h
  · split at h
    · cases h
    · rename_i hs
      simpa using hs
  · cases h
theorem all_cells {w : World} {x : Addr} {all : List Fi} (hin : FdIn w (some x) all) (j : Nat) (u : Value) (h : (iflat all)[j]? = some u) : w.cell? (x.add j) = some u := by
  obtain ⟨i, hi, h⟩ := iflat_at _ _ _ h
  obtain ⟨x', hx, c0, c1⟩ := hin i hi
  obtain rfl := Option.some.inj hx
  have hsx : x.spot = none := by
    obtain ⟨x'', hx2, d0, _⟩ := hin 0 (by omega)
    obtain rfl := Option.some.inj hx2
    exact spot_none (by simpa [Addr.add] using d0)
  obtain ⟨b, o, s⟩ := x
  obtain rfl : s = none := hsx
  have ea : ∀ n, (⟨b, o, none⟩ : Addr).add n = ⟨b, o + n, none⟩ := fun n => by unfold Addr.add; split <;> simp_all
  rw [ea] at c0 c1
  rw [ea]
  rcases h with ⟨rfl, rfl⟩ | ⟨rfl, rfl⟩
  · exact c0
  · exact c1
structure ASt (B : Nat) (w0 : World) (v : Value) (l : List Fi) (w : World) : Prop where
  row : w.ownsRow B 45 2 v l.length (iflat l)
  le : B ≤ w.heap.size
  bel : Below B w0 w
section
variable {B : Nat} {w0 : World} {v : Value} {l : List Fi} {w : World}
theorem ASt.drew (h : ASt B w0 v l w) : ASt B w0 v l w.drew := ⟨h.row, h.le, h.bel.os, h.bel.tape, h.bel.output, h.bel.size, h.bel.block⟩
theorem ASt.alloc (h : ASt B w0 v l w) (o : Obj) : ASt B w0 v l (w.alloc o) := ⟨World.ownsRow.alloc h.row o, by rw [World.size_alloc]; exact Nat.le_succ_of_le h.le, h.bel.alloc h.le o⟩
theorem ASt.fresh (hb : Below B w0 w) (hB : B ≤ w.heap.size) : ASt B w0 (.slice (some ⟨w.heap.size, 0, none⟩) 0 0) [] (w.alloc (.cells #[] 45)) := by
  refine ⟨⟨rfl, .inr ⟨w.heap.size, 0, #[], rfl, hB, ?_, Nat.le_refl _, by unfold maxLen; omega, rfl, rfl⟩⟩, ?_, hb.alloc hB _⟩
  · show (w.heap.push _)[w.heap.size]? = _; simp
  · rw [World.size_alloc]; omega
theorem ASt.append (h : ASt B w0 v l w) (ty : TypeId) (ad : Addr) (m c : Nat) (news : List Fi) (hm : news.length = m)
    (hnews : ∀ j u, (iflat news)[j]? = some u → w.cell? (ad.add j) = some u) (hlen : l.length + m ≤ 1000) :
    ∃ v' w', (Builtin.append_ #[22, 22] ty #[v, .slice (some ad) m c]).run Tryd.prog w = .ok v' w' ∧ ASt B w0 v' (l ++ news) w' := by
  subst hm
  obtain ⟨i0, hi, hz0, hz1, hz2⟩ := info45
  obtain ⟨v', w', hr, h2, h3, _, h5⟩ := run_append_own_at (P := Tryd.prog) w B 22 ty 45 i0 _ 2 24 Tryd.underlying22 hi hz0 hz1 hz2 rfl (by decide) v l.length (iflat l) h.row ad news.length c (iflat news) (iflat_len _) hnews
    (fun u hu => by
      unfold iflat at hu
      rw [List.mem_flatMap] at hu
      obtain ⟨b, _, hu⟩ := hu
      unfold icells at hu
      simp at hu
      rcases hu with rfl | rfl <;> rfl) (by unfold maxLen; omega) (by omega) h.le
  refine ⟨v', w', hr, ?_, Nat.le_trans h.le h3.size, h.bel.grown h3 h.le (fun q hq => (World.ownsRow.lt h.row q hq).1)⟩
  show w'.ownsRow B 45 2 v' (l ++ news).length (iflat (l ++ news))
  rw [List.length_append, iflat_app]
  exact h2
theorem ASt.nil (h : ASt B w0 v l w) (ty : TypeId) (c : Nat) :
    ∃ v' w', (Builtin.append_ #[22, 22] ty #[v, .slice none 0 c]).run Tryd.prog w = .ok v' w' ∧ ASt B w0 v' l w' := by
  rcases h.row.2 with ⟨h1, h2⟩ | ⟨g, cap, cur, h1, h2, h3, h4, h5, h6, h7⟩
  · refine ⟨v, w, ?_, h⟩
    subst h1
    simp [Builtin.append_, Builtin.lenOf, Builtin.firstCells]
  · refine ⟨v, w, ?_, h⟩
    subst h1
    simp [Builtin.append_, Builtin.lenOf, Builtin.firstCells, h4, storeCells]
/-- all of a row that came in -/
theorem ASt.all (h : ASt B w0 v l w) (ty : TypeId) (oa : Option Addr) (c : Nat) (news : List Fi) (hin : FdIn w oa news) (hlen : l.length + news.length ≤ 1000) :
    ∃ v' w', (Builtin.append_ #[22, 22] ty #[v, .slice oa news.length c]).run Tryd.prog w = .ok v' w' ∧ ASt B w0 v' (l ++ news) w' := by
  cases oa with
  | some ad => exact h.append ty ad news.length c news rfl (fun j u hu => all_cells hin j u hu) hlen
  | none =>
    cases news with
    | nil => rw [List.append_nil]; exact h.nil ty c
    | cons x t =>
      obtain ⟨_, hx, _⟩ := hin 0 (by simp)
      cases hx
/-- one field that was laid -/
theorem ASt.one (h : ASt B w0 v l w) (ty : TypeId) (g c : Nat) (f : Fi) (hg : w.heap[g]? = some (.cells #[.int .i64 f.1, .string (bs f.2)] 45 (0, 0))) (hlen : l.length + 1 ≤ 1000) :
    ∃ v' w', (Builtin.append_ #[22, 22] ty #[v, .slice (some ⟨g, 0, none⟩) 1 c]).run Tryd.prog w = .ok v' w' ∧ ASt B w0 v' (l ++ [f]) w' := by
  refine h.append ty ⟨g, 0, none⟩ 1 c [f] rfl (fun j u hu => ?_) hlen
  have ea : ∀ n, (⟨g, 0, none⟩ : Addr).add n = ⟨g, n, none⟩ := fun n => by unfold Addr.add; split <;> simp_all
  rw [ea, Lib.cell_of_heap hg]
  rcases iflat_at _ _ _ hu with ⟨i, hi, ⟨rfl, rfl⟩ | ⟨rfl, rfl⟩⟩
  · obtain rfl : i = 0 := by simpa using hi
    rfl
  · obtain rfl : i = 0 := by simpa using hi
    rfl
theorem ASt.open (h : ASt B w0 v l w) : ∃ a cap, v = .slice a l.length cap ∧ FdIn w a l := by
  obtain ⟨hl, ⟨rfl, h0⟩ | ⟨g, cap, cur, rfl, hb, hg, h1, h2, h3, h4⟩⟩ := h.row
  · exact ⟨none, 0, by rw [h0], fun j hj => by omega⟩
  · refine ⟨some ⟨g, 0, none⟩, cap, rfl, fun j hj => ?_⟩
    obtain ⟨q1, q2⟩ := iflat_get l j hj
    rw [← h4, List.getElem?_take] at q1 q2
    rw [if_pos (by omega)] at q1 q2
    have c : ∀ i, w.cell? ⟨g, i, none⟩ = cur.toList[i]? := fun i => by rw [Lib.cell_of_heap hg]; simp
    have ea : ∀ n, (⟨g, 0, none⟩ : Addr).add n = ⟨g, n, none⟩ := fun n => by unfold Addr.add; split <;> simp_all
    refine ⟨_, rfl, ?_, ?_⟩
    · rw [ea]; exact (c (j * 2)).trans q1
    · rw [ea]; exact (c (j * 2 + 1)).trans q2
end
end Go.Proofs.YtfagkmmenfeppaaDoor
