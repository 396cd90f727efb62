import Derived.Test.YtgonagkhnkhcnaaCopy
import Derived.Deep.Slices
/- A row of numbers that is made by appends: of one that came in, and of two numbers. -/
namespace Go.Proofs.Ytgonagkhnkhcnaa
set_option maxRecDepth 100000
open Go.RowKit
def NIn (w : World) (a : Option Addr) (zs : List Nat) : Prop := ∀ j (hj : j < zs.length), ∃ x, a = some x ∧ w.cell? (x.add j) = some (.int .u64 zs[j])
theorem NIn.below {w w' : World} {a : Option Addr} {zs : List Nat} (h : NIn w a zs) (hb : Below w.heap.size w w') : NIn w' a zs := by
  intro j hj
  obtain ⟨x, hx, c0⟩ := h j hj
  exact ⟨x, hx, (hb.cell (World.block_lt_of_cell? w _ c0)).trans c0⟩
def ucells (zs : List Nat) : List Value := zs.map (fun (z : Nat) => Value.int .u64 z)
theorem ucells_len (zs : List Nat) : (ucells zs).length = zs.length := by unfold ucells; rw [List.length_map]
theorem ucells_app (a b : List Nat) : ucells (a ++ b) = ucells a ++ ucells b := by unfold ucells; rw [List.map_append]
theorem ucells_at (zs : List Nat) (j : Nat) (u : Value) (h : (ucells zs)[j]? = some u) : ∃ hj : j < zs.length, u = .int .u64 zs[j] := by
  unfold ucells at h
  rw [List.getElem?_map] at h
  by_cases hj : j < zs.length
  · rw [List.getElem?_eq_getElem hj] at h
    simp only [Option.map_some, Option.some.injEq] at h
    exact ⟨hj, h.symm⟩
  · rw [List.getElem?_eq_none (by omega)] at h; cases h
theorem info23 : ∃ i, Try.prog.info? 40 = some i ∧ i.zero = some (.int .u64 0) ∧ i.size = 1 ∧ i.bytes = 8 := by
  have h : (Try.prog.info? 40).map (fun i => (i.zero, i.size, i.bytes)) = some (some (.int .u64 0), 1, 8) := by kernel_rfl
  exact info_parts h
/-- the row v of zs; the block z, if there is one, holds p and q -/
structure NSt (B : Nat) (w0 : World) (p q : Nat) (v : Value) (zs : List Nat) (z : Option Nat) (w : World) : Prop where
  row : w.ownsRow B 40 1 v zs.length (ucells zs)
  two : ∀ g, z = some g → w.heap[g]? = some (.cells #[.int .u64 p, .int .u64 q] 40 (0, 0)) ∧ v.ownBlock ≠ some g
  le : B ≤ w.heap.size
  bel : Below B w0 w
section
variable {B : Nat} {w0 : World} {p q : Nat} {v : Value} {zs : List Nat} {z : Option Nat} {w : World}
theorem NSt.drew (h : NSt B w0 p q v zs z w) : NSt B w0 p q v zs z w.drew := ⟨h.row, h.two, h.le, h.bel.drew⟩
theorem NSt.start (hb : Below B w0 w) (hB : B ≤ w.heap.size) : NSt B w0 p q (.slice none 0 0) [] none w := ⟨World.ownsRow_nil _ _ _ _, fun g h => (by cases h), hB, hb⟩
theorem alloc_old {w : World} {g : Nat} {o o' : Obj} (h : w.heap[g]? = some o) : (w.alloc o').heap[g]? = some o := by
  have := heap_lt h
  show (w.heap.push _)[g]? = _
  rw [Array.getElem?_push_lt this]
  rw [Array.getElem?_eq_getElem this] at h
  exact h
theorem NSt.fresh (h : NSt B w0 p q (.slice none 0 0) [] z w) : NSt B w0 p q (.slice (some ⟨w.heap.size, 0, none⟩) 0 0) [] z (w.alloc (.cells #[] 40)) := by
  refine ⟨⟨rfl, .inr ⟨w.heap.size, 0, #[], rfl, h.le, ?_, Nat.le_refl _, by unfold maxLen; omega, rfl, rfl⟩⟩, fun g hg => ⟨alloc_old (h.two g hg).1, fun e => ?_⟩, ?_, h.bel.alloc h.le _⟩
  · show (w.heap.push _)[w.heap.size]? = _; simp
  · have h1 := heap_lt (h.two g hg).1
    have : w.heap.size = g := by simpa [Value.ownBlock] using e
    omega
  · rw [World.size_alloc]; have := h.le; omega
theorem NSt.more (h : NSt B w0 p q v zs none w) : NSt B w0 p q v zs (some w.heap.size) (w.alloc (.cells #[.int .u64 p, .int .u64 q] 40)) := by
  refine ⟨World.ownsRow.alloc h.row _, fun g hg => ?_, ?_, h.bel.alloc h.le _⟩
  · injection hg with hg
    subst hg
    refine ⟨alloc_new _ _, fun e => ?_⟩
    have := (World.ownsRow.lt h.row _ e).2
    omega
  · rw [World.size_alloc]; have := h.le; omega
theorem NSt.fresh' {g : Nat} (hg : g = w.heap.size) (h : NSt B w0 p q (.slice none 0 0) [] z w) : NSt B w0 p q (.slice (some ⟨g, 0, none⟩) 0 0) [] z (w.alloc (.cells #[] 40)) := by subst hg; exact h.fresh
theorem NSt.more' {g : Nat} (hg : g = w.heap.size) (h : NSt B w0 p q v zs none w) : NSt B w0 p q v zs (some g) (w.alloc (.cells #[.int .u64 p, .int .u64 q] 40)) := by subst hg; exact h.more
theorem NSt.zeq {z' : Option Nat} (hg : z = z') (h : NSt B w0 p q v zs z w) : NSt B w0 p q v zs z' w := by subst hg; exact h
theorem NSt.append (h : NSt B w0 p q v zs z w) (ty : TypeId) (ad : Addr) (m c : Nat) (news : List Nat) (hm : news.length = m)
    (hnews : ∀ j u, (ucells news)[j]? = some u → w.cell? (ad.add j) = some u) (hlen : zs.length + m ≤ 100000) :
    ∃ v' w', (Builtin.append_ #[23, 23] ty #[v, .slice (some ad) m c]).run Try.prog w = .ok v' w' ∧ NSt B w0 p q v' (zs ++ news) z w' := by
  subst hm
  obtain ⟨i0, hi, hz0, hz1, hz2⟩ := info23
  obtain ⟨v', w', hr, h2, h3, _, h5⟩ := run_append_own_at (P := Try.prog) w B 23 ty 40 i0 _ 1 8 Try.underlying23 hi hz0 hz1 hz2 rfl (by decide) v zs.length (ucells zs) h.row ad news.length c (ucells news) (by rw [ucells_len, Nat.mul_one]) hnews
    (fun u hu => by
      unfold ucells at hu
      obtain ⟨y, _, rfl⟩ := List.mem_map.1 hu
      rfl) (by unfold maxLen; omega) (by omega) h.le
  refine ⟨v', w', hr, ?_, fun g hg => ?_, Nat.le_trans h.le (grown_size h3), h.bel.grown h3 h.le (fun q hq => (World.ownsRow.lt h.row q hq).1)⟩
  · show w'.ownsRow B 40 1 v' (zs ++ news).length (ucells (zs ++ news))
    rw [List.length_append, ucells_app]
    exact h2
  · obtain ⟨e1, e2⟩ := h.two g hg
    refine ⟨(h3.block _ (heap_lt e1) (fun e => e2 e.symm)).trans e1, fun e => ?_⟩
    rcases h5 with h5 | h5
    · exact e2 (h5 ▸ e)
    · rw [h5] at e; injection e with e; have := heap_lt e1; omega
theorem NSt.nil (h : NSt B w0 p q v zs z w) (ty : TypeId) :
    ∃ v' w', (Builtin.append_ #[23, 23] ty #[v, .slice none 0 0]).run Try.prog w = .ok v' w' ∧ NSt B w0 p q v' zs z w' := by
  rcases h.row.2 with ⟨h1, h2⟩ | ⟨g, cap, cur, h1, h2, h3, h4, h5, h6, h7⟩
  · refine ⟨v, w, ?_, h⟩
    subst h1
    simp [Builtin.append_, Builtin.lenOf, Builtin.firstCells]
  · refine ⟨v, w, ?_, h⟩
    subst h1
    simp [Builtin.append_, Builtin.lenOf, Builtin.firstCells, h4, storeCells]
/-- all of a row that came in, nil or not -/
theorem NSt.all (h : NSt B w0 p q v zs z w) {a : Option Addr} {all : List Nat} {c : Nat} (hsrc : ∀ W, Below B w0 W → NIn W a all) (hn : a = none → all = [] ∧ c = 0) (ty : TypeId) (hlen : zs.length + all.length ≤ 100000) :
    ∃ v' w', (Builtin.append_ #[23, 23] ty #[v, .slice a all.length c]).run Try.prog w = .ok v' w' ∧ NSt B w0 p q v' (zs ++ all) z w' := by
  cases a with
  | none =>
    obtain ⟨rfl, rfl⟩ := hn rfl
    rw [List.append_nil]
    exact h.nil ty
  | some x =>
    refine h.append ty x _ c _ rfl (fun j u hu => ?_) hlen
    obtain ⟨hj, rfl⟩ := ucells_at _ _ _ hu
    obtain ⟨x', hx, c0⟩ := hsrc w h.bel j hj
    obtain rfl := Option.some.inj hx
    exact c0
theorem NSt.pair {g : Nat} (h : NSt B w0 p q v zs (some g) w) (ty : TypeId) (c : Nat) (hlen : zs.length + 2 ≤ 100000) :
    ∃ v' w', (Builtin.append_ #[23, 23] ty #[v, .slice (some ⟨g, 0, none⟩) 2 c]).run Try.prog w = .ok v' w' ∧ NSt B w0 p q v' (zs ++ [p, q]) (some g) w' := by
  refine h.append ty ⟨g, 0, none⟩ 2 c [p, q] rfl (fun j u hu => ?_) hlen
  obtain ⟨hj, rfl⟩ := ucells_at _ _ _ hu
  have h1 := (h.two g rfl).1
  have e : (⟨g, 0, none⟩ : Addr).add j = ⟨g, j, none⟩ := by unfold Addr.add; split <;> simp_all
  rw [e, Lib.cell_of_heap h1]
  have hj2 : j = 0 ∨ j = 1 := by simp at hj; omega
  rcases hj2 with rfl | rfl <;> rfl
theorem NSt.open (h : NSt B w0 p q v zs z w) : ∃ a cap, v = .slice a zs.length cap ∧ NIn w a zs ∧ (a = none → zs = [] ∧ cap = 0) ∧ zs.length ≤ cap := by
  rcases h.row.2 with ⟨h1, h2⟩ | ⟨g, cap, cur, h1, h2, h3, h4, h5, h6, h7⟩
  · subst h1
    have hl := ucells_len zs
    have hz : zs.length = 0 := by
      rcases Nat.eq_zero_or_pos zs.length with h | h
      · exact h
      · exfalso; simp_all
    rw [hz]
    exact ⟨none, 0, rfl, fun j hj => by omega, fun _ => ⟨List.eq_nil_of_length_eq_zero hz, rfl⟩, Nat.le_refl _⟩
  · subst h1
    refine ⟨some ⟨g, 0, none⟩, cap, rfl, fun j hj => ⟨_, rfl, ?_⟩, (fun hc => by cases hc), h4⟩
    exact World.ownsRow.cells h.row (g := g) rfl j (.int .u64 zs[j]) (by unfold ucells; rw [List.getElem?_map, List.getElem?_eq_getElem hj]; rfl)
end
end Go.Proofs.Ytgonagkhnkhcnaa
