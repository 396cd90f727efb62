import Derived.Test.YtgonagkhnkhcnaaRingSt
/- What ring.New makes, in plain words. -/
namespace Go.Proofs.Ytgonagkhnkhcnaa
set_option maxRecDepth 100000
open Go.RowKit
theorem store_float (w : World) (a : Addr) (b : Nat) (m : Mode) : (store a (.float .f64 b) m).run Try.prog w = stored Try.prog w a (.float .f64 b) m := run_store Try.prog w a _ m rfl
def ids (bs : List Bk) : List Int := bs.map Bk.id
def pts (b : Bk) : List (Nat × Nat) := (List.range (FM.points b.wt)).map (fun k => (hpt b.id.toNat k, b.id.toNat))
/-- the points that are put in, one backend behind the other -/
def gather : List Bk → List Int → List (Nat × Nat) → List (Nat × Nat)
  | [], _, q => q
  | b :: t, l, q => gather t (l ++ [b.id]) (if b.id ∉ l ∧ dn l < 64 then q ++ pts b else q)
def BkIn (w : World) (a : Option Addr) (bs : List Bk) : Prop :=
  ∀ j (hj : j < bs.length), ∃ x, a = some x ∧ w.cell? (x.add (j * 3)) = some (.int .i64 bs[j].id) ∧ w.cell? { block := (x.add (j * 3)).block, off := (x.add (j * 3)).off + 1 } = some (.string bs[j].addr) ∧ w.cell? { block := (x.add (j * 3)).block, off := (x.add (j * 3)).off + 2 } = some (.float .f64 bs[j].wt)
def BkOk (bs : List Bk) : Prop := ∀ b ∈ bs, b.wt < W64 ∧ b.addr.size ≤ maxLen ∧ (Lit.int .i64 b.id).wf = true
/-- what the walk through the first k has gathered -/
def gath (bs : List Bk) (k : Nat) : List (Nat × Nat) := gather (bs.take k) [] []
theorem take_one {α : Type} (l : List α) (k : Nat) (h : k < l.length) : l.take (k + 1) = l.take k ++ [l[k]] := by
  rw [List.take_add_one, List.getElem?_eq_getElem h]; rfl
/-- the ring in memory -/
structure RingAt (B R : Nat) (v : Value) (ps : List (Nat × Nat)) (w : World) : Prop where
  hR : w.heap[R]? = some (.cells #[v] 75 (0, 0))
  row : Row B v ps w
  vR : v.ownBlock ≠ some R
  bR : B ≤ R
/-- what New tells -/
def newE (bs : List Bk) : Int := if bs.all bk_ok then (if dn (ids bs) < bs.length then 12 else if 64 < bs.length then 11 else 0) else 1
/-- one point ahead of another -/
def ptle (x y : Nat × Nat) : Prop := x.1 < y.1 ∨ (x.1 = y.1 ∧ x.2 ≤ y.2)
def newPost (bs : List Bk) (w : World) (e : Ending) (w' : World) : Prop :=
  Below w.heap.size w w' ∧ (newE bs ≠ 0 → e = .returned (.tuple #[.pointer none, .int .i64 (newE bs)])) ∧
  (newE bs = 0 → ∃ R v ps, e = .returned (.tuple #[.pointer (some ⟨R, 0, none⟩), .int .i64 0]) ∧ RingAt w.heap.size R v ps w' ∧ ps.Perm (gath bs bs.length) ∧ ps.Pairwise ptle)
theorem newE_bad (bs : List Bk) (k : Nat) (h : k < bs.length) (hb : bk_ok bs[k] = false) : newE bs = 1 := by
  unfold newE
  rw [if_neg]
  intro hc
  rw [List.all_eq_true] at hc
  have := hc _ (List.getElem_mem h)
  rw [hb] at this; cases this
theorem all_succ (bs : List Bk) (k : Nat) (h : k < bs.length) (h1 : (bs.take k).all bk_ok = true) (h2 : bk_ok bs[k] = true) : (bs.take (k + 1)).all bk_ok = true := by
  rw [take_one bs k h, List.all_append, h1, Bool.true_and, List.all_cons, h2]; rfl
theorem gather_snoc (b : Bk) : ∀ (t : List Bk) (l : List Int) (q : List (Nat × Nat)), gather (t ++ [b]) l q = (if b.id ∉ l ++ ids t ∧ dn (l ++ ids t) < 64 then gather t l q ++ pts b else gather t l q) := by
  intro t
  induction t with
  | nil =>
    intro l q
    have e : l ++ ids [] = l := List.append_nil l
    rw [e]; rfl
  | cons a t ih =>
    intro l q
    have e : l ++ ids (a :: t) = (l ++ [a.id]) ++ ids t := by unfold ids; rw [List.map_cons, List.append_assoc]; rfl
    rw [e]
    exact ih _ _
theorem gath_succ (bs : List Bk) (k : Nat) (h : k < bs.length) : gath bs (k + 1) = (if bs[k].id ∉ ids (bs.take k) ∧ dn (ids (bs.take k)) < 64 then gath bs k ++ pts bs[k] else gath bs k) := by
  unfold gath
  rw [take_one bs k h, gather_snoc, List.nil_append]
theorem ids_succ (bs : List Bk) (k : Nat) (h : k < bs.length) : ids (bs.take (k + 1)) = ids (bs.take k) ++ [bs[k].id] := by
  unfold ids; rw [take_one bs k h, List.map_append, List.map_singleton]
theorem pts_len (b : Bk) : (pts b).length = FM.points b.wt := by unfold pts; rw [List.length_map, List.length_range]
theorem pts_succ (b : Bk) (j : Nat) (h : j < FM.points b.wt) : (pts b).take (j + 1) = (pts b).take j ++ [(hpt b.id.toNat j, b.id.toNat)] := by
  rw [take_one _ j (by rw [pts_len]; exact h)]
  congr 2
  unfold pts
  rw [List.getElem_map, List.getElem_range]
theorem gath_len (bs : List Bk) : ∀ k, k ≤ bs.length → (gath bs k).length ≤ 256 * k := by
  intro k
  induction k with
  | zero => intro _; exact Nat.le_refl _
  | succ k ih =>
    intro h
    have h1 := ih (by omega)
    have h2 := FM.points_le bs[k].wt
    rw [gath_succ bs k (by omega)]
    split
    · rw [List.length_append, pts_len]; omega
    · omega

end Go.Proofs.Ytgonagkhnkhcnaa
