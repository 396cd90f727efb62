import Derived.Test.YtgonagkhnkhcnaaLawsA
import Derived.Maps.AppendAt
import Derived.Deep.RegionLawGrows
/- A row of backends that is made by appends of parts of one that came in. -/
namespace Go.Proofs.Ytgonagkhnkhcnaa
set_option maxRecDepth 100000
open Go.RowKit
def bcells (b : Bk) : List Value := [.int .i64 b.id, .string b.addr, .float .f64 b.wt]
def bflat (bs : List Bk) : List Value := bs.flatMap bcells
theorem bflat_app (a b : List Bk) : bflat (a ++ b) = bflat a ++ bflat b := by unfold bflat; rw [List.flatMap_append]
theorem bflat_len (bs : List Bk) : (bflat bs).length = bs.length * 3 := by
  induction bs with
  | nil => rfl
  | cons p t ih => show (bcells p ++ bflat t).length = _; rw [List.length_append, ih]; show 3 + _ = _; rw [List.length_cons]; omega
theorem bflat_get (bs : List Bk) : ∀ i (h : i < bs.length), (bflat bs)[i * 3]? = some (.int .i64 bs[i].id) ∧ (bflat bs)[i * 3 + 1]? = some (.string bs[i].addr) ∧ (bflat bs)[i * 3 + 2]? = some (.float .f64 bs[i].wt) := by
  induction bs with
  | nil => intro i h; cases h
  | cons b t ih =>
    intro i h
    cases i with
    | zero => exact ⟨rfl, rfl, rfl⟩
    | succ i =>
      have hi : i < t.length := by simpa using h
      obtain ⟨h1, h2, h3⟩ := ih i hi
      have e : ∀ j, (bflat (b :: t))[j + 3]? = (bflat t)[j]? := fun j => by
        show (bcells b ++ bflat t)[j + 3]? = _
        rw [List.getElem?_append_right (by show 3 ≤ j + 3; omega)]
        show (bflat t)[j + 3 - 3]? = _
        rw [Nat.add_sub_cancel]
      refine ⟨?_, ?_, ?_⟩
      · rw [show (i + 1) * 3 = i * 3 + 3 by omega, e]; exact h1
      · rw [show (i + 1) * 3 + 1 = (i * 3 + 1) + 3 by omega, e]; exact h2
      · rw [show (i + 1) * 3 + 2 = (i * 3 + 2) + 3 by omega, e]; exact h3
theorem bflat_at (bs : List Bk) (j : Nat) (u : Value) (h : (bflat bs)[j]? = some u) : ∃ i, ∃ hi : i < bs.length, (j = i * 3 ∧ u = .int .i64 bs[i].id) ∨ (j = i * 3 + 1 ∧ u = .string bs[i].addr) ∨ (j = i * 3 + 2 ∧ u = .float .f64 bs[i].wt) := by
  obtain ⟨hj, _⟩ := List.getElem?_eq_some_iff.1 h
  rw [bflat_len] at hj
  have hi : j / 3 < bs.length := by omega
  obtain ⟨h1, h2, h3⟩ := bflat_get bs (j / 3) hi
  refine ⟨j / 3, hi, ?_⟩
  have hm : j % 3 = 0 ∨ j % 3 = 1 ∨ j % 3 = 2 := by omega
  rcases hm with hm | hm | hm
  · have e : j = j / 3 * 3 := by omega
    rw [← e, h] at h1
    exact .inl ⟨e, Option.some.inj h1⟩
  · have e : j = j / 3 * 3 + 1 := by omega
    rw [← e, h] at h2
    exact .inr (.inl ⟨e, Option.some.inj h2⟩)
  · have e : j = j / 3 * 3 + 2 := by omega
    rw [← e, h] at h3
    exact .inr (.inr ⟨e, Option.some.inj h3⟩)
theorem spot_none {w : World} {x : Addr} {u : Value} (h : w.cell? x = some u) : x.spot = none := by
  unfold World.cell? at h
  split at h
  · split at h
    · cases h
    · rename_i hs
      simpa using hs
  · cases h
/-- a part's cells, read one behind the other -/
theorem part_cells {w : World} {x : Addr} {all : List Bk} (hin : BkIn w (some x) all) (t m : Nat) (htm : t + m ≤ all.length) (j : Nat) (u : Value) (h : (bflat ((all.drop t).take m))[j]? = some u) :
    w.cell? ((x.add (t * 3)).add j) = some u := by
  obtain ⟨i, hi, h⟩ := bflat_at _ _ _ h
  have hlen : ((all.drop t).take m).length = m := by rw [List.length_take, List.length_drop]; omega
  have hi' : t + i < all.length := by omega
  have he : ((all.drop t).take m)[i] = all[t + i] := by rw [List.getElem_take, List.getElem_drop]
  rw [he] at h
  obtain ⟨x', hx, c0, c1, c2⟩ := hin (t + i) hi'
  obtain rfl := Option.some.inj hx
  have hsx : x.spot = none := by
    obtain ⟨x'', hx2, d0, _⟩ := hin 0 (by omega)
    obtain rfl := Option.some.inj hx2
    exact spot_none (by simpa [Addr.add] using d0)
  obtain ⟨b, o, s⟩ := x
  obtain rfl : s = none := hsx
  have ea : ∀ n, (⟨b, o, none⟩ : Addr).add n = ⟨b, o + n, none⟩ := fun n => by unfold Addr.add; split <;> simp_all
  have eb : ∀ p n, (⟨b, p, none⟩ : Addr).add n = ⟨b, p + n, none⟩ := fun p n => by unfold Addr.add; split <;> simp_all
  rw [ea] at c0 c1 c2
  rw [ea, eb]
  rcases h with ⟨rfl, rfl⟩ | ⟨rfl, rfl⟩ | ⟨rfl, rfl⟩
  · rw [show o + t * 3 + i * 3 = o + (t + i) * 3 by omega]; exact c0
  · rw [show o + t * 3 + (i * 3 + 1) = o + (t + i) * 3 + 1 by omega]; exact c1
  · rw [show o + t * 3 + (i * 3 + 2) = o + (t + i) * 3 + 2 by omega]; exact c2
structure BSt (B : Nat) (w0 : World) (v : Value) (bs : List Bk) (w : World) : Prop where
  row : w.ownsRow B 32 3 v bs.length (bflat bs)
  le : B ≤ w.heap.size
  bel : Below B w0 w
theorem info30 : ∃ i, Try.prog.info? 32 = some i ∧ i.zero = some (.agg #[.int .i64 0, .string ⟨#[]⟩, .float .f64 0]) ∧ i.size = 3 ∧ i.bytes = 32 := by
  have h : (Try.prog.info? 32).map (fun i => (i.zero, i.size, i.bytes)) = some (some (.agg #[.int .i64 0, .string ⟨#[]⟩, .float .f64 0]), 3, 32) := by kernel_rfl
  exact info_parts h
section
variable {B : Nat} {w0 : World} {v : Value} {bs : List Bk} {w : World}
theorem BSt.drew (h : BSt B w0 v bs w) : BSt B w0 v bs w.drew := ⟨h.row, h.le, h.bel.drew⟩
theorem BSt.fresh (hb : Below B w0 w) (hB : B ≤ w.heap.size) : BSt B w0 (.slice (some ⟨w.heap.size, 0, none⟩) 0 0) [] (w.alloc (.cells #[] 32)) := by
  refine ⟨⟨rfl, .inr ⟨w.heap.size, 0, #[], rfl, hB, ?_, Nat.le_refl _, by unfold maxLen; omega, rfl, rfl⟩⟩, ?_, hb.alloc hB _⟩
  · show (w.heap.push _)[w.heap.size]? = _; simp
  · rw [World.size_alloc]; omega
theorem BSt.append (h : BSt B w0 v bs w) (ty : TypeId) (ad : Addr) (m c : Nat) (news : List Bk) (hm : news.length = m)
    (hnews : ∀ j u, (bflat news)[j]? = some u → w.cell? (ad.add j) = some u) (hlen : bs.length + m ≤ 1000) :
    ∃ v' w', (Builtin.append_ #[38, 38] ty #[v, .slice (some ad) m c]).run Try.prog w = .ok v' w' ∧ BSt B w0 v' (bs ++ news) w' := by
  subst hm
  obtain ⟨i0, hi, hz0, hz1, hz2⟩ := info30
  obtain ⟨v', w', hr, h2, h3, _, h5⟩ := run_append_own_at (P := Try.prog) w B 38 ty 32 i0 _ 3 32 Try.underlying38 hi hz0 hz1 hz2 rfl (by decide) v bs.length (bflat bs) h.row ad news.length c (bflat news) (bflat_len _) hnews
    (fun u hu => by
      unfold bflat at hu
      rw [List.mem_flatMap] at hu
      obtain ⟨b, _, hu⟩ := hu
      unfold bcells at hu
      simp at hu
      rcases hu with rfl | rfl | rfl <;> rfl) (by unfold maxLen; omega) (by omega) h.le
  refine ⟨v', w', hr, ?_, Nat.le_trans h.le (grown_size h3), h.bel.grown h3 h.le (fun q hq => (World.ownsRow.lt h.row q hq).1)⟩
  show w'.ownsRow B 32 3 v' (bs ++ news).length (bflat (bs ++ news))
  rw [List.length_append, bflat_app]
  exact h2
theorem BSt.nil (h : BSt B w0 v bs w) (ty : TypeId) :
    ∃ v' w', (Builtin.append_ #[38, 38] ty #[v, .slice none 0 0]).run Try.prog w = .ok v' w' ∧ BSt B w0 v' bs w' := by
  rcases h.row.2 with ⟨h1, h2⟩ | ⟨g, cap, cur, h1, h2, h3, h4, h5, h6, h7⟩
  · refine ⟨v, w, ?_, h⟩
    subst h1
    simp [Builtin.append_, Builtin.lenOf, Builtin.firstCells]
  · refine ⟨v, w, ?_, h⟩
    subst h1
    simp [Builtin.append_, Builtin.lenOf, Builtin.firstCells, h4, storeCells]
theorem BSt.part (h : BSt B w0 v bs w) {x : Addr} {all : List Bk} (hsrc : BkIn w (some x) all) (ty : TypeId) (t m c : Nat) (htm : t + m ≤ all.length) (ad : Addr) (had : 0 < m → ad = x.add (t * 3)) (hlen : bs.length + m ≤ 1000) :
    ∃ v' w', (Builtin.append_ #[38, 38] ty #[v, .slice (some ad) m c]).run Try.prog w = .ok v' w' ∧ BSt B w0 v' (bs ++ (all.drop t).take m) w' := by
  have hl : ((all.drop t).take m).length = m := by rw [List.length_take, List.length_drop]; omega
  refine h.append ty ad m c _ hl (fun j u hu => ?_) hlen
  rcases Nat.eq_zero_or_pos m with rfl | hm
  · simp [bflat] at hu
  · rw [had hm]; exact part_cells hsrc t m htm j u hu
theorem BSt.rest (h : BSt B w0 v bs w) {x : Addr} {all : List Bk} (hsrc : ∀ W, Below B w0 W → BkIn W (some x) all) (ty : TypeId) (t c' m : Nat) (ht : t ≤ all.length) (hm : m = all.length - t) (oa : Option Addr) (ad : Addr) (hoa : oa = some ad) (had : t < all.length → ad = x.add (t * 3)) (hlen : bs.length + all.length ≤ 1000) :
    ∃ v' w', (Builtin.append_ #[38, 38] ty #[v, .slice oa m c']).run Try.prog w = .ok v' w' ∧ BSt B w0 v' (bs ++ all.drop t) w' := by
  subst hoa
  have h1 := h.part (hsrc w h.bel) ty t m c' (by omega) ad (fun h => had (by omega)) (by omega)
  have e : (all.drop t).take m = all.drop t := List.take_of_length_le (by rw [List.length_drop]; omega)
  rw [e] at h1; exact h1
theorem BSt.front (h : BSt B w0 v bs w) {x : Addr} {all : List Bk} (hsrc : ∀ W, Below B w0 W → BkIn W (some x) all) (ty : TypeId) (t c' : Nat) (ht : t ≤ all.length) (hlen : bs.length + all.length ≤ 1000) :
    ∃ v' w', (Builtin.append_ #[38, 38] ty #[v, .slice (some x) t c']).run Try.prog w = .ok v' w' ∧ BSt B w0 v' (bs ++ all.take t) w' := by
  have h1 := h.part (hsrc w h.bel) ty 0 t c' (by omega) x (fun _ => by simp [Addr.add]) (by omega)
  rw [List.drop_zero] at h1; exact h1
theorem BSt.fresh' {g : Nat} (hg : g = w.heap.size) (hb : Below B w0 w) (hB : B ≤ w.heap.size) : BSt B w0 (.slice (some ⟨g, 0, none⟩) 0 0) [] (w.alloc (.cells #[] 32)) := by subst hg; exact BSt.fresh hb hB
/-- the row, as backends in memory -/
structure MRow (B : Nat) (a : Option Addr) (ms : List Bk) (w : World) : Prop where
  inn : BkIn w a ms
  own : 0 < ms.length → ∃ g cur, a = some ⟨g, 0, none⟩ ∧ B ≤ g ∧ w.heap[g]? = some (.cells cur 32 (0, 0)) ∧ ms.length * 3 ≤ cur.size
theorem BSt.open (h : BSt B w0 v bs w) : ∃ a cap, v = .slice a bs.length cap ∧ bs.length ≤ cap ∧ MRow B a bs w := by
  rcases h.row.2 with ⟨h1, h2⟩ | ⟨g, cap, cur, h1, h2, h3, h4, h5, h6, h7⟩
  · subst h1
    have hl := bflat_len bs
    have hz : bs.length = 0 := by
      rcases Nat.eq_zero_or_pos bs.length with h | h
      · exact h
      · exfalso; simp_all
    rw [hz]
    exact ⟨none, 0, rfl, Nat.le_refl _, fun j hj => by omega, fun hp => by omega⟩
  · subst h1
    refine ⟨some ⟨g, 0, none⟩, cap, rfl, h4, ?_, fun _ => ⟨g, cur, rfl, h2, h3, ?_⟩⟩
    · intro j hj
      obtain ⟨d0, d1, d2⟩ := bflat_get bs j hj
      have hc : ∀ i u, (bflat bs)[i]? = some u → w.cell? ⟨g, i, none⟩ = some u := fun i u hu => by
        have h1 := World.ownsRow.cells h.row (g := g) rfl i u hu
        have e : (⟨g, 0, none⟩ : Addr).add i = ⟨g, i, none⟩ := by unfold Addr.add; split <;> simp_all
        rw [e] at h1; exact h1
      refine ⟨_, rfl, ?_, ?_, ?_⟩
      · have := hc _ _ d0; unfold Addr.add; split <;> simp_all
      · have := hc _ _ d1; unfold Addr.add; split <;> simp_all
      · have := hc _ _ d2; unfold Addr.add; split <;> simp_all
    · have := Nat.mul_le_mul_right 3 h4; omega
theorem MRow.below {a : Option Addr} {ms : List Bk} {w w' : World} (h : MRow B a ms w) (hb : Below w.heap.size w w') : MRow B a ms w' := by
  refine ⟨h.inn.below hb, fun hp => ?_⟩
  obtain ⟨g, cur, h1, h2, h3, h4⟩ := h.own hp
  exact ⟨g, cur, h1, h2, by rw [hb.block g (heap_lt h3)]; exact h3, h4⟩
theorem cell_put {w : World} {g i : Nat} {cur : Array Value} {t : TypeId} (h : w.heap[g]? = some (.cells cur t (0, 0))) (hi : i < cur.size) (v : Value) :
    (w.setCell ⟨g, i, none⟩ v).heap[g]? = some (.cells (cur.set i v) t (0, 0)) ∧ ∀ j, (w.setCell ⟨g, i, none⟩ v).cell? ⟨g, j, none⟩ = if j = i then some v else w.cell? ⟨g, j, none⟩ := by
  have hg := heap_lt h
  have e : (w.setCell ⟨g, i, none⟩ v).heap[g]? = some (.cells (cur.set i v) t (0, 0)) := by
    unfold World.setCell
    simp only [Array.getElem?_modify, if_pos]
    rw [h]
    simp [hi, Array.setIfInBounds]
  refine ⟨e, fun j => ?_⟩
  unfold World.cell?
  rw [e, h]
  simp only [Option.isSome_none, Bool.false_eq_true, if_false]
  by_cases hj : j = i
  · subst hj; simp [hi]
  · rw [if_neg hj, Array.getElem?_set_ne _ (by omega)]
/-- one address is another -/
theorem MRow.put {g : Nat} {ms : List Bk} {w : World} (h : MRow B (some ⟨g, 0, none⟩) ms w) (k : Nat) (hk : k < ms.length) (ad : ByteArray) :
    MRow B (some ⟨g, 0, none⟩) (ms.set k ⟨ms[k].id, ad, ms[k].wt⟩) (w.setCell ⟨g, k * 3 + 1, none⟩ (.string ad)) := by
  obtain ⟨g', cur, h1, h2, h3, h4⟩ := h.own (by omega)
  injection h1 with h1
  injection h1 with h1 _ _
  subst h1
  obtain ⟨e1, e2⟩ := cell_put h3 (i := k * 3 + 1) (by omega) (.string ad)
  refine ⟨fun j hj => ?_, fun _ => ⟨g, _, rfl, h2, e1, by simpa using h4⟩⟩
  rw [List.length_set] at hj
  obtain ⟨x, hx, c0, c1, c2⟩ := h.inn j hj
  obtain rfl := Option.some.inj hx
  have ea : ∀ n, (⟨g, 0, none⟩ : Addr).add n = ⟨g, n, none⟩ := fun n => by unfold Addr.add; split <;> simp_all
  rw [ea] at c0 c1 c2
  refine ⟨_, rfl, ?_⟩
  rw [ea]
  simp only at c0 c1 c2 ⊢
  rw [e2, e2, e2]
  by_cases hjk : j = k
  · subst hjk
    rw [if_neg (by omega), if_pos rfl, if_neg (by omega), List.getElem_set_self]
    exact ⟨c0, rfl, c2⟩
  · rw [if_neg (by omega), if_neg (by omega), if_neg (by omega), List.getElem_set_ne (by omega)]
    exact ⟨c0, c1, c2⟩
end
end Go.Proofs.Ytgonagkhnkhcnaa
