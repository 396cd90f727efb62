import Derived.Test.YtgonagkhnkhcnaaPoolList
import Derived.Test.YtgonagkhnkhcnaaMovesP
/- (*Pool).turn. -/
namespace Go.Proofs.Ytgonagkhnkhcnaa
set_option maxRecDepth 100000
open Go.RowKit
structure Good (L : List Bk) : Prop where
  risen : risen L
  few : L.length ≤ 64
  ok : L.all bk_ok = true
  plus : ∀ b ∈ L, b.wt < 9223372036854775808
theorem risen_nodup {L : List Bk} (h : risen L) : (ids L).Nodup := by
  unfold ids
  rw [List.nodup_iff_pairwise_ne, List.pairwise_map]
  exact h.imp (fun hlt e => by omega)
theorem Good.zero {L : List Bk} (h : Good L) : newE L = 0 := (newE_zero L).2 ⟨h.ok, risen_nodup h.risen, h.few⟩
theorem ok_wf {b : Bk} (h : bk_ok b = true) : b.addr.size ≤ maxLen ∧ (Lit.int .i64 b.id).wf = true := by
  unfold bk_ok at h
  simp only [Bool.and_eq_true, decide_eq_true_eq] at h
  obtain ⟨⟨⟨h1, h2⟩, h3⟩, h4⟩ := h
  refine ⟨by rw [h3]; unfold maxLen; omega, ?_⟩
  simp only [Lit.wf, Bool.and_eq_true, decide_eq_true_eq]
  have e1 : IntKind.i64.min = -9223372036854775808 := rfl
  have e2 : IntKind.i64.max = 9223372036854775807 := rfl
  omega
theorem Good.bkok {L : List Bk} (h : Good L) : BkOk L := fun b hb => by
  have h1 := List.all_eq_true.1 h.ok b hb
  have h2 := h.plus b hb
  exact ⟨by unfold W64; omega, ok_wf h1⟩
def fnv (R : Nat) : Value := .func (.func 29) #[.pointer (some ⟨R, 0, none⟩)] #[]
structure PoolAt (B P M : Nat) (L : List Bk) (ps : List (Nat × Nat)) (w : World) : Prop where
  ring : ∃ R u, w.heap[P]? = some (.cells #[.map (some M), fnv R] 53 (0, 0)) ∧ RingAt B R u ps w
  pm : PM M L w
  perm : ps.Perm (allPts L)
  sorted : ps.Pairwise ptle
  good : Good L
  bP : B ≤ P
  bM : B ≤ M
theorem PoolAt.below {B P M : Nat} {L : List Bk} {ps : List (Nat × Nat)} {w w' : World} (h : PoolAt B P M L ps w) (hb : Below w.heap.size w w') : PoolAt B P M L ps w' := by
  obtain ⟨R, u, h1, h2⟩ := h.ring
  exact ⟨⟨R, u, by rw [hb.block P (heap_lt h1)]; exact h1, h2.below hb⟩, h.pm.below hb, h.perm, h.sorted, h.good, h.bP, h.bM⟩
theorem BRow.open {B : Nat} {v : Value} {bs : List Bk} {w : World} (h : BRow B v bs w) : ∃ a cap, v = .slice a bs.length cap ∧ BkIn w a bs := by
  rcases h.2 with ⟨h1, h2⟩ | ⟨g, cap, cur, h1, h2, h3, h4, h5, h6, h7⟩
  · subst h1
    have hl := bflat_len bs
    have hz : bs.length = 0 := by
      rcases Nat.eq_zero_or_pos bs.length with h | h
      · exact h
      · exfalso; simp_all
    rw [hz]
    exact ⟨none, 0, rfl, fun j hj => by omega⟩
  · subst h1
    refine ⟨some ⟨g, 0, none⟩, cap, rfl, fun j hj => ?_⟩
    obtain ⟨d0, d1, d2⟩ := bflat_get bs j hj
    have hc : ∀ i u, (bflat bs)[i]? = some u → w.cell? ⟨g, i, none⟩ = some u := fun i u hu => by
      have h1 := World.ownsRow.cells h (g := g) rfl i u hu
      have e : (⟨g, 0, none⟩ : Addr).add i = ⟨g, i, none⟩ := by unfold Addr.add; split <;> simp_all
      rw [e] at h1; exact h1
    refine ⟨_, rfl, ?_, ?_, ?_⟩
    · have := hc _ _ d0; unfold Addr.add; split <;> simp_all
    · have := hc _ _ d1; unfold Addr.add; split <;> simp_all
    · have := hc _ _ d2; unfold Addr.add; split <;> simp_all
theorem store_fn (w : World) (a : Addr) (R : Nat) (m : Mode) : (store a (.func (.func 29) #[.pointer (some ⟨R, 0, none⟩)] #[]) m).run Try.prog w = stored Try.prog w a (.func (.func 29) #[.pointer (some ⟨R, 0, none⟩)] #[]) m := run_store Try.prog w a _ m rfl
theorem row_same {B : Nat} {v : Value} {ps : List (Nat × Nat)} {w w' : World} (h : Row B v ps w) (hs : ∀ k, v.ownBlock = some k → w'.heap[k]? = w.heap[k]?) : Row B v ps w' := by
  rcases h with ⟨h1, h2⟩
  refine ⟨h1, ?_⟩
  rcases h2 with h2 | ⟨g, cap, cur, rfl, e2, e3, e4⟩
  · exact .inl h2
  · exact .inr ⟨g, cap, cur, rfl, e2, by rw [hs g rfl]; exact e3, e4⟩
theorem RingAt.same {B R : Nat} {v : Value} {ps : List (Nat × Nat)} {w w' : World} (h : RingAt B R v ps w) (hR : w'.heap[R]? = w.heap[R]?) (hs : ∀ k, v.ownBlock = some k → w'.heap[k]? = w.heap[k]?) : RingAt B R v ps w' :=
  ⟨by rw [hR]; exact h.hR, row_same h.row hs, h.vR, h.bR⟩
theorem PM.same {M : Nat} {L : List Bk} {w w' : World} (h : PM M L w) (hs : w'.heap[M]? = w.heap[M]?) : PM M L w' := by
  obtain ⟨D, ⟨es, clock, e1, e2⟩, h2⟩ := h
  exact ⟨D, ⟨es, clock, by rw [hs]; exact e1, e2⟩, h2⟩
theorem ring_mono {B B' R : Nat} {u : Value} {ps : List (Nat × Nat)} {w : World} (h : RingAt B' R u ps w) (hB : B ≤ B') : RingAt B R u ps w := by
  refine ⟨h.hR, ?_, h.vR, Nat.le_trans hB h.bR⟩
  obtain ⟨h1, h2⟩ := h.row
  refine ⟨h1, ?_⟩
  rcases h2 with h2 | ⟨g, cap, cur, e1, e2, e3⟩
  · exact .inl h2
  · exact .inr ⟨g, cap, cur, e1, Nat.le_trans hB e2, e3⟩
theorem set_other {w : World} {a : Addr} {v : Value} {k : Nat} (h : k ≠ a.block) : (w.setCell a v).heap[k]? = w.heap[k]? := by
  unfold World.setCell
  simp only [Array.getElem?_modify]
  rw [if_neg (fun e => h e.symm)]
theorem PM.obj {M : Nat} {L : List Bk} {w : World} (h : PM M L w) : ∃ es clock, w.heap[M]? = some (.map es clock) := by
  obtain ⟨D, ⟨es, clock, e1, _⟩, _⟩ := h
  exact ⟨es, clock, e1⟩
theorem cell_set {w : World} {g i : Nat} {cur : Array Value} {t : TypeId} (h : w.heap[g]? = some (.cells cur t (0, 0))) (hi : i < cur.size) (v : Value) :
    (w.setCell ⟨g, i, none⟩ v).heap[g]? = some (.cells (cur.set i v) t (0, 0)) := (cell_put h hi v).1
set_option maxHeartbeats 2000000 in
theorem turn_any (B P M : Nat) (f : Value) (L : List Bk) (w : World) (hp : w.heap[P]? = some (.cells #[.map (some M), f] 53 (0, 0))) (hm : PM M L w) (hg : Good L) (bP : B ≤ P) (bM : B ≤ M) :
    Calls Try.prog 20 #[.pointer (some ⟨P, 0, none⟩)] w fun e w' => e = .returned (.tuple #[]) ∧ (∃ ps, PoolAt B P M L ps w') ∧ Below B w w' ∧ (∀ k, k < w.heap.size → k ≠ P → w'.heap[k]? = w.heap[k]?) := by
  have c0 : w.cell? ⟨P, 0, none⟩ = some (.map (some M)) := by rw [Lib.cell_of_heap hp]; rfl
  have LI := Lib.hid (list_any P M L w c0 hm (by have := hg.few; omega) hg.risen)
  have HP := Lib.hid hp
  have HM := Lib.hid hm
  have HG := Lib.hid hg
  have hsf := fun (W : World) (c : Addr) (R : Nat) (m : Mode) => store_fn W c R m
  clear hp hm hg c0
  go_enter Try.func20, Try.ntmps20
  go_wp2_with (go_at_call 14; refine LI.out.mono ?_; rintro e w1 ⟨v, rfl, hv, hb1⟩)
  obtain ⟨a, cap, rfl, hin⟩ := hv.open
  refine (newA L a cap w1 (by have := HG.out.few; omega) hin HG.out.bkok).mono ?_
  rintro e w2 ⟨hb2, _, h9⟩
  obtain ⟨R, u, ps, rfl, r1, r2, r3⟩ := h9 HG.out.zero
  have hb02 := hb1.trans (hb2.mono hb1.size)
  have hp2 : w2.heap[P]? = some (.cells #[.map (some M), f] 53 (0, 0)) := by rw [hb02.block P (heap_lt HP.out)]; exact HP.out
  have c1 : w2.cell? ⟨P, 1, none⟩ = some f := by rw [Lib.cell_of_heap hp2]; rfl
  have f1 := Lib.frozen_of_heap hp2 1
  have HP2 := Lib.hid hp2
  have R1 := Lib.hid r1
  have R2 := Lib.hid r2
  have R3 := Lib.hid r3
  have HB1 := Lib.hid hb1
  have HB02 := Lib.hid hb02
  clear hv hin hb2 h9 r1 r2 r3 hp2 hb1 hb02 LI
  go_wp2_with (fail)
  go_end0
  have hPM : P ≠ M := fun e => by
    obtain ⟨es, clock, h1⟩ := HM.out.obj
    rw [← e, HP.out] at h1
    cases h1
  have hPs := heap_lt HP.out
  have hs1 := HB1.out.size
  have hoth : ∀ k, k ≠ P → (w2.setCell ⟨P, 1, none⟩ (fnv R)).heap[k]? = w2.heap[k]? := fun k hk => set_other hk
  refine ⟨rfl, ⟨ps, ⟨R, u, cell_set HP2.out (i := 1) (by show 1 < 2; omega) (fnv R), ?_⟩, ?_, ?_, R3.out, HG.out, bP, bM⟩, ?_, fun k hk hne => ?_⟩
  · have r1 := R1.out
    have hr := ring_mono (B := B) r1 (by omega)
    refine hr.same (hoth R (by have := r1.bR; omega)) (fun k hk => hoth k (by have := (r1.row.lt k hk).1; omega))
  · refine (HM.out.below HB02.out).same (hoth M (fun e => hPM e.symm))
  · have h2 := R2.out
    rw [gath_all L HG.out.zero] at h2; exact h2
  · exact (HB02.out.mono (by omega)).setCell bP _
  · show (w2.setCell ⟨P, 1, none⟩ (fnv R)).heap[k]? = _
    rw [hoth k hne, HB02.out.block k hk]
end Go.Proofs.Ytgonagkhnkhcnaa
