import Derived.Test.YtgonagkhnkhcnaaPlain
import Derived.Test.YtgonagkhnkhcnaaCmp2
import Derived.Test.YtgonagkhnkhcnaaPlaceA
/- The points are put in order: slices.SortFunc at a row of points. -/
namespace Go.Proofs.Ytgonagkhnkhcnaa
set_option maxRecDepth 100000
open Go.RowKit
open Go.Sort (grow HoldsK SWO PermIn SortedIn flatK)
theorem ptcmp_lt (x y : Nat × Nat) : ltOf ptcmp x y = decide (x.1 < y.1 ∨ (x.1 = y.1 ∧ x.2 < y.2)) := by
  unfold ltOf ptcmp orI cmpI
  rw [Bool.eq_iff_iff, decide_eq_true_iff, decide_eq_true_iff]
  split <;> (try split) <;> (try split) <;> omega
theorem ptswo : SWO (ltOf ptcmp) where
  irrefl x := by rw [ptcmp_lt]; exact decide_eq_false (by omega)
  trans x y z h1 h2 := by
    rw [ptcmp_lt] at *
    have a := of_decide_eq_true h1
    have b := of_decide_eq_true h2
    exact decide_eq_true (by omega)
  ntrans x y z h1 h2 := by
    rw [ptcmp_lt] at *
    have a := of_decide_eq_false h1
    have b := of_decide_eq_false h2
    exact decide_eq_false (by omega)
theorem cmp_lays (blk off size : Nat) (w : World) : CmpLays Try.prog 38 #[] pcells 2 ptcmp blk off size w :=
  fun _ _ _ _ x y => closure_any x.1 x.2 y.1 y.2 _
theorem flatK_flat (d : Array (Nat × Nat)) : (flatK pcells 2 d).toList = flat d.toList := by
  apply List.ext_getElem?
  intro t
  by_cases ht : t < d.size * 2
  · have e1 : (flatK pcells 2 d).toList[t]? = some (flatK pcells 2 d)[t]! := by
      rw [getElem!_pos _ t (by rw [Go.Sort.size_flatK]; exact ht), Array.getElem?_toList, Array.getElem?_eq_getElem (by rw [Go.Sort.size_flatK]; exact ht)]
    rw [e1, Go.Sort.get_flatK _ _ _ _ ht]
    have hi : t / 2 < d.size := by omega
    obtain ⟨h1, h2⟩ := flat_get d.toList (t / 2) (by simpa using hi)
    rw [getElem!_pos d (t / 2) hi]
    simp only [Array.getElem_toList] at h1 h2
    rcases Nat.mod_two_eq_zero_or_one t with h | h
    · rw [h]
      have : t / 2 * 2 = t := by omega
      rw [this] at h1
      rw [h1]; rfl
    · rw [h]
      have : t / 2 * 2 + 1 = t := by omega
      rw [this] at h2
      rw [h2]; rfl
  · rw [List.getElem?_eq_none (by simp; omega), List.getElem?_eq_none (by rw [flat_len]; simp; omega)]
theorem row_holds {B g cap : Nat} {ps : List (Nat × Nat)} {w : World} (h : Row B (.slice (some ⟨g, 0, none⟩) ps.length cap) ps w) : HoldsK pcells 2 w g 0 ps.toArray := by
  intro j hj
  rw [Go.Sort.size_flatK] at hj
  have hj2 : j < ps.length * 2 := by simpa using hj
  have e : (flatK pcells 2 ps.toArray)[j]! = (flat ps)[j]'(by rw [flat_len]; exact hj2) := by
    have h1 := congrArg (fun l => l[j]?) (flatK_flat ps.toArray)
    simp only at h1
    rw [List.getElem?_eq_getElem (show j < (flat ps.toArray.toList).length by rw [flat_len]; exact hj2), Array.getElem?_toList, Array.getElem?_eq_getElem (by rw [Go.Sort.size_flatK]; exact hj)] at h1
    rw [getElem!_pos _ j (by rw [Go.Sort.size_flatK]; exact hj)]
    exact Option.some.inj h1
  rw [e, Nat.zero_add]
  have hadd : (⟨g, 0, none⟩ : Addr).add j = ⟨g, j, none⟩ := by unfold Addr.add; split <;> simp_all
  constructor
  · rw [← hadd]
    exact World.ownsRow.cells h rfl j _ (List.getElem?_eq_getElem _)
  · rcases h.2 with ⟨e1, _⟩ | ⟨g', cap', cur, e1, _, e3, _⟩
    · cases e1
    · injection e1 with e1 _ _
      injection e1 with e1
      injection e1 with e1
      subst e1
      exact Lib.frozen_of_heap e3 j
theorem sort_world {B g cap : Nat} {ps : List (Nat × Nat)} {w : World} (h : Row B (.slice (some ⟨g, 0, none⟩) ps.length cap) ps w) (d' : Array (Nat × Nat)) (hd : d'.size = ps.length) (n : Nat) (os : Array Obj) :
    Row B (.slice (some ⟨g, 0, none⟩) ps.length cap) d'.toList (sortWorldK pcells 2 w g 0 n d' os) ∧ (∀ b, b < w.heap.size → b ≠ g → (sortWorldK pcells 2 w g 0 n d' os).heap[b]? = w.heap[b]?) ∧
    (w.heap.size ≤ (sortWorldK pcells 2 w g 0 n d' os).heap.size) ∧ Below g w (sortWorldK pcells 2 w g 0 n d' os) := by
  have hheap : (sortWorldK pcells 2 w g 0 n d' os).heap = (w.heap.modify g (Go.Sort.onCells (Go.Sort.putCells id 0 (flatK pcells 2 d')))) ++ os := rfl
  have hsz : w.heap.size ≤ (sortWorldK pcells 2 w g 0 n d' os).heap.size := by rw [hheap]; simp
  have hoth : ∀ b, b < w.heap.size → b ≠ g → (sortWorldK pcells 2 w g 0 n d' os).heap[b]? = w.heap[b]? := fun b hb hne => by
    rw [hheap, Array.getElem?_append_left (by simpa using hb), Array.getElem?_modify, if_neg (fun e => hne e.symm)]
  refine ⟨⟨?_, ?_⟩, hoth, hsz, ⟨rfl, rfl, rfl, hsz, fun k hk => ?_⟩⟩
  · rw [flat_len]
  · rcases h.2 with ⟨e1, _⟩ | ⟨g', cap', cur, e1, e2, e3, e4, e5, e6, e7⟩
    · cases e1
    · injection e1 with e1 e8 e9
      injection e1 with e1
      injection e1 with e1
      subst e1 e9
      have e8' : d'.toList.length = ps.length := by rw [Array.length_toList, hd]
      refine .inr ⟨g, cap, Go.Sort.putCells id 0 (flatK pcells 2 d') cur, by rw [e8'], e2, ?_, by rw [Array.length_toList, hd]; exact e4, e5, ?_, ?_⟩
      · rw [hheap, Array.getElem?_append_left (by simpa using heap_lt e3), Array.getElem?_modify, if_pos rfl, e3]; rfl
      · unfold Go.Sort.putCells; rw [Array.size_mapIdx]; exact e6
      · rw [← flatK_flat]
        apply List.ext_getElem?
        intro t
        rw [Array.length_toList]
        by_cases ht : t < d'.size * 2
        · rw [List.getElem?_take, if_pos ht, Array.getElem?_toList, Array.getElem?_toList]
          unfold Go.Sort.putCells
          rw [Array.getElem?_mapIdx, Array.getElem?_eq_getElem (show t < cur.size by omega), Array.getElem?_eq_getElem (by rw [Go.Sort.size_flatK]; exact ht)]
          simp only [Option.map_some]
          rw [if_pos ⟨Nat.zero_le _, by rw [Go.Sort.size_flatK]; omega⟩, Nat.sub_zero, getElem!_pos _ t (by rw [Go.Sort.size_flatK]; exact ht)]
          rfl
        · rw [List.getElem?_take, if_neg ht, List.getElem?_eq_none (by simp; omega)]
  · rcases h.2 with ⟨e1, _⟩ | ⟨g', cap', cur, e1, e2, e3, _⟩
    · cases e1
    · injection e1 with e1 _ _
      injection e1 with e1
      injection e1 with e1
      subst e1
      exact hoth k (Nat.lt_trans hk (heap_lt e3)) (by omega)
theorem toArray_extract (ps : List (Nat × Nat)) (n : Nat) (h : n = ps.length) : (ps.toArray.extract 0 n).toList = ps := by
  subst h; simp
theorem sort_any (B R g cap : Nat) (ps : List (Nat × Nat)) (w : World) (hr : RingAt B R (.slice (some ⟨g, 0, none⟩) ps.length cap) ps w) (hl : ps.length ≤ 1000000) :
    Calls Try.prog 37 #[.slice (some ⟨g, 0, none⟩) ps.length cap, .func (.func 38) #[] #[]] w fun e w' => e = .returned (.tuple #[]) ∧ (∃ ps', ps'.Perm ps ∧ ps'.Pairwise ptle ∧ RingAt B R (.slice (some ⟨g, 0, none⟩) ps.length cap) ps' w') ∧ Below B w w' := by
  have eg : ∀ args w, (callFunc 38 args).run Try.prog w = .ok (.enter 38 args) w := enters_of Try.func38 (by kernel_rfl) rfl
  have hgs : B ≤ g ∧ g < w.heap.size := hr.row.lt g rfl
  have hcon := AnyQ.slices_SortFunc Try.sortPt 2 Try.isAgg78 Try.sizeOf78 pcells (fun _ => rfl) (fun x v hv => by unfold pcells at hv; simp at hv; rcases hv with rfl | rfl <;> rfl) ptcmp ptswo 38 #[] g 0 cap ps.toArray w eg (cmp_lays g 0 ps.toArray.size w) (row_holds hr.row) hgs.2 (by simp; omega)
  change Calls Try.prog 37 #[.slice (some ⟨g, 0, none⟩) ps.length cap, .func (.func 38) #[] #[]] w _ at hcon
  refine hcon.mono ?_
  rintro e w' ⟨rfl, d', n, os, hp, hs, rfl⟩
  have hd : d'.size = ps.length := by have := hp.1; simpa using this
  obtain ⟨h1, h2, h3, h4⟩ := sort_world hr.row d' hd n os
  have hRg : R ≠ g := fun e => hr.vR (by rw [e]; rfl)
  refine ⟨rfl, ⟨d'.toList, ?_, ?_, ?_, h1, hr.vR, hr.bR⟩, h4.mono hgs.1⟩
  · have := hp.2.2
    rw [show (d'.extract 0 ps.toArray.size).toList = d'.toList by rw [show ps.toArray.size = d'.size by rw [hd]; simp]; simp, toArray_extract ps _ (by simp)] at this
    exact this
  · rw [List.pairwise_iff_getElem]
    intro i j hi hj hij
    have := hs i j (Nat.zero_le _) hij (by rw [Array.length_toList] at hj; simpa [hd] using hj)
    rw [ptcmp_lt, getElem!_pos d' i (by simpa using hi), getElem!_pos d' j (by simpa using hj)] at this
    have := of_decide_eq_false this
    simp only [Array.getElem_toList]
    unfold ptle
    omega
  · rw [h2 R (heap_lt hr.hR) hRg]; exact hr.hR
set_option maxRecDepth 100000 in
set_option maxHeartbeats 1000000 in
theorem sort_none (w : World) :
    Calls Try.prog 37 #[.slice none 0 0, .func (.func 38) #[] #[]] w fun e w' => e = .returned (.tuple #[]) ∧ Below w.heap.size w w' := by
  go_enter Try.func37, Try.ntmps37
  go_wp2_with go_in
  refine wp_loop_rounds 2 ?_
  rw [rounds_succ]
  go_wp2_with go_in
  refine wp_loop_rounds 2 ?_
  rw [rounds_succ]
  go_wp2_with go_in
  go_end0
  go_wp2_with go_in
  (try simp only [Exit.inBlock, Exit.then]); refine bodyPost_ret (results_none rfl _ _ _) rfl ?_
  go_wp2_with go_in
  go_end0
  exact ⟨rfl, Below.refl _ _⟩

end Go.Proofs.Ytgonagkhnkhcnaa
