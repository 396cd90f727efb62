import Derived.Test.YtgonagkhnkhcnaaPlain
import Derived.Test.YtgonagkhnkhcnaaCmp2
import Derived.Test.YtgonagkhnkhcnaaCopy
import Derived.Test.YtgonagkhnkhcnaaSort
/- Backends are put in order of their Ids: slices.SortFunc at a row of backends. -/
namespace Go.Proofs.Ytgonagkhnkhcnaa
set_option maxRecDepth 100000
open Go.RowKit
open Go.Sort (grow alloc_eq_grow grow_grow HoldsK SWO PermIn SortedIn flatK)
instance : Inhabited Bk := ⟨⟨0, ⟨#[]⟩, 0⟩⟩
def bcmp (x y : Bk) : Int := cmpI x.id y.id
theorem bcmp_lt (x y : Bk) : ltOf bcmp x y = decide (x.id < y.id) := by
  unfold ltOf bcmp cmpI
  rw [Bool.eq_iff_iff, decide_eq_true_iff, decide_eq_true_iff]
  split <;> (try split) <;> omega
theorem bswo : SWO (ltOf bcmp) where
  irrefl x := by rw [bcmp_lt]; exact decide_eq_false (by omega)
  trans x y z h1 h2 := by
    rw [bcmp_lt] at *
    have a := of_decide_eq_true h1
    have b := of_decide_eq_true h2
    exact decide_eq_true (by omega)
  ntrans x y z h1 h2 := by
    rw [bcmp_lt] at *
    have a := of_decide_eq_false h1
    have b := of_decide_eq_false h2
    exact decide_eq_false (by omega)
set_option maxHeartbeats 1000000 in
theorem bclosure_any (x y : Bk) (W : World) :
    Calls Try.prog 24 #[.agg #[.int .i64 x.id, .string x.addr, .float .f64 x.wt], .agg #[.int .i64 y.id, .string y.addr, .float .f64 y.wt]] W fun e w' => e = .returned (.int .i64 (bcmp x y)) ∧ ∃ q os', w' = grow (W.drewN q) os' := by
  obtain ⟨a, s, b⟩ := x
  obtain ⟨c, t, d⟩ := y
  have C1 := Lib.hid (fun w => compare_i64 a c w)
  obtain ⟨r, hr⟩ : ∃ r, r = bcmp ⟨a, s, b⟩ ⟨c, t, d⟩ := ⟨_, rfl⟩
  have hr2 : r = cmpI a c := hr
  rw [← hr]
  rw [← hr2] at C1
  clear hr hr2
  simp only
  go_enter Try.func24, Try.ntmps24
  go_wp2_with (go_at_call 25; refine (C1.out _).mono ?_; rintro e w1 ⟨rfl, rfl⟩)
  go_ret
  refine ⟨rfl, 0, #[.cells #[.int .i64 a, .string s, .float .f64 b] 32, .cells #[.int .i64 c, .string t, .float .f64 d] 32], ?_⟩
  rw [alloc_eq_grow, alloc_eq_grow, grow_grow]
  rfl
theorem bcmp_lays (blk off size : Nat) (w : World) : CmpLays Try.prog 24 #[] bcells 3 bcmp blk off size w :=
  fun _ _ _ _ x y => bclosure_any x y _
theorem bflatK (d : Array Bk) : (flatK bcells 3 d).toList = bflat d.toList := by
  apply List.ext_getElem?
  intro t
  by_cases ht : t < d.size * 3
  · have e1 : (flatK bcells 3 d).toList[t]? = some (flatK bcells 3 d)[t]! := by
      rw [getElem!_pos _ t (by rw [Go.Sort.size_flatK]; exact ht), Array.getElem?_toList, Array.getElem?_eq_getElem (by rw [Go.Sort.size_flatK]; exact ht)]
    rw [e1, Go.Sort.get_flatK _ _ _ _ ht]
    have hi : t / 3 < d.size := by omega
    obtain ⟨h1, h2, h3⟩ := bflat_get d.toList (t / 3) (by simpa using hi)
    rw [getElem!_pos d (t / 3) hi]
    simp only [Array.getElem_toList] at h1 h2 h3
    have hm : t % 3 = 0 ∨ t % 3 = 1 ∨ t % 3 = 2 := by omega
    rcases hm with h | h | h
    · rw [h]
      rw [show t / 3 * 3 = t by omega] at h1
      rw [h1]; rfl
    · rw [h]
      rw [show t / 3 * 3 + 1 = t by omega] at h2
      rw [h2]; rfl
    · rw [h]
      rw [show t / 3 * 3 + 2 = t by omega] at h3
      rw [h3]; rfl
  · rw [List.getElem?_eq_none (by simp; omega), List.getElem?_eq_none (by rw [bflat_len]; simp; omega)]
def BRow (B : Nat) (v : Value) (bs : List Bk) (w : World) : Prop := w.ownsRow B 32 3 v bs.length (bflat bs)
theorem brow_holds {B g cap : Nat} {bs : List Bk} {w : World} (h : BRow B (.slice (some ⟨g, 0, none⟩) bs.length cap) bs w) : HoldsK bcells 3 w g 0 bs.toArray := by
  intro j hj
  rw [Go.Sort.size_flatK] at hj
  have hj2 : j < bs.length * 3 := by simpa using hj
  have e : (flatK bcells 3 bs.toArray)[j]! = (bflat bs)[j]'(by rw [bflat_len]; exact hj2) := by
    have h1 := congrArg (fun l => l[j]?) (bflatK bs.toArray)
    simp only at h1
    rw [List.getElem?_eq_getElem (show j < (bflat bs.toArray.toList).length by rw [bflat_len]; exact hj2), Array.getElem?_toList, Array.getElem?_eq_getElem (by rw [Go.Sort.size_flatK]; exact hj)] at h1
    rw [getElem!_pos _ j (by rw [Go.Sort.size_flatK]; exact hj)]
    exact Option.some.inj h1
  rw [e, Nat.zero_add]
  have hadd : (⟨g, 0, none⟩ : Addr).add j = ⟨g, j, none⟩ := by unfold Addr.add; split <;> simp_all
  constructor
  · rw [← hadd]
    exact World.ownsRow.cells h rfl j _ (List.getElem?_eq_getElem _)
  · rcases h.2 with ⟨e1, _⟩ | ⟨g', cap', cur, e1, _, e3, _⟩
    · cases e1
    · injection e1 with e1 _ _
      injection e1 with e1
      injection e1 with e1
      subst e1
      exact Lib.frozen_of_heap e3 j
theorem bsort_world {B g cap : Nat} {bs : List Bk} {w : World} (h : BRow B (.slice (some ⟨g, 0, none⟩) bs.length cap) bs w) (d' : Array Bk) (hd : d'.size = bs.length) (n : Nat) (os : Array Obj) :
    BRow B (.slice (some ⟨g, 0, none⟩) bs.length cap) d'.toList (sortWorldK bcells 3 w g 0 n d' os) ∧ (∀ b, b < w.heap.size → b ≠ g → (sortWorldK bcells 3 w g 0 n d' os).heap[b]? = w.heap[b]?) ∧
    (w.heap.size ≤ (sortWorldK bcells 3 w g 0 n d' os).heap.size) ∧ Below g w (sortWorldK bcells 3 w g 0 n d' os) := by
  have hheap : (sortWorldK bcells 3 w g 0 n d' os).heap = (w.heap.modify g (Go.Sort.onCells (Go.Sort.putCells id 0 (flatK bcells 3 d')))) ++ os := rfl
  have hsz : w.heap.size ≤ (sortWorldK bcells 3 w g 0 n d' os).heap.size := by rw [hheap]; simp
  have hoth : ∀ b, b < w.heap.size → b ≠ g → (sortWorldK bcells 3 w g 0 n d' os).heap[b]? = w.heap[b]? := fun b hb hne => by
    rw [hheap, Array.getElem?_append_left (by simpa using hb), Array.getElem?_modify, if_neg (fun e => hne e.symm)]
  refine ⟨⟨?_, ?_⟩, hoth, hsz, ⟨rfl, rfl, rfl, hsz, fun k hk => ?_⟩⟩
  · rw [bflat_len]
  · rcases h.2 with ⟨e1, _⟩ | ⟨g', cap', cur, e1, e2, e3, e4, e5, e6, e7⟩
    · cases e1
    · injection e1 with e1 e8 e9
      injection e1 with e1
      injection e1 with e1
      subst e1 e9
      have e8' : d'.toList.length = bs.length := by rw [Array.length_toList, hd]
      refine .inr ⟨g, cap, Go.Sort.putCells id 0 (flatK bcells 3 d') cur, by rw [e8'], e2, ?_, by rw [Array.length_toList, hd]; exact e4, e5, ?_, ?_⟩
      · rw [hheap, Array.getElem?_append_left (by simpa using heap_lt e3), Array.getElem?_modify, if_pos rfl, e3]; rfl
      · unfold Go.Sort.putCells; rw [Array.size_mapIdx]; exact e6
      · rw [← bflatK]
        apply List.ext_getElem?
        intro t
        rw [Array.length_toList]
        by_cases ht : t < d'.size * 3
        · rw [List.getElem?_take, if_pos ht, Array.getElem?_toList, Array.getElem?_toList]
          unfold Go.Sort.putCells
          rw [Array.getElem?_mapIdx, Array.getElem?_eq_getElem (show t < cur.size by omega), Array.getElem?_eq_getElem (by rw [Go.Sort.size_flatK]; exact ht)]
          simp only [Option.map_some]
          rw [if_pos ⟨Nat.zero_le _, by rw [Go.Sort.size_flatK]; omega⟩, Nat.sub_zero, getElem!_pos _ t (by rw [Go.Sort.size_flatK]; exact ht)]
          rfl
        · rw [List.getElem?_take, if_neg ht, List.getElem?_eq_none (by simp; omega)]
  · rcases h.2 with ⟨e1, _⟩ | ⟨g', cap', cur, e1, e2, e3, _⟩
    · cases e1
    · injection e1 with e1 _ _
      injection e1 with e1
      injection e1 with e1
      subst e1
      exact hoth k (Nat.lt_trans hk (heap_lt e3)) (by omega)
theorem btoArray_extract (ps : List Bk) (n : Nat) (h : n = ps.length) : (ps.toArray.extract 0 n).toList = ps := by
  subst h; simp
theorem bsort_any (B g cap : Nat) (bs : List Bk) (w : World) (hr : BRow B (.slice (some ⟨g, 0, none⟩) bs.length cap) bs w) (hl : bs.length ≤ 1000000) :
    Calls Try.prog 23 #[.slice (some ⟨g, 0, none⟩) bs.length cap, .func (.func 24) #[] #[]] w fun e w' => e = .returned (.tuple #[]) ∧ (∃ bs', bs'.Perm bs ∧ bs'.Pairwise (fun x y => x.id ≤ y.id) ∧ BRow B (.slice (some ⟨g, 0, none⟩) bs.length cap) bs' w') ∧ Below g w w' ∧ (∀ b, b < w.heap.size → b ≠ g → w'.heap[b]? = w.heap[b]?) := by
  have eg : ∀ args w, (callFunc 24 args).run Try.prog w = .ok (.enter 24 args) w := enters_of Try.func24 (by kernel_rfl) rfl
  have hgs : B ≤ g ∧ g < w.heap.size := World.ownsRow.lt hr g rfl
  have hcon := AnyQ.slices_SortFunc Try.sortBk 3 Try.isAgg32 Try.sizeOf32 bcells (fun _ => rfl) (fun x v hv => by unfold bcells at hv; simp at hv; rcases hv with rfl | rfl | rfl <;> rfl) bcmp bswo 24 #[] g 0 cap bs.toArray w eg (bcmp_lays g 0 bs.toArray.size w) (brow_holds hr) hgs.2 (by simp; omega)
  change Calls Try.prog 23 #[.slice (some ⟨g, 0, none⟩) bs.length cap, .func (.func 24) #[] #[]] w _ at hcon
  refine hcon.mono ?_
  rintro e w' ⟨rfl, d', n, os, hp, hs, rfl⟩
  have hd : d'.size = bs.length := by have := hp.1; simpa using this
  obtain ⟨h1, h2, h3, h4⟩ := bsort_world hr d' hd n os
  refine ⟨rfl, ⟨d'.toList, ?_, ?_, h1⟩, h4, h2⟩
  · have := hp.2.2
    rw [show (d'.extract 0 bs.toArray.size).toList = d'.toList by rw [show bs.toArray.size = d'.size by rw [hd]; simp]; simp, btoArray_extract bs _ (by simp)] at this
    exact this
  · rw [List.pairwise_iff_getElem]
    intro i j hi hj hij
    have := hs i j (Nat.zero_le _) hij (by rw [Array.length_toList] at hj; simpa [hd] using hj)
    rw [bcmp_lt, getElem!_pos d' i (by simpa using hi), getElem!_pos d' j (by simpa using hj)] at this
    have := of_decide_eq_false this
    simp only [Array.getElem_toList]
    omega
set_option maxHeartbeats 1000000 in
theorem bsort_none (w : World) :
    Calls Try.prog 23 #[.slice none 0 0, .func (.func 24) #[] #[]] w fun e w' => e = .returned (.tuple #[]) ∧ Below w.heap.size w w' := by
  go_enter Try.func23, Try.ntmps23
  go_wp2_with go_in
  refine wp_loop_rounds 2 ?_
  rw [rounds_succ]
  go_wp2_with go_in
  refine wp_loop_rounds 2 ?_
  rw [rounds_succ]
  go_wp2_with go_in
  go_end0
  go_wp2_with go_in
  (try simp only [Exit.inBlock, Exit.then]); refine bodyPost_ret (results_none rfl _ _ _) rfl ?_
  go_wp2_with go_in
  go_end0
  exact ⟨rfl, Below.refl _ _⟩
end Go.Proofs.Ytgonagkhnkhcnaa
