import Derived.Test.YthdkbocokefdhaaPlain
import Derived.Test.YthdkbocokefdhaaTabP
import Derived.Test.YthdkbocokefdhaaHd
import Derived.Sort.Grow
import Derived.StillTailTactics
/- Rows of pieces, and their order: slices.SortFunc at a row of pieces. -/
namespace Go.Proofs.Ythdkbocokefdhaa
set_option maxRecDepth 100000
open Go.RowKit
open Go.Sort (grow alloc_eq_grow grow_grow HoldsK SWO PermIn SortedIn flatK)
instance : Inhabited Pc := ⟨⟨⟨0, 0, 0, 0, 0, false, false, [], [], []⟩, []⟩⟩
/-- a piece's cells -/
def pcells (p : Pc) : List Value := [.int .i64 p.h.tos, .int .i64 p.h.id, .int .i64 p.h.off, .int .i64 p.h.ttl, .int .i64 p.h.proto, .bool p.h.df, .bool p.h.mf, .string (bs p.h.src), .string (bs p.h.dst), .string (bs p.h.opt), .int .i64 (8 * p.h.off), .string (bs p.s)]
def pv (p : Pc) : Value := .agg #[.int .i64 p.h.tos, .int .i64 p.h.id, .int .i64 p.h.off, .int .i64 p.h.ttl, .int .i64 p.h.proto, .bool p.h.df, .bool p.h.mf, .string (bs p.h.src), .string (bs p.h.dst), .string (bs p.h.opt), .int .i64 (8 * p.h.off), .string (bs p.s)]
theorem pcells_len (p : Pc) : (pcells p).length = 12 := rfl
def prow (ps : List Pc) : List Value := ps.flatMap pcells
theorem prow_len : ∀ ps : List Pc, (prow ps).length = ps.length * 12
  | [] => rfl
  | p :: t => by
    have := prow_len t
    unfold prow at this ⊢
    rw [List.flatMap_cons, List.length_append, this, pcells_len, List.length_cons]; omega
theorem prow_at : ∀ (ps : List Pc) (i j : Nat) (hi : i < ps.length), j < 12 → (prow ps)[i * 12 + j]? = (pcells ps[i])[j]?
  | [], i, j, hi, _ => by simp at hi
  | p :: t, 0, j, _, hj => by
    unfold prow
    rw [List.flatMap_cons, Nat.zero_mul, Nat.zero_add, List.getElem?_append_left (by rw [pcells_len]; exact hj)]; rfl
  | p :: t, i + 1, j, hi, hj => by
    have := prow_at t i j (by simpa using hi) hj
    unfold prow at this ⊢
    rw [List.flatMap_cons, List.getElem?_append_right (by rw [pcells_len]; omega), pcells_len, show (i + 1) * 12 + j - 12 = i * 12 + j by omega, this]; rfl
theorem prow_app (a b : List Pc) : prow (a ++ b) = prow a ++ prow b := by unfold prow; rw [List.flatMap_append]
theorem prow_flatK (d : Array Pc) : (flatK pcells 12 d).toList = prow d.toList := by
  apply List.ext_getElem?
  intro t
  by_cases ht : t < d.size * 12
  · have e1 : (flatK pcells 12 d).toList[t]? = some (flatK pcells 12 d)[t]! := by
      rw [getElem!_pos _ t (by rw [Go.Sort.size_flatK]; exact ht), Array.getElem?_toList, Array.getElem?_eq_getElem (by rw [Go.Sort.size_flatK]; exact ht)]
    rw [e1, Go.Sort.get_flatK _ _ _ _ ht]
    have hi : t / 12 < d.size := by omega
    have hm : t % 12 < 12 := Nat.mod_lt _ (by decide)
    have h1 := prow_at d.toList (t / 12) (t % 12) (by simpa using hi) hm
    rw [show t / 12 * 12 + t % 12 = t by omega] at h1
    rw [h1, getElem!_pos d (t / 12) hi, Array.getElem_toList]
    rw [List.getElem?_eq_getElem (by rw [pcells_len]; exact hm), getElem!_pos _ _ (by rw [pcells_len]; exact hm)]
  · rw [List.getElem?_eq_none (by simp; omega), List.getElem?_eq_none (by rw [prow_len]; simp; omega)]
/-- a row of pieces -/
def PRow (B : Nat) (v : Value) (ps : List Pc) (w : World) : Prop := w.ownsRow B 74 12 v ps.length (prow ps)
def cmpI (x y : Int) : Int := if x < y then -1 else if y < x then 1 else 0
theorem isnan_i64 (x : Int) (w : World) : Calls Try.prog 66 #[.int .i64 x] w fun e w' => e = .returned (.bool false) ∧ w' = w := by
  go_enter Try.func66, Try.ntmps66
  go_wp2
  go_ret
  exact ⟨rfl, rfl⟩
set_option maxHeartbeats 1000000 in
theorem compare_i64 (x y : Int) (w : World) : Calls Try.prog 37 #[.int .i64 x, .int .i64 y] w fun e w' => e = .returned (.int .i64 (cmpI x y)) ∧ w' = w := by
  have C1 := Lib.hid (fun z W => isnan_i64 z W)
  obtain ⟨r, hr⟩ : ∃ r, r = cmpI x y := ⟨_, rfl⟩
  rw [← hr]
  by_cases h1 : x < y
  · have h2 : r = -1 := by rw [hr]; unfold cmpI; rw [if_pos h1]
    clear hr
    subst h2
    go_enter Try.func37, Try.ntmps37
    go_wp2_with (go_at_call 66; refine (C1.out _ _).mono ?_; rintro e w1 ⟨rfl, rfl⟩)
    go_ret
    exact ⟨rfl, rfl⟩
  · by_cases h3 : y < x
    · have h2 : r = 1 := by rw [hr]; unfold cmpI; rw [if_neg h1, if_pos h3]
      clear hr
      subst h2
      go_enter Try.func37, Try.ntmps37
      go_wp2_with (go_at_call 66; refine (C1.out _ _).mono ?_; rintro e w1 ⟨rfl, rfl⟩)
      go_ret
      exact ⟨rfl, rfl⟩
    · have h2 : r = 0 := by rw [hr]; unfold cmpI; rw [if_neg h1, if_neg h3]
      clear hr
      subst h2
      go_enter Try.func37, Try.ntmps37
      go_wp2_with (go_at_call 66; refine (C1.out _ _).mono ?_; rintro e w1 ⟨rfl, rfl⟩)
      go_ret
      exact ⟨rfl, rfl⟩
def pcmp (x y : Pc) : Int := cmpI (8 * x.h.off) (8 * y.h.off)
theorem pcmp_lt (x y : Pc) : ltOf pcmp x y = decide (x.h.off < y.h.off) := by
  unfold ltOf pcmp cmpI
  rw [Bool.eq_iff_iff, decide_eq_true_iff, decide_eq_true_iff]
  split <;> (try split) <;> omega
theorem pswo : SWO (ltOf pcmp) where
  irrefl x := by rw [pcmp_lt]; exact decide_eq_false (by omega)
  trans x y z h1 h2 := by
    rw [pcmp_lt] at *
    have a := of_decide_eq_true h1
    have b := of_decide_eq_true h2
    exact decide_eq_true (by omega)
  ntrans x y z h1 h2 := by
    rw [pcmp_lt] at *
    have a := of_decide_eq_false h1
    have b := of_decide_eq_false h2
    exact decide_eq_false (by omega)
set_option maxHeartbeats 1000000 in
theorem pclosure_any (x y : Pc) (W : World) :
    Calls Try.prog 36 #[pv x, pv y] W fun e w' => e = .returned (.int .i64 (pcmp x y)) ∧ ∃ q os', w' = grow (W.drewN q) os' := by
  obtain ⟨⟨a0, a1, a2, a3, a4, a5, a6, a7, a8, a9⟩, s⟩ := x
  obtain ⟨⟨b0, b1, b2, b3, b4, b5, b6, b7, b8, b9⟩, t⟩ := y
  unfold pv pcmp
  simp only
  obtain ⟨x, hx⟩ : ∃ x, x = 8 * a2 := ⟨_, rfl⟩
  obtain ⟨y, hy⟩ : ∃ y, y = 8 * b2 := ⟨_, rfl⟩
  rw [← hx, ← hy]
  clear hx hy
  have C1 := Lib.hid (fun w => compare_i64 x y w)
  obtain ⟨r, hr⟩ : ∃ r, r = cmpI x y := ⟨_, rfl⟩
  rw [← hr] at C1 ⊢
  clear hr
  go_enter Try.func36, Try.ntmps36
  go_wp2_with (go_at_call 37; refine (C1.out _).mono ?_; rintro e w1 ⟨rfl, rfl⟩)
  go_ret
  refine ⟨rfl, 0, #[.cells #[.int .i64 a0, .int .i64 a1, .int .i64 a2, .int .i64 a3, .int .i64 a4, .bool a5, .bool a6, .string (bs a7), .string (bs a8), .string (bs a9), .int .i64 x, .string (bs s)] 74, .cells #[.int .i64 b0, .int .i64 b1, .int .i64 b2, .int .i64 b3, .int .i64 b4, .bool b5, .bool b6, .string (bs b7), .string (bs b8), .string (bs b9), .int .i64 y, .string (bs t)] 74], ?_⟩
  rw [alloc_eq_grow, alloc_eq_grow, grow_grow]
  rfl
theorem pcmp_lays (blk off size : Nat) (w : World) : CmpLays Try.prog 36 #[] pcells 12 pcmp blk off size w :=
  fun _ _ _ _ x y => pclosure_any x y _
theorem prow_holds {B g cap : Nat} {ps : List Pc} {w : World} (h : PRow B (.slice (some ⟨g, 0, none⟩) ps.length cap) ps w) : HoldsK pcells 12 w g 0 ps.toArray := by
  intro j hj
  rw [Go.Sort.size_flatK] at hj
  have hj2 : j < ps.length * 12 := by simpa using hj
  have e : (flatK pcells 12 ps.toArray)[j]! = (prow ps)[j]'(by rw [prow_len]; exact hj2) := by
    have h1 := congrArg (fun l => l[j]?) (prow_flatK ps.toArray)
    simp only at h1
    rw [List.getElem?_eq_getElem (show j < (prow ps.toArray.toList).length by rw [prow_len]; exact hj2), Array.getElem?_toList, Array.getElem?_eq_getElem (by rw [Go.Sort.size_flatK]; exact hj)] at h1
    rw [getElem!_pos _ j (by rw [Go.Sort.size_flatK]; exact hj)]
    exact Option.some.inj h1
  rw [e, Nat.zero_add]
  have hadd : (⟨g, 0, none⟩ : Addr).add j = ⟨g, j, none⟩ := by unfold Addr.add; split <;> simp_all
  constructor
  · rw [← hadd]
    exact World.ownsRow.cells h rfl j _ (List.getElem?_eq_getElem _)
  · rcases h.2 with ⟨e1, _⟩ | ⟨g', cap', cur, e1, _, e3, _⟩
    · cases e1
    · injection e1 with e1 _ _
      injection e1 with e1
      injection e1 with e1
      subst e1
      exact Lib.frozen_of_heap e3 j
theorem psort_world {B g cap : Nat} {ps : List Pc} {w : World} (h : PRow B (.slice (some ⟨g, 0, none⟩) ps.length cap) ps w) (d' : Array Pc) (hd : d'.size = ps.length) (n : Nat) (os : Array Obj) :
    PRow B (.slice (some ⟨g, 0, none⟩) ps.length cap) d'.toList (sortWorldK pcells 12 w g 0 n d' os) ∧ (∀ b, b < w.heap.size → b ≠ g → (sortWorldK pcells 12 w g 0 n d' os).heap[b]? = w.heap[b]?) ∧
    (w.heap.size ≤ (sortWorldK pcells 12 w g 0 n d' os).heap.size) ∧ Save [g] w (sortWorldK pcells 12 w g 0 n d' os) := by
  have hheap : (sortWorldK pcells 12 w g 0 n d' os).heap = (w.heap.modify g (Go.Sort.onCells (Go.Sort.putCells id 0 (flatK pcells 12 d')))) ++ os := rfl
  have hsz : w.heap.size ≤ (sortWorldK pcells 12 w g 0 n d' os).heap.size := by rw [hheap]; simp
  have hoth : ∀ b, b < w.heap.size → b ≠ g → (sortWorldK pcells 12 w g 0 n d' os).heap[b]? = w.heap[b]? := fun b hb hne => by
    rw [hheap, Array.getElem?_append_left (by simpa using hb), Array.getElem?_modify, if_neg (fun e => hne e.symm)]
  refine ⟨⟨?_, ?_⟩, hoth, hsz, ⟨rfl, rfl, rfl, hsz, fun k hk hn => hoth k hk (by simpa using hn)⟩⟩
  · rw [prow_len]
  · rcases h.2 with ⟨e1, _⟩ | ⟨g', cap', cur, e1, e2, e3, e4, e5, e6, e7⟩
    · cases e1
    · injection e1 with e1 e8 e9
      injection e1 with e1
      injection e1 with e1
      subst e1 e9
      have e8' : d'.toList.length = ps.length := by rw [Array.length_toList, hd]
      refine .inr ⟨g, cap, Go.Sort.putCells id 0 (flatK pcells 12 d') cur, by rw [e8'], e2, ?_, by rw [Array.length_toList, hd]; exact e4, e5, ?_, ?_⟩
      · rw [hheap, Array.getElem?_append_left (by simpa using heap_lt e3), Array.getElem?_modify, if_pos rfl, e3]; rfl
      · unfold Go.Sort.putCells; rw [Array.size_mapIdx]; exact e6
      · rw [← prow_flatK]
        apply List.ext_getElem?
        intro t
        rw [Array.length_toList]
        by_cases ht : t < d'.size * 12
        · rw [List.getElem?_take, if_pos ht, Array.getElem?_toList, Array.getElem?_toList]
          unfold Go.Sort.putCells
          rw [Array.getElem?_mapIdx, Array.getElem?_eq_getElem (show t < cur.size by omega), Array.getElem?_eq_getElem (by rw [Go.Sort.size_flatK]; exact ht)]
          simp only [Option.map_some]
          rw [if_pos ⟨Nat.zero_le _, by rw [Go.Sort.size_flatK]; omega⟩, Nat.sub_zero, getElem!_pos _ t (by rw [Go.Sort.size_flatK]; exact ht)]
          rfl
        · rw [List.getElem?_take, if_neg ht, List.getElem?_eq_none (by simp; omega)]
theorem ptoArray_extract (ps : List Pc) (n : Nat) (h : n = ps.length) : (ps.toArray.extract 0 n).toList = ps := by
  subst h; simp
theorem psort_any (B g cap : Nat) (ps : List Pc) (w : World) (hr : PRow B (.slice (some ⟨g, 0, none⟩) ps.length cap) ps w) (hl : ps.length ≤ 1000000) :
    Calls Try.prog 35 #[.slice (some ⟨g, 0, none⟩) ps.length cap, .func (.func 36) #[] #[]] w fun e w' => e = .returned (.tuple #[]) ∧ (∃ ps', ps'.Perm ps ∧ ps'.Pairwise (fun x y => x.h.off ≤ y.h.off) ∧ PRow B (.slice (some ⟨g, 0, none⟩) ps.length cap) ps' w') ∧ Save [g] w w' := by
  have eg : ∀ args w, (callFunc 36 args).run Try.prog w = .ok (.enter 36 args) w := enters_of Try.func36 (by kernel_rfl) rfl
  have hgs : B ≤ g ∧ g < w.heap.size := World.ownsRow.lt hr g rfl
  have hcon := AnyQ.slices_SortFunc Try.sortPc 12 Try.isAgg74 Try.sizeOf74 pcells (fun _ => rfl) (fun x v hv => by unfold pcells at hv; simp at hv; rcases hv with rfl | rfl | rfl | rfl | rfl | rfl | rfl | rfl | rfl | rfl | rfl | rfl <;> rfl) pcmp pswo 36 #[] g 0 cap ps.toArray w eg (pcmp_lays g 0 ps.toArray.size w) (prow_holds hr) hgs.2 (by simp; omega)
  change Calls Try.prog 35 #[.slice (some ⟨g, 0, none⟩) ps.length cap, .func (.func 36) #[] #[]] w _ at hcon
  refine hcon.mono ?_
  rintro e w' ⟨rfl, d', n, os, hp, hs, rfl⟩
  have hd : d'.size = ps.length := by have := hp.1; simpa using this
  obtain ⟨h1, h2, h3, h4⟩ := psort_world hr d' hd n os
  refine ⟨rfl, ⟨d'.toList, ?_, ?_, h1⟩, h4⟩
  · have := hp.2.2
    rw [show (d'.extract 0 ps.toArray.size).toList = d'.toList by rw [show ps.toArray.size = d'.size by rw [hd]; simp]; simp, ptoArray_extract ps _ (by simp)] at this
    exact this
  · rw [List.pairwise_iff_getElem]
    intro i j hi hj hij
    have := hs i j (Nat.zero_le _) hij (by rw [Array.length_toList] at hj; simpa [hd] using hj)
    rw [pcmp_lt, getElem!_pos d' i (by simpa using hi), getElem!_pos d' j (by simpa using hj)] at this
    have := of_decide_eq_false this
    simp only [Array.getElem_toList]
    omega
end Go.Proofs.Ythdkbocokefdhaa
