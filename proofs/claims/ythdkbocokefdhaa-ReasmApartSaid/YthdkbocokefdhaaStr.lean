import Derived.Shelf.SlSortCmp.WholeK
import Derived.Ground.SlsfProg
import Derived.Test.YthdkbocokefdhaaProg
import Derived.Test.YthdkbocokefdhaaAwp
import Derived.Test.YthdkbocokefdhaaHd
import Derived.Sort.Grow
import Derived.StillTailTactics
/-
  DERIVED: THE SHELF's CONTRACTS AT THIS DUMP, IN PLAIN WORDS (tools/lay-plain.mjs out of 'YthdkbocokefdhaaShelf.lean', which tools/lay-shelf.mjs wrote): THE SAME DECLARATIONS UNDER THE SAME NAMES: 'import', 'namespace', 'open', 'def', 'theorem' AND NOTHING ELSE: no command of the shelf's: FOR A HAND-IN. Each laying: the table of numbers ('.._ren') and one theorem, a field a fact of the dump's own or the kernel's comparison; each contract: ONE APPLICATION.
-/
namespace Go.Proofs
open Go.Shelf
def Try.sortPc_ren : Go.Shelf.Ren := ⟨fun | 6 => 35 | 15 => 65 | 14 => 64 | 28 => 88 | 29 => 89 | 20 => 80 | 21 => 81 | 22 => 82 | 23 => 83 | 24 => 84 | 25 => 85 | 26 => 86 | 27 => 87 | 46 => 100 | 47 => 101 | 48 => 102 | 49 => 103 | 50 => 104 | 57 => 107 | n => n, fun | 22 => 70 | 24 => 74 | 25 => 85 | 3 => 3 | 39 => 104 | 0 => 0 | 53 => 143 | 55 => 122 | 4 => 4 | 46 => 136 | 45 => 135 | 50 => 140 | 5 => 5 | 9 => 9 | 66 => 156 | 70 => 160 | 76 => 167 | 77 => 168 | n => n, fun | n => n⟩
theorem Try.sortPc : Go.Proofs.SlLaysF0.n6 Try.prog Try.sortPc_ren := {
  mixed := by kernel_rfl
  f6 := ⟨Try.f35.name, by decide, Try.func35.trans (congrArg some (by kernel_rfl))⟩
  f14 := ⟨Try.f64.name, by decide, Try.func64.trans (congrArg some (by kernel_rfl))⟩
  f15 := Try.func65.trans (congrArg some (by kernel_rfl))
  f20 := ⟨Try.f80.name, by decide, Try.func80.trans (congrArg some (by kernel_rfl))⟩
  f21 := ⟨Try.f81.name, by decide, Try.func81.trans (congrArg some (by kernel_rfl))⟩
  f22 := ⟨Try.f82.name, by decide, Try.func82.trans (congrArg some (by kernel_rfl))⟩
  f23 := ⟨Try.f83.name, by decide, Try.func83.trans (congrArg some (by kernel_rfl))⟩
  f24 := ⟨Try.f84.name, by decide, Try.func84.trans (congrArg some (by kernel_rfl))⟩
  f25 := ⟨Try.f85.name, by decide, Try.func85.trans (congrArg some (by kernel_rfl))⟩
  f26 := ⟨Try.f86.name, by decide, Try.func86.trans (congrArg some (by kernel_rfl))⟩
  f27 := ⟨Try.f87.name, by decide, Try.func87.trans (congrArg some (by kernel_rfl))⟩
  f28 := Try.func88.trans (congrArg some (by kernel_rfl))
  f29 := Try.func89.trans (congrArg some (by kernel_rfl))
  f46 := ⟨Try.f100.name, by decide, Try.func100.trans (congrArg some (by kernel_rfl))⟩
  f47 := Try.func101.trans (congrArg some (by kernel_rfl))
  f48 := Try.func102.trans (congrArg some (by kernel_rfl))
  f49 := ⟨Try.f103.name, by decide, Try.func103.trans (congrArg some (by kernel_rfl))⟩
  f50 := ⟨Try.f104.name, by decide, Try.func104.trans (congrArg some (by kernel_rfl))⟩
  f57 := ⟨Try.f107.name, by decide, Try.func107.trans (congrArg some (by kernel_rfl))⟩
  t0 := Try.underlying0
  a0 := Try.isAgg0
  z0 := Try.sizeOf0
  v0 := Try.zeroValue0
  t3 := Try.underlying3
  a3 := Try.isAgg3
  z3 := Try.sizeOf3
  v3 := Try.zeroValue3
  t4 := Try.underlying4
  a4 := Try.isAgg4
  z4 := Try.sizeOf4
  v4 := Try.zeroValue4
  t5 := Try.underlying5
  a5 := Try.isAgg5
  z5 := Try.sizeOf5
  v5 := Try.zeroValue5
  t9 := Try.underlying9
  a9 := Try.isAgg9
  z9 := Try.sizeOf9
  v9 := Try.zeroValue9
  t22 := Try.underlying70
  a22 := Try.isAgg70
  z22 := Try.sizeOf70
  v22 := Try.zeroValue70
  t25 := Try.underlying85
  a25 := Try.isAgg85
  z25 := Try.sizeOf85
  v25 := Try.zeroValue85
  t39 := Try.underlying104
  a39 := Try.isAgg104
  z39 := Try.sizeOf104
  v39 := Try.zeroValue104
  t45 := Try.underlying135
  a45 := Try.isAgg135
  z45 := Try.sizeOf135
  v45 := Try.zeroValue135
  t46 := Try.underlying136
  a46 := Try.isAgg136
  z46 := Try.sizeOf136
  v46 := Try.zeroValue136
  t50 := Try.underlying140
  a50 := Try.isAgg140
  z50 := Try.sizeOf140
  v50 := Try.zeroValue140
  t53 := Try.underlying143
  a53 := Try.isAgg143
  z53 := Try.sizeOf143
  v53 := Try.zeroValue143
  t55 := Try.underlying122
  a55 := Try.isAgg122
  z55 := Try.sizeOf122
  v55 := Try.zeroValue122
  t66 := Try.underlying156
  a66 := Try.isAgg156
  z66 := Try.sizeOf156
  v66 := Try.zeroValue156
  t70 := Try.underlying160
  a70 := Try.isAgg160
  z70 := Try.sizeOf160
  v70 := Try.zeroValue160
  t76 := Try.underlying167
  a76 := Try.isAgg167
  z76 := Try.sizeOf167
  v76 := Try.zeroValue167
  t77 := Try.underlying168
  a77 := Try.isAgg168
  z77 := Try.sizeOf168
  v77 := Try.zeroValue168 }
end Go.Proofs
/- Rows of pieces, and their order: slices.SortFunc at a row of pieces. -/
namespace Go.Proofs.Ythdkbocokefdhaa
set_option maxRecDepth 100000
open Go.RowKit
open Go.Sort (grow alloc_eq_grow grow_grow HoldsK SWO PermIn SortedIn flatK)
instance : Inhabited Pc := ⟨⟨⟨0, 0, 0, 0, 0, false, false, [], [], []⟩, []⟩⟩
/-- a piece's cells -/
def pcells (p : Pc) : List Value := [.int .i64 p.h.tos, .int .i64 p.h.id, .int .i64 p.h.off, .int .i64 p.h.ttl, .int .i64 p.h.proto, .bool p.h.df, .bool p.h.mf, .string (bs p.h.src), .string (bs p.h.dst), .string (bs p.h.opt), .int .i64 (8 * p.h.off), .string (bs p.s)]
def pv (p : Pc) : Value := .agg #[.int .i64 p.h.tos, .int .i64 p.h.id, .int .i64 p.h.off, .int .i64 p.h.ttl, .int .i64 p.h.proto, .bool p.h.df, .bool p.h.mf, .string (bs p.h.src), .string (bs p.h.dst), .string (bs p.h.opt), .int .i64 (8 * p.h.off), .string (bs p.s)]
theorem pcells_len (p : Pc) : (pcells p).length = 12 := rfl
def prow (ps : List Pc) : List Value := ps.flatMap pcells
theorem prow_len : ∀ ps : List Pc, (prow ps).length = ps.length * 12
  | [] => rfl
  | p :: t => by
    have := prow_len t
    unfold prow at this ⊢
    rw [List.flatMap_cons, List.length_append, this, pcells_len, List.length_cons]; omega
theorem prow_at : ∀ (ps : List Pc) (i j : Nat) (hi : i < ps.length), j < 12 → (prow ps)[i * 12 + j]? = (pcells ps[i])[j]?
  | [], i, j, hi, _ => by simp at hi
  | p :: t, 0, j, _, hj => by
    unfold prow
    rw [List.flatMap_cons, Nat.zero_mul, Nat.zero_add, List.getElem?_append_left (by rw [pcells_len]; exact hj)]; rfl
  | p :: t, i + 1, j, hi, hj => by
    have := prow_at t i j (by simpa using hi) hj
    unfold prow at this ⊢
    rw [List.flatMap_cons, List.getElem?_append_right (by rw [pcells_len]; omega), pcells_len, show (i + 1) * 12 + j - 12 = i * 12 + j by omega, this]; rfl
theorem prow_app (a b : List Pc) : prow (a ++ b) = prow a ++ prow b := by unfold prow; rw [List.flatMap_append]
theorem prow_flatK (d : Array Pc) : (flatK pcells 12 d).toList = prow d.toList := by
  apply List.ext_getElem?
  intro t
  by_cases ht : t < d.size * 12
  · have e1 : (flatK pcells 12 d).toList[t]? = some (flatK pcells 12 d)[t]! := by
      rw [getElem!_pos _ t (by rw [Go.Sort.size_flatK]; exact ht), Array.getElem?_toList, Array.getElem?_eq_getElem (by rw [Go.Sort.size_flatK]; exact ht)]
    rw [e1, Go.Sort.get_flatK _ _ _ _ ht]
    have hi : t / 12 < d.size := by omega
    have hm : t % 12 < 12 := Nat.mod_lt _ (by decide)
    have h1 := prow_at d.toList (t / 12) (t % 12) (by simpa using hi) hm
    rw [show t / 12 * 12 + t % 12 = t by omega] at h1
    rw [h1, getElem!_pos d (t / 12) hi, Array.getElem_toList]
    rw [List.getElem?_eq_getElem (by rw [pcells_len]; exact hm), getElem!_pos _ _ (by rw [pcells_len]; exact hm)]
  · rw [List.getElem?_eq_none (by simp; omega), List.getElem?_eq_none (by rw [prow_len]; simp; omega)]
/-- a row of pieces -/
def PRow (B : Nat) (v : Value) (ps : List Pc) (w : World) : Prop := w.ownsRow B 74 12 v ps.length (prow ps)
def cmpI (x y : Int) : Int := if x < y then -1 else if y < x then 1 else 0
theorem isnan_i64 (x : Int) (w : World) : Calls Try.prog 66 #[.int .i64 x] w fun e w' => e = .returned (.bool false) ∧ w' = w := by
  go_enter Try.func66, Try.ntmps66
  go_wp2
  go_ret
  exact ⟨rfl, rfl⟩
set_option maxHeartbeats 1000000 in
theorem compare_i64 (x y : Int) (w : World) : Calls Try.prog 37 #[.int .i64 x, .int .i64 y] w fun e w' => e = .returned (.int .i64 (cmpI x y)) ∧ w' = w := by
  have C1 := Lib.hid (fun z W => isnan_i64 z W)
  obtain ⟨r, hr⟩ : ∃ r, r = cmpI x y := ⟨_, rfl⟩
  rw [← hr]
  by_cases h1 : x < y
  · have h2 : r = -1 := by rw [hr]; unfold cmpI; rw [if_pos h1]
    clear hr
    subst h2
    go_enter Try.func37, Try.ntmps37
    go_wp2_with (go_at_call 66; refine (C1.out _ _).mono ?_; rintro e w1 ⟨rfl, rfl⟩)
    go_ret
    exact ⟨rfl, rfl⟩
  · by_cases h3 : y < x
    · have h2 : r = 1 := by rw [hr]; unfold cmpI; rw [if_neg h1, if_pos h3]
      clear hr
      subst h2
      go_enter Try.func37, Try.ntmps37
      go_wp2_with (go_at_call 66; refine (C1.out _ _).mono ?_; rintro e w1 ⟨rfl, rfl⟩)
      go_ret
      exact ⟨rfl, rfl⟩
    · have h2 : r = 0 := by rw [hr]; unfold cmpI; rw [if_neg h1, if_neg h3]
      clear hr
      subst h2
      go_enter Try.func37, Try.ntmps37
      go_wp2_with (go_at_call 66; refine (C1.out _ _).mono ?_; rintro e w1 ⟨rfl, rfl⟩)
      go_ret
      exact ⟨rfl, rfl⟩
def pcmp (x y : Pc) : Int := cmpI (8 * x.h.off) (8 * y.h.off)
theorem pcmp_lt (x y : Pc) : ltOf pcmp x y = decide (x.h.off < y.h.off) := by
  unfold ltOf pcmp cmpI
  rw [Bool.eq_iff_iff, decide_eq_true_iff, decide_eq_true_iff]
  split <;> (try split) <;> omega
theorem pswo : SWO (ltOf pcmp) where
  irrefl x := by rw [pcmp_lt]; exact decide_eq_false (by omega)
  trans x y z h1 h2 := by
    rw [pcmp_lt] at *
    have a := of_decide_eq_true h1
    have b := of_decide_eq_true h2
    exact decide_eq_true (by omega)
  ntrans x y z h1 h2 := by
    rw [pcmp_lt] at *
    have a := of_decide_eq_false h1
    have b := of_decide_eq_false h2
    exact decide_eq_false (by omega)
set_option maxHeartbeats 1000000 in
theorem pclosure_any (x y : Pc) (W : World) :
    Calls Try.prog 36 #[pv x, pv y] W fun e w' => e = .returned (.int .i64 (pcmp x y)) ∧ ∃ q os', w' = grow (W.drewN q) os' := by
  obtain ⟨⟨a0, a1, a2, a3, a4, a5, a6, a7, a8, a9⟩, s⟩ := x
  obtain ⟨⟨b0, b1, b2, b3, b4, b5, b6, b7, b8, b9⟩, t⟩ := y
  unfold pv pcmp
  simp only
  obtain ⟨x, hx⟩ : ∃ x, x = 8 * a2 := ⟨_, rfl⟩
  obtain ⟨y, hy⟩ : ∃ y, y = 8 * b2 := ⟨_, rfl⟩
  rw [← hx, ← hy]
  clear hx hy
  have C1 := Lib.hid (fun w => compare_i64 x y w)
  obtain ⟨r, hr⟩ : ∃ r, r = cmpI x y := ⟨_, rfl⟩
  rw [← hr] at C1 ⊢
  clear hr
  go_enter Try.func36, Try.ntmps36
  go_wp2_with (go_at_call 37; refine (C1.out _).mono ?_; rintro e w1 ⟨rfl, rfl⟩)
  go_ret
  refine ⟨rfl, 0, #[.cells #[.int .i64 a0, .int .i64 a1, .int .i64 a2, .int .i64 a3, .int .i64 a4, .bool a5, .bool a6, .string (bs a7), .string (bs a8), .string (bs a9), .int .i64 x, .string (bs s)] 74, .cells #[.int .i64 b0, .int .i64 b1, .int .i64 b2, .int .i64 b3, .int .i64 b4, .bool b5, .bool b6, .string (bs b7), .string (bs b8), .string (bs b9), .int .i64 y, .string (bs t)] 74], ?_⟩
  rw [alloc_eq_grow, alloc_eq_grow, grow_grow]
  rfl
theorem pcmp_lays (blk off size : Nat) (w : World) : CmpLays Try.prog 36 #[] pcells 12 pcmp blk off size w :=
  fun _ _ _ _ x y => pclosure_any x y _
theorem prow_holds {B g cap : Nat} {ps : List Pc} {w : World} (h : PRow B (.slice (some ⟨g, 0, none⟩) ps.length cap) ps w) : HoldsK pcells 12 w g 0 ps.toArray := by
  intro j hj
  rw [Go.Sort.size_flatK] at hj
  have hj2 : j < ps.length * 12 := by simpa using hj
  have e : (flatK pcells 12 ps.toArray)[j]! = (prow ps)[j]'(by rw [prow_len]; exact hj2) := by
    have h1 := congrArg (fun l => l[j]?) (prow_flatK ps.toArray)
    simp only at h1
    rw [List.getElem?_eq_getElem (show j < (prow ps.toArray.toList).length by rw [prow_len]; exact hj2), Array.getElem?_toList, Array.getElem?_eq_getElem (by rw [Go.Sort.size_flatK]; exact hj)] at h1
    rw [getElem!_pos _ j (by rw [Go.Sort.size_flatK]; exact hj)]
    exact Option.some.inj h1
  rw [e, Nat.zero_add]
  have hadd : (⟨g, 0, none⟩ : Addr).add j = ⟨g, j, none⟩ := by unfold Addr.add; split <;> simp_all
  constructor
  · rw [← hadd]
    exact World.ownsRow.cells h rfl j _ (List.getElem?_eq_getElem _)
  · rcases h.2 with ⟨e1, _⟩ | ⟨g', cap', cur, e1, _, e3, _⟩
    · cases e1
    · injection e1 with e1 _ _
      injection e1 with e1
      injection e1 with e1
      subst e1
      exact Lib.frozen_of_heap e3 j
theorem psort_world {B g cap : Nat} {ps : List Pc} {w : World} (h : PRow B (.slice (some ⟨g, 0, none⟩) ps.length cap) ps w) (d' : Array Pc) (hd : d'.size = ps.length) (n : Nat) (os : Array Obj) :
    PRow B (.slice (some ⟨g, 0, none⟩) ps.length cap) d'.toList (sortWorldK pcells 12 w g 0 n d' os) ∧ (∀ b, b < w.heap.size → b ≠ g → (sortWorldK pcells 12 w g 0 n d' os).heap[b]? = w.heap[b]?) ∧
    (w.heap.size ≤ (sortWorldK pcells 12 w g 0 n d' os).heap.size) ∧ Save [g] w (sortWorldK pcells 12 w g 0 n d' os) := by
  have hheap : (sortWorldK pcells 12 w g 0 n d' os).heap = (w.heap.modify g (Go.Sort.onCells (Go.Sort.putCells id 0 (flatK pcells 12 d')))) ++ os := rfl
  have hsz : w.heap.size ≤ (sortWorldK pcells 12 w g 0 n d' os).heap.size := by rw [hheap]; simp
  have hoth : ∀ b, b < w.heap.size → b ≠ g → (sortWorldK pcells 12 w g 0 n d' os).heap[b]? = w.heap[b]? := fun b hb hne => by
    rw [hheap, Array.getElem?_append_left (by simpa using hb), Array.getElem?_modify, if_neg (fun e => hne e.symm)]
  refine ⟨⟨?_, ?_⟩, hoth, hsz, ⟨rfl, rfl, rfl, hsz, fun k hk hn => hoth k hk (by simpa using hn)⟩⟩
  · rw [prow_len]
  · rcases h.2 with ⟨e1, _⟩ | ⟨g', cap', cur, e1, e2, e3, e4, e5, e6, e7⟩
    · cases e1
    · injection e1 with e1 e8 e9
      injection e1 with e1
      injection e1 with e1
      subst e1 e9
      have e8' : d'.toList.length = ps.length := by rw [Array.length_toList, hd]
      refine .inr ⟨g, cap, Go.Sort.putCells id 0 (flatK pcells 12 d') cur, by rw [e8'], e2, ?_, by rw [Array.length_toList, hd]; exact e4, e5, ?_, ?_⟩
      · rw [hheap, Array.getElem?_append_left (by simpa using heap_lt e3), Array.getElem?_modify, if_pos rfl, e3]; rfl
      · unfold Go.Sort.putCells; rw [Array.size_mapIdx]; exact e6
      · rw [← prow_flatK]
        apply List.ext_getElem?
        intro t
        rw [Array.length_toList]
        by_cases ht : t < d'.size * 12
        · rw [List.getElem?_take, if_pos ht, Array.getElem?_toList, Array.getElem?_toList]
          unfold Go.Sort.putCells
          rw [Array.getElem?_mapIdx, Array.getElem?_eq_getElem (show t < cur.size by omega), Array.getElem?_eq_getElem (by rw [Go.Sort.size_flatK]; exact ht)]
          simp only [Option.map_some]
          rw [if_pos ⟨Nat.zero_le _, by rw [Go.Sort.size_flatK]; omega⟩, Nat.sub_zero, getElem!_pos _ t (by rw [Go.Sort.size_flatK]; exact ht)]
          rfl
        · rw [List.getElem?_take, if_neg ht, List.getElem?_eq_none (by simp; omega)]
theorem ptoArray_extract (ps : List Pc) (n : Nat) (h : n = ps.length) : (ps.toArray.extract 0 n).toList = ps := by
  subst h; simp
theorem psort_any (B g cap : Nat) (ps : List Pc) (w : World) (hr : PRow B (.slice (some ⟨g, 0, none⟩) ps.length cap) ps w) (hl : ps.length ≤ 1000000) :
    Calls Try.prog 35 #[.slice (some ⟨g, 0, none⟩) ps.length cap, .func (.func 36) #[] #[]] w fun e w' => e = .returned (.tuple #[]) ∧ (∃ ps', ps'.Perm ps ∧ ps'.Pairwise (fun x y => x.h.off ≤ y.h.off) ∧ PRow B (.slice (some ⟨g, 0, none⟩) ps.length cap) ps' w') ∧ Save [g] w w' := by
  have eg : ∀ args w, (callFunc 36 args).run Try.prog w = .ok (.enter 36 args) w := enters_of Try.func36 (by kernel_rfl) rfl
  have hgs : B ≤ g ∧ g < w.heap.size := World.ownsRow.lt hr g rfl
  have hcon := AnyQ.slices_SortFunc Try.sortPc 12 Try.isAgg74 Try.sizeOf74 pcells (fun _ => rfl) (fun x v hv => by unfold pcells at hv; simp at hv; rcases hv with rfl | rfl | rfl | rfl | rfl | rfl | rfl | rfl | rfl | rfl | rfl | rfl <;> rfl) pcmp pswo 36 #[] g 0 cap ps.toArray w eg (pcmp_lays g 0 ps.toArray.size w) (prow_holds hr) hgs.2 (by simp; omega)
  change Calls Try.prog 35 #[.slice (some ⟨g, 0, none⟩) ps.length cap, .func (.func 36) #[] #[]] w _ at hcon
  refine hcon.mono ?_
  rintro e w' ⟨rfl, d', n, os, hp, hs, rfl⟩
  have hd : d'.size = ps.length := by have := hp.1; simpa using this
  obtain ⟨h1, h2, h3, h4⟩ := psort_world hr d' hd n os
  refine ⟨rfl, ⟨d'.toList, ?_, ?_, h1⟩, h4⟩
  · have := hp.2.2
    rw [show (d'.extract 0 ps.toArray.size).toList = d'.toList by rw [show ps.toArray.size = d'.size by rw [hd]; simp]; simp, ptoArray_extract ps _ (by simp)] at this
    exact this
  · rw [List.pairwise_iff_getElem]
    intro i j hi hj hij
    have := hs i j (Nat.zero_le _) hij (by rw [Array.length_toList] at hj; simpa [hd] using hj)
    rw [pcmp_lt, getElem!_pos d' i (by simpa using hi), getElem!_pos d' j (by simpa using hj)] at this
    have := of_decide_eq_false this
    simp only [Array.getElem_toList]
    omega
end Go.Proofs.Ythdkbocokefdhaa
/- Rows of strings. -/
namespace Go.Proofs.Ythdkbocokefdhaa
set_option maxRecDepth 100000
open Go.RowKit
def sv (l : List ByteArray) : List Value := l.map Value.string
def SRow (B : Nat) (v : Value) (l : List ByteArray) (w : World) : Prop := w.ownsRow B 9 1 v l.length (sv l)
theorem info9' : ∃ i, Try.prog.info? 9 = some i ∧ i.zero = some (.string ⟨#[]⟩) ∧ i.size = 1 ∧ i.bytes = 16 := by
  have h : (Try.prog.info? 9).map (fun i => (i.zero, i.size, i.bytes)) = some (some (.string ⟨#[]⟩), 1, 16) := by kernel_rfl
  cases hc : Try.prog.info? 9 with
  | none => rw [hc] at h; cases h
  | some i =>
    rw [hc] at h
    simp only [Option.map_some, Option.some.injEq, Prod.mk.injEq] at h
    exact ⟨i, rfl, h.1, h.2.1, h.2.2⟩
theorem cell_at1 {w : World} {g : Nat} {C : Array Value} {t : TypeId} (hg : w.heap[g]? = some (.cells C t (0, 0))) (j : Nat) (u : Value) (h : C.toList[j]? = some u) : w.cell? ((⟨g, 0, none⟩ : Addr).add j) = some u := by
  have ea : ∀ n, (⟨g, 0, none⟩ : Addr).add n = ⟨g, n, none⟩ := fun n => by unfold Addr.add; split <;> simp_all
  rw [ea, Lib.cell_of_heap hg]
  simpa using h
theorem app_s {B : Nat} {w : World} {v : Value} {l : List ByteArray} (h : SRow B v l w) (x : ByteArray) (g : Nat) (hg : w.heap[g]? = some (.cells #[.string x] 9 (0, 0))) (hlen : l.length ≤ 1000000) (hB : B ≤ w.heap.size) :
    ∃ v' w', (Builtin.append_ #[24, 24] 24 #[v, .slice (some ⟨g, 0, none⟩) 1 1]).run Try.prog w = .ok v' w' ∧ SRow B v' (l ++ [x]) w' ∧ w.grownBy w' v.ownBlock ∧ (v'.ownBlock = v.ownBlock ∨ v'.ownBlock = some w.heap.size) := by
  obtain ⟨i0, hi, hz0, hz1, hz2⟩ := info9'
  obtain ⟨v', w', hr, h2, h3, _, h5⟩ := run_append_own_at (P := Try.prog) w B 24 24 9 i0 _ 1 16 Try.underlying24 hi hz0 hz1 hz2 rfl (by decide) v l.length (sv l) h ⟨g, 0, none⟩ 1 1 [.string x] rfl (fun j u hu => cell_at1 hg j u hu)
    (fun u hu => by simp at hu; subst hu; rfl) (by unfold maxLen; omega) (by omega) hB
  refine ⟨v', w', hr, ?_, h3, h5⟩
  unfold SRow
  rw [List.length_append, show sv (l ++ [x]) = sv l ++ [.string x] by unfold sv; simp]
  exact h2
theorem SRow.nil (B : Nat) (w : World) : SRow B (.slice none 0 0) [] w := World.ownsRow_nil _ _ _ _
theorem SRow.same {B : Nat} {v : Value} {l : List ByteArray} {w w' : World} (h : SRow B v l w) (hs : ∀ b, v.ownBlock = some b → w'.heap[b]? = w.heap[b]?) : SRow B v l w' := by
  refine ⟨h.1, ?_⟩
  rcases h.2 with h1 | ⟨g, cap, cur, rfl, h0, hg, hr⟩
  · exact .inl h1
  · exact .inr ⟨g, cap, cur, rfl, h0, (hs g rfl).trans hg, hr⟩
theorem SRow.obj {B : Nat} {v : Value} {l : List ByteArray} {w : World} {b : Nat} (h : SRow B v l w) (hb : v.ownBlock = some b) : ∃ cur, w.heap[b]? = some (.cells cur 9 (0, 0)) := by
  rcases h.2 with ⟨rfl, _⟩ | ⟨g, cap, cur, rfl, _, hg, _⟩
  · cases hb
  · injection hb with hb
    subst hb
    exact ⟨cur, hg⟩
theorem SRow.ne {B : Nat} {v : Value} {l : List ByteArray} {w : World} {b c : Nat} {C : Array Value} {t : TypeId} (h : SRow B v l w) (hb : v.ownBlock = some b) (hc : w.heap[c]? = some (.cells C t (0, 0))) (ht : t ≠ 9) : b ≠ c := by
  obtain ⟨cur, h1⟩ := h.obj hb
  intro e
  rw [e, hc] at h1
  injection h1 with h1
  injection h1 with _ h1
  exact ht h1
theorem SRow.set {B : Nat} {v : Value} {l : List ByteArray} {w : World} {c : Nat} {C : Array Value} {t : TypeId} (h : SRow B v l w) (hc : w.heap[c]? = some (.cells C t (0, 0))) (ht : t ≠ 9) (i : Nat) (x : Value) : SRow B v l (w.setCell ⟨c, i, none⟩ x) :=
  h.same fun b hb => Below.heap_setCell _ _ _ _ (h.ne hb hc ht)
theorem SRow.le {B : Nat} {v : Value} {l : List ByteArray} {w : World} {b : Nat} (h : SRow B v l w) (hb : v.ownBlock = some b) : B ≤ b := (World.ownsRow.lt h b hb).1
theorem SRow.below {B : Nat} {v : Value} {l : List ByteArray} {w w' : World} (h : SRow B v l w) (hb : Below w.heap.size w w') : SRow B v l w' :=
  h.same fun b hq => by obtain ⟨cur, h1⟩ := h.obj hq; exact hb.block _ (heap_lt h1)
theorem SRow.at {B : Nat} {w : World} {v : Value} {l : List ByteArray} (h : SRow B v l w) (j : Nat) (hj : j < l.length) : ∃ g cap, v = .slice (some ⟨g, 0, none⟩) l.length cap ∧ w.cell? ⟨g, j, none⟩ = some (.string l[j]) := by
  rcases Nat.eq_zero_or_pos l.length with h0 | h0
  · omega
  obtain ⟨g, c, e, _⟩ := World.ownsRow.form h h0
  subst e
  refine ⟨g, c, rfl, ?_⟩
  have h1 := World.ownsRow.cells h rfl j (.string l[j]) (by unfold sv; simp [hj])
  have h2 : (⟨g, 0, none⟩ : Addr).add j = ⟨g, j, none⟩ := by unfold Addr.add; split <;> simp_all
  rw [h2] at h1; exact h1
theorem wpList_append_ok {P : Program} {w : World} {ops : Array Oper} {rest : List Oper} {o : Oper} {a : Act} {Q : Exit → Act → World → Prop} (hgd : o.guard = none) (sl x : Operand) (t : TypeId)
    (ho : o.op = .call { callee := .builtin .append, args := #[sl, x], argTypes := #[t, t] }) (v0 x0 v' : Value) (w' : World) (hs : a.eval sl = v0) (hx : a.eval x = x0)
    (hr : (Builtin.append_ #[t, t] o.type #[v0, x0]).run P w = .ok v' w') (h : wpList P ops Q rest (a.put o.dst v') w') : wpList P ops Q (o :: rest) a w := by
  refine wpList_plain hgd fun K hK => ?_
  unfold Oper.wp execOp
  simp only [ho, resolve, invoke, builtin, Sem.run_bind, Sem.run_pure, Result.andThen_ok, List.map_toArray, List.map_cons, List.map_nil, hs, hx, hr]
  exact hK _ _ h
theorem wpList_append_v {P : Program} {ops : Array Oper} {rest : List Oper} {o : Oper} {a : Act} {w : World} {Q : Exit → Act → World → Prop}
    (s x : Operand) (t : TypeId) (v0 x0 : Value) (hg : o.guard = none) (hop : o.op = Op.call { callee := Callee.builtin Builtin.append, args := #[s, x], argTypes := #[t, t] })
    (hs : a.eval s = v0) (hx : a.eval x = x0)
    (h : ∃ v' w', (Builtin.append_ #[t, t] o.type #[v0, x0]).run P w = .ok v' w' ∧ wpList P ops Q rest (a.put o.dst v') w') :
    wpList P ops Q (o :: rest) a w := by
  subst hs hx
  obtain ⟨v', w', h1, h2⟩ := h
  refine wpList_plain hg fun K' hK' => ?_
  unfold Oper.wp
  simp [execOp, hop, resolve, invoke, builtin, h1, Result.andThen]
  exact hK' _ _ h2
end Go.Proofs.Ythdkbocokefdhaa
