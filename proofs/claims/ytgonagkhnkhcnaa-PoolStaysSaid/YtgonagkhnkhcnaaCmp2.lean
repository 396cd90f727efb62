import Derived.Test.YtgonagkhnkhcnaaCmp
import Derived.StillTailTactics
/- The comparison of two points, as the sort calls it. -/
namespace Go.Proofs.Ytgonagkhnkhcnaa
set_option maxRecDepth 100000
open Go.RowKit
open Go.Sort (grow alloc_eq_grow grow_grow)
/-- a point's order -/
def ptcmp (x y : Nat × Nat) : Int := orI (cmpI x.1 y.1) (cmpI x.2 y.2)
set_option maxRecDepth 100000 in
set_option maxHeartbeats 2000000 in
theorem closure_any (a b c d : Nat) (W : World) :
    Calls Try.prog 38 #[.agg #[.int .u64 a, .int .i64 b], .agg #[.int .u64 c, .int .i64 d]] W fun e w' => e = .returned (.int .i64 (ptcmp (a, b) (c, d))) ∧ ∃ q os', w' = grow (W.drewN q) os' := by
  have C1 := Lib.hid (fun w => compare_u64 a c w)
  have C2 := Lib.hid (fun w => compare_i64 b d w)
  have C3 := Lib.hid (fun w g cc hg => or_any (cmpI a c) (cmpI b d) g cc w hg)
  obtain ⟨x, hx⟩ : ∃ x, x = cmpI a c := ⟨_, rfl⟩
  obtain ⟨y, hy⟩ : ∃ y, y = cmpI b d := ⟨_, rfl⟩
  have hr : ptcmp (a, b) (c, d) = orI x y := by rw [hx, hy]; rfl
  rw [← hx] at C1 C3
  rw [← hy] at C2 C3
  rw [hr]
  obtain ⟨r, hr9⟩ : ∃ r, r = orI x y := ⟨_, rfl⟩
  rw [← hr9] at C3 ⊢
  clear hx hy hr hr9
  go_enter Try.func38, Try.ntmps38
  go_wp2_with (fail)
  obtain ⟨w0, hw0⟩ : ∃ w0, w0 = (W.alloc (.cells #[.int .u64 a, .int .i64 b] 78)).alloc (.cells #[.int .u64 c, .int .i64 d] 78) := ⟨_, rfl⟩
  have b0 : w0.heap[W.heap.size]? = some (.cells #[.int .u64 a, .int .i64 b] 78 (0, 0)) := by
    rw [hw0, Below.heap_alloc _ _ _ (by rw [World.size_alloc]; omega)]; exact alloc_new _ _
  have b1 : w0.heap[W.heap.size + 1]? = some (.cells #[.int .u64 c, .int .i64 d] 78 (0, 0)) := by
    rw [hw0, show W.heap.size + 1 = (W.alloc (.cells #[.int .u64 a, .int .i64 b] 78)).heap.size from (World.size_alloc _ _).symm]; exact alloc_new _ _
  have k0 : w0.cell? ⟨W.heap.size, 0, none⟩ = some (.int .u64 a) := by rw [Lib.cell_of_heap b0]; rfl
  have k1 : w0.cell? ⟨W.heap.size, 1, none⟩ = some (.int .i64 b) := by rw [Lib.cell_of_heap b0]; rfl
  have k2 : w0.cell? ⟨W.heap.size + 1, 0, none⟩ = some (.int .u64 c) := by rw [Lib.cell_of_heap b1]; rfl
  have k3 : w0.cell? ⟨W.heap.size + 1, 1, none⟩ = some (.int .i64 d) := by rw [Lib.cell_of_heap b1]; rfl
  have hG : Hid (∃ os, w0 = grow W os) := ⟨_, by rw [hw0, alloc_eq_grow, alloc_eq_grow, grow_grow]⟩
  rw [← hw0]
  obtain ⟨n0, hn0⟩ : ∃ n0, n0 = W.heap.size := ⟨_, rfl⟩
  rw [← hn0] at k0 k1 k2 k3 ⊢
  clear hw0 b0 b1 hn0
  go_still_tail 10, (by kernel_rfl)
  still_call (C1.out _)
  repeat still_step
  still_call (C2.out _)
  refine wpStill_nil ?_
  change wpList _ _ _ _ _ w0.drew
  obtain ⟨w2, hw2⟩ : ∃ w2, w2 = w0.drew := ⟨_, rfl⟩
  have C4 : Hid (Calls Try.prog 39 #[.slice (some ⟨w2.heap.size, 0, none⟩) 2 2] (w2.alloc (.cells #[.int .i64 x, .int .i64 y] 3)) fun e w' => e = .returned (.int .i64 r) ∧ w' = w2.alloc (.cells #[.int .i64 x, .int .i64 y] 3)) := C3.out _ _ 2 (alloc_new _ _)
  have HW := Lib.hid hw2
  rw [← hw2]
  clear hw2 C1 C2 C3 k0 k1 k2 k3
  go_wp2_with (go_at_call 39; refine C4.out.mono ?_; rintro e w1 ⟨rfl, rfl⟩)
  go_ret
  refine ⟨rfl, 1, ?_⟩
  obtain ⟨os, hos⟩ := hG.out
  refine ⟨os ++ #[.cells #[.int .i64 x, .int .i64 y] 3], ?_⟩
  rw [alloc_eq_grow, HW.out, hos, Go.Sort.drew_grow, grow_grow]
  rfl

end Go.Proofs.Ytgonagkhnkhcnaa
