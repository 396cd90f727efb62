import Derived.Test.YtmijfhfjhbckdaaEqS
/- Same: an act is the same as itself. -/
namespace Go.Proofs.Ytmijfhfjhbckdaa
set_option maxRecDepth 100000
open Go.RowKit
theorem bits_run (b : Nat) (w : World) : (callFunc 46 #[.float .f64 b]).run Try.prog w = .ok (.value (.int .u64 b)) w := by
  rw [run_callFunc_extern (e := Extern.MathFloatBits.float64bits) Try.func46 (by kernel_rfl) (by kernel_rfl) (by kernel_rfl) (by kernel_rfl)]
  rfl
theorem feq00 : feq 0 0 = true := by kernel_rfl
theorem eqz (x0 : Int) (x1 : ByteArray) (x2 : Int) (x3 : ByteArray) (x5 : Int) (x6 : Bool) (x7 : Bool) (x8 : Int) (x9 : Bool) (x10 : Int) (x11 : Int) (x12 : Int) (x13 : Int) (W : World) : (binOp .eql 47 (.agg #[.int .i64 x0, .string x1, .int .i64 x2, .string x3, .float .f64 0, .int .i64 x5, .bool x6, .bool x7, .int .u32 x8, .bool x9, .int .i64 x10, .int .i64 x11, .int .i64 x12, .int .i64 x13]) (.agg #[.int .i64 x0, .string x1, .int .i64 x2, .string x3, .float .f64 0, .int .i64 x5, .bool x6, .bool x7, .int .u32 x8, .bool x9, .int .i64 x10, .int .i64 x11, .int .i64 x12, .int .i64 x13])).run Try.prog W = .ok (.bool true) W := by
  rw [eql47 x0 x1 x2 x3 0 x5 x6 x7 x8 x9 x10 x11 x12 x13 x0 x1 x2 x3 0 x5 x6 x7 x8 x9 x10 x11 x12 x13 W, feq00]
  simp
set_option maxHeartbeats 4000000 in
theorem same_any (x0 : Int) (x1 : ByteArray) (x2 : Int) (x3 : ByteArray) (x4 : Nat) (x5 : Int) (x6 : Bool) (x7 : Bool) (x8 : Int) (x9 : Bool) (x10 : Int) (x11 : Int) (x12 : Int) (x13 : Int) (w : World) : Calls Try.prog 29 #[.agg #[.int .i64 x0, .string x1, .int .i64 x2, .string x3, .float .f64 x4, .int .i64 x5, .bool x6, .bool x7, .int .u32 x8, .bool x9, .int .i64 x10, .int .i64 x11, .int .i64 x12, .int .i64 x13], .agg #[.int .i64 x0, .string x1, .int .i64 x2, .string x3, .float .f64 x4, .int .i64 x5, .bool x6, .bool x7, .int .u32 x8, .bool x9, .int .i64 x10, .int .i64 x11, .int .i64 x12, .int .i64 x13]] w fun e w' => e = .returned (.bool true) ∧ Below w.heap.size w w' := by
  obtain ⟨W, hW⟩ : ∃ W, W = (w.alloc (.cells #[.int .i64 x0, .string x1, .int .i64 x2, .string x3, .float .f64 x4, .int .i64 x5, .bool x6, .bool x7, .int .u32 x8, .bool x9, .int .i64 x10, .int .i64 x11, .int .i64 x12, .int .i64 x13] 47)).alloc (.cells #[.int .i64 x0, .string x1, .int .i64 x2, .string x3, .float .f64 x4, .int .i64 x5, .bool x6, .bool x7, .int .u32 x8, .bool x9, .int .i64 x10, .int .i64 x11, .int .i64 x12, .int .i64 x13] 47) := ⟨_, rfl⟩
  obtain ⟨A, hA⟩ : ∃ x, x = w.heap.size := ⟨_, rfl⟩
  obtain ⟨B, hB⟩ : ∃ x, x = w.heap.size + 1 := ⟨_, rfl⟩
  have gA : W.heap[A]? = some (.cells #[.int .i64 x0, .string x1, .int .i64 x2, .string x3, .float .f64 x4, .int .i64 x5, .bool x6, .bool x7, .int .u32 x8, .bool x9, .int .i64 x10, .int .i64 x11, .int .i64 x12, .int .i64 x13] 47 (0, 0)) := by rw [hW, hA]; exact heap_alloc2_old _ _ _
  have gB : W.heap[B]? = some (.cells #[.int .i64 x0, .string x1, .int .i64 x2, .string x3, .float .f64 x4, .int .i64 x5, .bool x6, .bool x7, .int .u32 x8, .bool x9, .int .i64 x10, .int .i64 x11, .int .i64 x12, .int .i64 x13] 47 (0, 0)) := by rw [hW, hB]; exact heap_alloc2_new _ _ _
  have bW : Below w.heap.size w W := by rw [hW]; exact ((Below.refl _ _).alloc (Nat.le_refl _) _).alloc (by simp) _
  have nAB : A ≠ B := by omega
  have nBA : B ≠ A := by omega
  have lA : w.heap.size ≤ A := by omega
  have lB : w.heap.size ≤ B := by omega
  have sf := store_float
  have br := bits_run
  have a4 := cellAt (i := 4) (v := .float .f64 x4) gA rfl
  have b4 := cellAt (i := 4) (v := .float .f64 x4) gB rfl
  have GA := Lib.hid gA
  have GB := Lib.hid gB
  have BW := Lib.hid bW
  clear gA gB bW
  go_enter Try.func29, Try.ntmps29
  go_upto_region 1 with (fail)
  rw [← hW, ← hB, ← hA]
  clear hW hA hB
  go_quiet (fail)
  obtain ⟨V, hV⟩ : ∃ V, V = (W.drewN nq) := ⟨_, rfl⟩
  have gA : V.heap[A]? = some (.cells #[.int .i64 x0, .string x1, .int .i64 x2, .string x3, .float .f64 x4, .int .i64 x5, .bool x6, .bool x7, .int .u32 x8, .bool x9, .int .i64 x10, .int .i64 x11, .int .i64 x12, .int .i64 x13] 47 (0, 0)) := by rw [hV]; exact GA.out
  have gB : V.heap[B]? = some (.cells #[.int .i64 x0, .string x1, .int .i64 x2, .string x3, .float .f64 x4, .int .i64 x5, .bool x6, .bool x7, .int .u32 x8, .bool x9, .int .i64 x10, .int .i64 x11, .int .i64 x12, .int .i64 x13] 47 (0, 0)) := by rw [hV]; exact GB.out
  have bV : Below w.heap.size w V := by rw [hV]; exact ⟨BW.out.os, BW.out.tape, BW.out.output, BW.out.size, BW.out.block⟩
  rw [← hV]
  clear hV GA GB BW a4 b4
  have a4 := cellAt (i := 4) (v := .float .f64 x4) gA rfl
  have b4 := cellAt (i := 4) (v := .float .f64 x4) gB rfl
  have fA := Lib.frozen_of_heap gA 4
  have fB := Lib.frozen_of_heap gB 4
  have GA := Lib.hid gA
  have GB := Lib.hid gB
  have BV := Lib.hid bV
  clear gA gB bV
  go_upto_region 4 with (fail)
  obtain ⟨U, hU⟩ : ∃ U, U = (V.setCell ⟨A, 4, none⟩ (.float .f64 0)).setCell ⟨B, 4, none⟩ (.float .f64 0) := ⟨_, rfl⟩
  have gA : U.heap[A]? = some (.cells #[.int .i64 x0, .string x1, .int .i64 x2, .string x3, .float .f64 0, .int .i64 x5, .bool x6, .bool x7, .int .u32 x8, .bool x9, .int .i64 x10, .int .i64 x11, .int .i64 x12, .int .i64 x13] 47 (0, 0)) := by rw [hU, heap_off A B nAB]; exact heap_set GA.out (i := 4) (by simp) _
  have gB : U.heap[B]? = some (.cells #[.int .i64 x0, .string x1, .int .i64 x2, .string x3, .float .f64 0, .int .i64 x5, .bool x6, .bool x7, .int .u32 x8, .bool x9, .int .i64 x10, .int .i64 x11, .int .i64 x12, .int .i64 x13] 47 (0, 0)) := by rw [hU]; exact heap_set (w := V.setCell ⟨A, 4, none⟩ (.float .f64 0)) (by rw [heap_off B A nBA]; exact GB.out) (i := 4) (by simp) _
  have bU : Below w.heap.size w U := by rw [hU]; exact (BV.out.setCell (p := ⟨A, 4, none⟩) lA _).setCell (p := ⟨B, 4, none⟩) lB _
  rw [← hU]
  clear hU a4 b4 fA fB GA GB BV
  have a0 := cellAt (i := 0) (v := .int .i64 x0) gA rfl
  have a1 := cellAt (i := 1) (v := .string x1) gA rfl
  have a2 := cellAt (i := 2) (v := .int .i64 x2) gA rfl
  have a3 := cellAt (i := 3) (v := .string x3) gA rfl
  have a4 := cellAt (i := 4) (v := .float .f64 0) gA rfl
  have a5 := cellAt (i := 5) (v := .int .i64 x5) gA rfl
  have a6 := cellAt (i := 6) (v := .bool x6) gA rfl
  have a7 := cellAt (i := 7) (v := .bool x7) gA rfl
  have a8 := cellAt (i := 8) (v := .int .u32 x8) gA rfl
  have a9 := cellAt (i := 9) (v := .bool x9) gA rfl
  have a10 := cellAt (i := 10) (v := .int .i64 x10) gA rfl
  have a11 := cellAt (i := 11) (v := .int .i64 x11) gA rfl
  have a12 := cellAt (i := 12) (v := .int .i64 x12) gA rfl
  have a13 := cellAt (i := 13) (v := .int .i64 x13) gA rfl
  have b0 := cellAt (i := 0) (v := .int .i64 x0) gB rfl
  have b1 := cellAt (i := 1) (v := .string x1) gB rfl
  have b2 := cellAt (i := 2) (v := .int .i64 x2) gB rfl
  have b3 := cellAt (i := 3) (v := .string x3) gB rfl
  have b4 := cellAt (i := 4) (v := .float .f64 0) gB rfl
  have b5 := cellAt (i := 5) (v := .int .i64 x5) gB rfl
  have b6 := cellAt (i := 6) (v := .bool x6) gB rfl
  have b7 := cellAt (i := 7) (v := .bool x7) gB rfl
  have b8 := cellAt (i := 8) (v := .int .u32 x8) gB rfl
  have b9 := cellAt (i := 9) (v := .bool x9) gB rfl
  have b10 := cellAt (i := 10) (v := .int .i64 x10) gB rfl
  have b11 := cellAt (i := 11) (v := .int .i64 x11) gB rfl
  have b12 := cellAt (i := 12) (v := .int .i64 x12) gB rfl
  have b13 := cellAt (i := 13) (v := .int .i64 x13) gB rfl
  have BU := Lib.hid bU
  clear gA gB bU
  have ez := fun W => eqz x0 x1 x2 x3 x5 x6 x7 x8 x9 x10 x11 x12 x13 W
  have g47 := guard47
  go_wp2_with (fail)
  go_ret
  exact ⟨rfl, BU.out⟩
end Go.Proofs.Ytmijfhfjhbckdaa
