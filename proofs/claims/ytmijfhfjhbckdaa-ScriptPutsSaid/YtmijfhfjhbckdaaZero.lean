import Derived.Test.YtmijfhfjhbckdaaPutC
/- zero: is an act, but for its kind? -/
namespace Go.Proofs.Ytmijfhfjhbckdaa
set_option maxRecDepth 100000
open Go.RowKit
def zB (x1 : ByteArray) (x2 : Int) (x3 : ByteArray) (x5 : Int) (x6 : Bool) (x7 : Bool) (x8 : Int) (x9 : Bool) (x10 : Int) (x11 : Int) (x12 : Int) (x13 : Int) : Bool := ((0 == 0) && ((x1.toList == (⟨#[]⟩ : ByteArray).toList) && (((x2 == 0) && ((x3.toList == (⟨#[]⟩ : ByteArray).toList) && (feq 0 0 && true))) && (((x5 == 0) && ((x6 == false) && ((x7 == false) && ((x8 == 0) && ((x9 == false) && ((x10 == 0) && ((x11 == 0) && true))))))) && ((x12 == 0) && ((x13 == 0) && true))))))
theorem eqz47 (x1 : ByteArray) (x2 : Int) (x3 : ByteArray) (x5 : Int) (x6 : Bool) (x7 : Bool) (x8 : Int) (x9 : Bool) (x10 : Int) (x11 : Int) (x12 : Int) (x13 : Int) (W : World) : (binOp .eql 47 (.agg #[.int .i64 0, .string x1, .int .i64 x2, .string x3, .float .f64 0, .int .i64 x5, .bool x6, .bool x7, .int .u32 x8, .bool x9, .int .i64 x10, .int .i64 x11, .int .i64 x12, .int .i64 x13]) (.agg #[.int .i64 0, .string ⟨#[]⟩, .int .i64 0, .string ⟨#[]⟩, .float .f64 0, .int .i64 0, .bool false, .bool false, .int .u32 0, .bool false, .int .i64 0, .int .i64 0, .int .i64 0, .int .i64 0])).run Try.prog W = .ok (.bool (zB x1 x2 x3 x5 x6 x7 x8 x9 x10 x11 x12 x13)) W := eql47 0 x1 x2 x3 0 x5 x6 x7 x8 x9 x10 x11 x12 x13 0 ⟨#[]⟩ 0 ⟨#[]⟩ 0 0 false false 0 false 0 0 0 0 W
set_option maxHeartbeats 4000000 in
theorem zero_any (x0 : Int) (x1 : ByteArray) (x2 : Int) (x3 : ByteArray) (x4 : Nat) (x5 : Int) (x6 : Bool) (x7 : Bool) (x8 : Int) (x9 : Bool) (x10 : Int) (x11 : Int) (x12 : Int) (x13 : Int) (w : World) : Calls Try.prog 34 #[.agg #[.int .i64 x0, .string x1, .int .i64 x2, .string x3, .float .f64 x4, .int .i64 x5, .bool x6, .bool x7, .int .u32 x8, .bool x9, .int .i64 x10, .int .i64 x11, .int .i64 x12, .int .i64 x13]] w fun e w' => e = .returned (.bool ((zB x1 x2 x3 x5 x6 x7 x8 x9 x10 x11 x12 x13) && (x4 == 0))) ∧ Below w.heap.size w w' := by
  obtain ⟨W, hW⟩ : ∃ W, W = w.alloc (.cells #[.int .i64 x0, .string x1, .int .i64 x2, .string x3, .float .f64 x4, .int .i64 x5, .bool x6, .bool x7, .int .u32 x8, .bool x9, .int .i64 x10, .int .i64 x11, .int .i64 x12, .int .i64 x13] 47) := ⟨_, rfl⟩
  obtain ⟨A, hA⟩ : ∃ x, x = w.heap.size := ⟨_, rfl⟩
  have gA : W.heap[A]? = some (.cells #[.int .i64 x0, .string x1, .int .i64 x2, .string x3, .float .f64 x4, .int .i64 x5, .bool x6, .bool x7, .int .u32 x8, .bool x9, .int .i64 x10, .int .i64 x11, .int .i64 x12, .int .i64 x13] 47 (0, 0)) := by rw [hW, hA]; exact alloc_new _ _
  have bW : Below w.heap.size w W := by rw [hW]; exact (Below.refl _ _).alloc (Nat.le_refl _) _
  have lA : w.heap.size ≤ A := by omega
  have sf := store_float
  have br := bits_run
  have a4 := cellAt (i := 4) (v := .float .f64 x4) gA rfl
  have a0 := cellAt (i := 0) (v := .int .i64 x0) gA rfl
  have f0 := Lib.frozen_of_heap gA 0
  have f4 := Lib.frozen_of_heap gA 4
  have GA := Lib.hid gA
  have BW := Lib.hid bW
  clear gA bW
  go_enter Try.func34, Try.ntmps34
  go_upto_region 1 with (fail)
  rw [← hW, ← hA]
  clear hW hA
  go_upto_region 3 with (fail)
  obtain ⟨U, hU⟩ : ∃ U, U = (W.setCell ⟨A, 0, none⟩ (.int .i64 0)).setCell ⟨A, 4, none⟩ (.float .f64 0) := ⟨_, rfl⟩
  have gU : U.heap[A]? = some (.cells #[.int .i64 0, .string x1, .int .i64 x2, .string x3, .float .f64 0, .int .i64 x5, .bool x6, .bool x7, .int .u32 x8, .bool x9, .int .i64 x10, .int .i64 x11, .int .i64 x12, .int .i64 x13] 47 (0, 0)) := by rw [hU]; simp [World.setCell, Array.getElem?_modify, GA.out]
  have bU : Below w.heap.size w U := by rw [hU]; exact (BW.out.setCell (p := ⟨A, 0, none⟩) lA _).setCell (p := ⟨A, 4, none⟩) lA _
  rw [← hU]
  clear hU a0 a4 f0 f4 GA BW
  have a0 := cellAt (i := 0) (v := .int .i64 0) gU rfl
  have a1 := cellAt (i := 1) (v := .string x1) gU rfl
  have a2 := cellAt (i := 2) (v := .int .i64 x2) gU rfl
  have a3 := cellAt (i := 3) (v := .string x3) gU rfl
  have a4 := cellAt (i := 4) (v := .float .f64 0) gU rfl
  have a5 := cellAt (i := 5) (v := .int .i64 x5) gU rfl
  have a6 := cellAt (i := 6) (v := .bool x6) gU rfl
  have a7 := cellAt (i := 7) (v := .bool x7) gU rfl
  have a8 := cellAt (i := 8) (v := .int .u32 x8) gU rfl
  have a9 := cellAt (i := 9) (v := .bool x9) gU rfl
  have a10 := cellAt (i := 10) (v := .int .i64 x10) gU rfl
  have a11 := cellAt (i := 11) (v := .int .i64 x11) gU rfl
  have a12 := cellAt (i := 12) (v := .int .i64 x12) gU rfl
  have a13 := cellAt (i := 13) (v := .int .i64 x13) gU rfl
  have BU := Lib.hid bU
  clear gU bU
  obtain ⟨Z, hZ⟩ : ∃ Z, Z = (zB x1 x2 x3 x5 x6 x7 x8 x9 x10 x11 x12 x13) := ⟨_, rfl⟩
  have ez : ∀ W : World, (binOp .eql 47 (.agg #[.int .i64 0, .string x1, .int .i64 x2, .string x3, .float .f64 0, .int .i64 x5, .bool x6, .bool x7, .int .u32 x8, .bool x9, .int .i64 x10, .int .i64 x11, .int .i64 x12, .int .i64 x13]) (.agg #[.int .i64 0, .string ⟨#[]⟩, .int .i64 0, .string ⟨#[]⟩, .float .f64 0, .int .i64 0, .bool false, .bool false, .int .u32 0, .bool false, .int .i64 0, .int .i64 0, .int .i64 0, .int .i64 0])).run Try.prog W = .ok (.bool Z) W := fun W => by rw [hZ]; exact eqz47 x1 x2 x3 x5 x6 x7 x8 x9 x10 x11 x12 x13 W
  have g47 := guard47
  obtain ⟨F, hF⟩ : ∃ F, F = (x4 == 0) := ⟨_, rfl⟩
  have hF2 : ((x4 : Int) == 0) = F := by rw [hF, Bool.eq_iff_iff]; simp
  have HZ := Lib.hid hZ
  have HF := Lib.hid hF
  clear hZ hF
  cases Z with
  | true =>
    go_wp2_with (fail)
    go_ret
    exact ⟨by rw [← HZ.out, ← HF.out]; cases F <;> rfl, BU.out⟩
  | false =>
    go_wp2_with (fail)
    go_ret
    exact ⟨by rw [← HZ.out]; rfl, BU.out⟩
end Go.Proofs.Ytmijfhfjhbckdaa
