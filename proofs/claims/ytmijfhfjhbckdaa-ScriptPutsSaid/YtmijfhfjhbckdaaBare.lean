import Derived.Test.YtmijfhfjhbckdaaSame
import Derived.Test.YtmijfhfjhbckdaaWri
/- Numbers written whatever they are; fit; the closures that make bare. -/
namespace Go.Proofs.Ytmijfhfjhbckdaa
set_option maxRecDepth 100000
open Go.RowKit
/-- a number as a uint64 -/
def u64 (z : Int) : Nat := (z % 18446744073709551616).toNat
theorem u64_lt (z : Int) : u64 z < 18446744073709551616 := by unfold u64; omega
theorem u64_nat (n : Nat) (h : n < 18446744073709551616) : u64 (n : Int) = n := by unfold u64; omega
set_option maxHeartbeats 1000000 in
theorem w8_z (b : Nat) (z : Int) (l : List UInt8) (w : World) (h : IsW b l w) (hlen : l.length ≤ 900000000000) :
    Calls Try.prog 35 #[.pointer (some ⟨b, 0, none⟩), .int .i64 z] w fun e w' => e = .returned (.tuple #[]) ∧ IsW b (l ++ be (u64 z) 1) w' ∧ Keeps b w w' := by
  obtain ⟨n, hn⟩ : ∃ n, n = u64 z := ⟨_, rfl⟩
  have C : Hid (Calls Try.prog 65 #[.pointer (some ⟨b, 0, none⟩), .int .u64 (n : Nat), .int .i64 1] w fun e w' => e = .returned (.tuple #[]) ∧ IsW b (l ++ be n 1) w' ∧ Keeps b w w') := number_k b n 1 l w (by rw [hn]; exact u64_lt z) (by omega) h hlen
  have hw : IntKind.u64.wrap z = (n : Int) := by rw [hn, IntKind.wrap_u64]; unfold u64; omega
  rw [← hn]
  clear h hn
  go_enter Try.func35, Try.ntmps35
  go_wp2_with (go_at_call 65; (with_reducible refine C.out.mono ?_); rintro e w1 ⟨rfl, h1, h2⟩)
  go_end0
  exact ⟨rfl, h1, h2⟩
set_option maxHeartbeats 1000000 in
theorem w16_z (b : Nat) (z : Int) (l : List UInt8) (w : World) (h : IsW b l w) (hlen : l.length ≤ 900000000000) :
    Calls Try.prog 39 #[.pointer (some ⟨b, 0, none⟩), .int .i64 z] w fun e w' => e = .returned (.tuple #[]) ∧ IsW b (l ++ be (u64 z) 2) w' ∧ Keeps b w w' := by
  obtain ⟨n, hn⟩ : ∃ n, n = u64 z := ⟨_, rfl⟩
  have C : Hid (Calls Try.prog 65 #[.pointer (some ⟨b, 0, none⟩), .int .u64 (n : Nat), .int .i64 2] w fun e w' => e = .returned (.tuple #[]) ∧ IsW b (l ++ be n 2) w' ∧ Keeps b w w') := number_k b n 2 l w (by rw [hn]; exact u64_lt z) (by omega) h hlen
  have hw : IntKind.u64.wrap z = (n : Int) := by rw [hn, IntKind.wrap_u64]; unfold u64; omega
  rw [← hn]
  clear h hn
  go_enter Try.func39, Try.ntmps39
  go_wp2_with (go_at_call 65; (with_reducible refine C.out.mono ?_); rintro e w1 ⟨rfl, h1, h2⟩)
  go_end0
  exact ⟨rfl, h1, h2⟩
set_option maxHeartbeats 1000000 in
theorem w64_k (b n : Nat) (l : List UInt8) (w : World) (hn : n < 18446744073709551616) (h : IsW b l w) (hlen : l.length ≤ 900000000000) :
    Calls Try.prog 72 #[.pointer (some ⟨b, 0, none⟩), .int .u64 (n : Nat)] w fun e w' => e = .returned (.tuple #[]) ∧ IsW b (l ++ be n 8) w' ∧ Keeps b w w' := by
  have C : Hid (Calls Try.prog 65 #[.pointer (some ⟨b, 0, none⟩), .int .u64 (n : Nat), .int .i64 8] w fun e w' => e = .returned (.tuple #[]) ∧ IsW b (l ++ be n 8) w' ∧ Keeps b w w') := number_k b n 8 l w hn (by omega) h hlen
  clear h
  go_enter Try.func72, Try.ntmps72
  go_wp2_with (go_at_call 65; (with_reducible refine C.out.mono ?_); rintro e w1 ⟨rfl, h1, h2⟩)
  go_end0
  exact ⟨rfl, h1, h2⟩
/-- is a number one of two bytes? -/
def fits (z : Int) : Bool := decide (0 ≤ z ∧ z ≤ 65535)
set_option maxHeartbeats 2000000 in
theorem fit_one (g : Nat) (x : Int) (w : World) (h : w.cell? ⟨g, 0, none⟩ = some (.int .i64 x)) : Calls Try.prog 41 #[.slice (some ⟨g, 0, none⟩) 1 1] w fun e w' => e = .returned (.bool (fits x)) ∧ w' = w := by
  go_enter Try.func41, Try.ntmps41
  go_wp2_with (fail)
  go_loop [7] (fun i => ∃ j : Nat, j ≤ 1 ∧ i = .int .i64 j ∧ Hid (1 ≤ j → fits x = true)) (fun i => 1 - (intOf i).toNat)
  case atStart => exact ⟨0, by omega, rfl, fun h => by omega⟩
  case round =>
    obtain ⟨j, hj, rfl, hf⟩ := hrel
    by_cases h1 : j = 1
    · subst h1
      have hf := hf.out (by omega)
      go_wp2_with (fail)
      go_ret
      exact ⟨by first | rfl | (rw [hf]; rfl), rfl⟩
    · obtain rfl : j = 0 := by omega
      clear h1 hj hf
      by_cases h0 : x < 0
      · have e0 : decide (x < 0) = true := decide_eq_true h0
        have hf : Hid (fits x = false) := by show _ = _; unfold fits; simp; omega
        go_wp2_with (fail)
        go_ret
        exact ⟨by rw [hf.out]; rfl, rfl⟩
      · have e0 : decide (x < 0) = false := decide_eq_false h0
        by_cases h2 : x > 65535
        · have e1 : decide (65535 < x) = true := decide_eq_true h2
          have hf : Hid (fits x = false) := by show _ = _; unfold fits; simp; omega
          go_wp2_with (fail)
          go_ret
          exact ⟨by rw [hf.out]; rfl, rfl⟩
        · have e1 : decide (65535 < x) = false := decide_eq_false (by omega)
          have hf : fits x = true := by unfold fits; simp; omega
          have HF := Lib.hid hf
          clear hf
          go_wp2_with (fail)
          exact ⟨⟨1, by omega, by go_num, fun _ => HF.out⟩, by simp [intOf]⟩
set_option maxHeartbeats 1000000 in
theorem bare_mov (A : Nat) (x0 : Int) (x1 : ByteArray) (x2 : Int) (x3 : ByteArray) (x4 : Nat) (x5 : Int) (x6 : Bool) (x7 : Bool) (x8 : Int) (x9 : Bool) (x10 : Int) (x11 : Int) (x12 : Int) (x13 : Int) (w : World) (h : w.heap[A]? = some (.cells #[.int .i64 x0, .string x1, .int .i64 x2, .string x3, .float .f64 x4, .int .i64 x5, .bool x6, .bool x7, .int .u32 x8, .bool x9, .int .i64 x10, .int .i64 x11, .int .i64 x12, .int .i64 x13] 47 (0, 0))) : Calls Try.prog 54 #[.pointer (some ⟨A, 0, none⟩)] w fun e w' => e = .returned (.tuple #[]) ∧ w'.heap[A]? = some (.cells #[.int .i64 x0, .string x1, .int .i64 x2, .string x3, .float .f64 x4, .int .i64 x5, .bool x6, .bool x7, .int .u32 x8, .bool x9, .int .i64 x10, .int .i64 x11, .int .i64 0, .int .i64 0] 47 (0, 0)) ∧ Save [A] w w' := by
  have sf := store_float
  have k12 := cellAt (i := 12) (v := .int .i64 x12) h rfl
  have f12 := Lib.frozen_of_heap h 12
  have k13 := cellAt (i := 13) (v := .int .i64 x13) h rfl
  have f13 := Lib.frozen_of_heap h 13
  have H := Lib.hid h
  clear h
  go_enter Try.func54, Try.ntmps54
  go_wp2_with (fail)
  go_end0
  refine ⟨rfl, ?_, ((((Save.refl _ _).set (p := ⟨A, 12, none⟩) (.inl (by simp)) _)).set (p := ⟨A, 13, none⟩) (.inl (by simp)) _)⟩
  simp [World.setCell, Array.getElem?_modify, H.out]
set_option maxHeartbeats 1000000 in
theorem bare_tun (A : Nat) (x0 : Int) (x1 : ByteArray) (x2 : Int) (x3 : ByteArray) (x4 : Nat) (x5 : Int) (x6 : Bool) (x7 : Bool) (x8 : Int) (x9 : Bool) (x10 : Int) (x11 : Int) (x12 : Int) (x13 : Int) (w : World) (h : w.heap[A]? = some (.cells #[.int .i64 x0, .string x1, .int .i64 x2, .string x3, .float .f64 x4, .int .i64 x5, .bool x6, .bool x7, .int .u32 x8, .bool x9, .int .i64 x10, .int .i64 x11, .int .i64 x12, .int .i64 x13] 47 (0, 0))) : Calls Try.prog 57 #[.pointer (some ⟨A, 0, none⟩)] w fun e w' => e = .returned (.tuple #[]) ∧ w'.heap[A]? = some (.cells #[.int .i64 x0, .string x1, .int .i64 x2, .string x3, .float .f64 x4, .int .i64 0, .bool false, .bool false, .int .u32 0, .bool false, .int .i64 0, .int .i64 0, .int .i64 x12, .int .i64 x13] 47 (0, 0)) ∧ Save [A] w w' := by
  have sf := store_float
  have k5 := cellAt (i := 5) (v := .int .i64 x5) h rfl
  have f5 := Lib.frozen_of_heap h 5
  have k6 := cellAt (i := 6) (v := .bool x6) h rfl
  have f6 := Lib.frozen_of_heap h 6
  have k7 := cellAt (i := 7) (v := .bool x7) h rfl
  have f7 := Lib.frozen_of_heap h 7
  have k8 := cellAt (i := 8) (v := .int .u32 x8) h rfl
  have f8 := Lib.frozen_of_heap h 8
  have k9 := cellAt (i := 9) (v := .bool x9) h rfl
  have f9 := Lib.frozen_of_heap h 9
  have k10 := cellAt (i := 10) (v := .int .i64 x10) h rfl
  have f10 := Lib.frozen_of_heap h 10
  have k11 := cellAt (i := 11) (v := .int .i64 x11) h rfl
  have f11 := Lib.frozen_of_heap h 11
  have H := Lib.hid h
  clear h
  go_enter Try.func57, Try.ntmps57
  go_wp2_with (fail)
  go_end0
  refine ⟨rfl, ?_, ((((((((((((((Save.refl _ _).set (p := ⟨A, 5, none⟩) (.inl (by simp)) _)).set (p := ⟨A, 6, none⟩) (.inl (by simp)) _)).set (p := ⟨A, 7, none⟩) (.inl (by simp)) _)).set (p := ⟨A, 8, none⟩) (.inl (by simp)) _)).set (p := ⟨A, 9, none⟩) (.inl (by simp)) _)).set (p := ⟨A, 10, none⟩) (.inl (by simp)) _)).set (p := ⟨A, 11, none⟩) (.inl (by simp)) _)⟩
  simp [World.setCell, Array.getElem?_modify, H.out]
set_option maxHeartbeats 1000000 in
theorem bare_pkt (A : Nat) (x0 : Int) (x1 : ByteArray) (x2 : Int) (x3 : ByteArray) (x4 : Nat) (x5 : Int) (x6 : Bool) (x7 : Bool) (x8 : Int) (x9 : Bool) (x10 : Int) (x11 : Int) (x12 : Int) (x13 : Int) (w : World) (h : w.heap[A]? = some (.cells #[.int .i64 x0, .string x1, .int .i64 x2, .string x3, .float .f64 x4, .int .i64 x5, .bool x6, .bool x7, .int .u32 x8, .bool x9, .int .i64 x10, .int .i64 x11, .int .i64 x12, .int .i64 x13] 47 (0, 0))) : Calls Try.prog 70 #[.pointer (some ⟨A, 0, none⟩)] w fun e w' => e = .returned (.tuple #[]) ∧ w'.heap[A]? = some (.cells #[.int .i64 x0, .string ⟨#[]⟩, .int .i64 x2, .string x3, .float .f64 x4, .int .i64 x5, .bool x6, .bool x7, .int .u32 x8, .bool x9, .int .i64 x10, .int .i64 x11, .int .i64 x12, .int .i64 x13] 47 (0, 0)) ∧ Save [A] w w' := by
  have sf := store_float
  have k1 := cellAt (i := 1) (v := .string x1) h rfl
  have f1 := Lib.frozen_of_heap h 1
  have H := Lib.hid h
  clear h
  go_enter Try.func70, Try.ntmps70
  go_wp2_with (fail)
  go_end0
  refine ⟨rfl, ?_, ((Save.refl _ _).set (p := ⟨A, 1, none⟩) (.inl (by simp)) _)⟩
  simp [World.setCell, Array.getElem?_modify, H.out]
set_option maxHeartbeats 1000000 in
theorem bare_add (A : Nat) (x0 : Int) (x1 : ByteArray) (x2 : Int) (x3 : ByteArray) (x4 : Nat) (x5 : Int) (x6 : Bool) (x7 : Bool) (x8 : Int) (x9 : Bool) (x10 : Int) (x11 : Int) (x12 : Int) (x13 : Int) (w : World) (h : w.heap[A]? = some (.cells #[.int .i64 x0, .string x1, .int .i64 x2, .string x3, .float .f64 x4, .int .i64 x5, .bool x6, .bool x7, .int .u32 x8, .bool x9, .int .i64 x10, .int .i64 x11, .int .i64 x12, .int .i64 x13] 47 (0, 0))) : Calls Try.prog 75 #[.pointer (some ⟨A, 0, none⟩)] w fun e w' => e = .returned (.tuple #[]) ∧ w'.heap[A]? = some (.cells #[.int .i64 x0, .string x1, .int .i64 0, .string ⟨#[]⟩, .float .f64 0, .int .i64 x5, .bool x6, .bool x7, .int .u32 x8, .bool x9, .int .i64 x10, .int .i64 x11, .int .i64 x12, .int .i64 x13] 47 (0, 0)) ∧ Save [A] w w' := by
  have sf := store_float
  have k2 := cellAt (i := 2) (v := .int .i64 x2) h rfl
  have f2 := Lib.frozen_of_heap h 2
  have k3 := cellAt (i := 3) (v := .string x3) h rfl
  have f3 := Lib.frozen_of_heap h 3
  have k4 := cellAt (i := 4) (v := .float .f64 x4) h rfl
  have f4 := Lib.frozen_of_heap h 4
  have H := Lib.hid h
  clear h
  go_enter Try.func75, Try.ntmps75
  go_wp2_with (fail)
  go_end0
  refine ⟨rfl, ?_, ((((((Save.refl _ _).set (p := ⟨A, 2, none⟩) (.inl (by simp)) _)).set (p := ⟨A, 3, none⟩) (.inl (by simp)) _)).set (p := ⟨A, 4, none⟩) (.inl (by simp)) _)⟩
  simp [World.setCell, Array.getElem?_modify, H.out]
set_option maxHeartbeats 1000000 in
theorem bare_num (A : Nat) (x0 : Int) (x1 : ByteArray) (x2 : Int) (x3 : ByteArray) (x4 : Nat) (x5 : Int) (x6 : Bool) (x7 : Bool) (x8 : Int) (x9 : Bool) (x10 : Int) (x11 : Int) (x12 : Int) (x13 : Int) (w : World) (h : w.heap[A]? = some (.cells #[.int .i64 x0, .string x1, .int .i64 x2, .string x3, .float .f64 x4, .int .i64 x5, .bool x6, .bool x7, .int .u32 x8, .bool x9, .int .i64 x10, .int .i64 x11, .int .i64 x12, .int .i64 x13] 47 (0, 0))) : Calls Try.prog 78 #[.pointer (some ⟨A, 0, none⟩)] w fun e w' => e = .returned (.tuple #[]) ∧ w'.heap[A]? = some (.cells #[.int .i64 x0, .string x1, .int .i64 x2, .string x3, .float .f64 x4, .int .i64 x5, .bool x6, .bool x7, .int .u32 x8, .bool x9, .int .i64 x10, .int .i64 x11, .int .i64 0, .int .i64 x13] 47 (0, 0)) ∧ Save [A] w w' := by
  have sf := store_float
  have k12 := cellAt (i := 12) (v := .int .i64 x12) h rfl
  have f12 := Lib.frozen_of_heap h 12
  have H := Lib.hid h
  clear h
  go_enter Try.func78, Try.ntmps78
  go_wp2_with (fail)
  go_end0
  refine ⟨rfl, ?_, ((Save.refl _ _).set (p := ⟨A, 12, none⟩) (.inl (by simp)) _)⟩
  simp [World.setCell, Array.getElem?_modify, H.out]
theorem bare_non (A : Nat) (w : World) : Calls Try.prog 60 #[.pointer (some ⟨A, 0, none⟩)] w fun e w' => e = .returned (.tuple #[]) ∧ w' = w := by
  go_enter Try.func60, Try.ntmps60
  go_wp2_with (fail)
  go_end0
  exact ⟨rfl, rfl⟩
end Go.Proofs.Ytmijfhfjhbckdaa
