import Derived.Test.YtmijfhfjhbckdaaRa
/- The document's act, by kinds. -/
namespace Go.Proofs.Ytmijfhfjhbckdaa
set_option maxRecDepth 100000
open Go.RowKit
set_option maxHeartbeats 4000000 in
theorem ract_5 (s : ByteArray) (l : List UInt8) (bd : BodyP) (w : World) (hl : l = s.data.toList) (h : getP 5 l = some (bd, [])) (hs : s.size ≤ MX) : Calls Try.prog 33 #[.int .i64 5, .string s] w fun e w' => e = .returned (.agg (actC 5 bd)) ∧ Below w.heap.size w w' := by
  rw [get_num l (by simp)] at h
  obtain ⟨n, hn⟩ : ∃ x, x = bv l := ⟨_, rfl⟩
  have hbd : bd = .num n := by
    split at h
    · cases h
    · injection h with h; injection h with h1 h2
      rw [← h1, take_all h2, ← hn]
  have hl2 : s.size ≤ 8 := by
    split at h
    · cases h
    · injection h with h; injection h with _ h2
      rw [List.drop_eq_nil_iff] at h2
      have : l.length = s.size := by rw [hl]; simp
      omega
  have hl22 : s.size ≤ 2 := by
    split at h
    · cases h
    · injection h with h; injection h with _ h2
      rw [List.drop_eq_nil_iff] at h2
      have : l.length = s.size := by rw [hl]; simp
      omega
  have VA : Hid (∀ V, Calls Try.prog 28 #[.string s] V fun e w' => e = .returned (.int .u64 (n : Nat)) ∧ w' = V) := fun V => by
    have h := rvalue_any s V hl2
    rw [← hl, ← hn] at h
    exact h
  have hn9 : n < 65536 := by
    have h1 := bv_u16 l
    rw [hn]
    have h2 : l.take 2 = l := List.take_of_length_le (by have : l.length = s.size := by rw [hl]; simp
                                                         omega)
    rw [h2] at h1; exact h1
  have w1 : IntKind.i64.wrap (n : Int) = (n : Int) := IntWalk.i64_in _ (by omega)
  subst hbd
  clear h hl hn
  obtain ⟨W, hW⟩ : ∃ W, W = (w.alloc (.cells #[.int .i64 0, .string ⟨#[]⟩, .int .i64 0, .string ⟨#[]⟩, .float .f64 0, .int .i64 0, .bool false, .bool false, .int .u32 0, .bool false, .int .i64 0, .int .i64 0, .int .i64 0, .int .i64 0] 47)).alloc (.cells #[.int .i64 5, .string ⟨#[]⟩, .int .i64 0, .string ⟨#[]⟩, .float .f64 0, .int .i64 0, .bool false, .bool false, .int .u32 0, .bool false, .int .i64 0, .int .i64 0, .int .i64 0, .int .i64 0] 47) := ⟨_, rfl⟩
  obtain ⟨R, hR⟩ : ∃ x, x = w.heap.size := ⟨_, rfl⟩
  obtain ⟨A, hA⟩ : ∃ x, x = w.heap.size + 1 := ⟨_, rfl⟩
  have g0 : W.heap[R]? = some (.cells #[.int .i64 0, .string ⟨#[]⟩, .int .i64 0, .string ⟨#[]⟩, .float .f64 0, .int .i64 0, .bool false, .bool false, .int .u32 0, .bool false, .int .i64 0, .int .i64 0, .int .i64 0, .int .i64 0] 47 (0, 0)) := by rw [hW, hR]; exact heap_alloc2_old _ _ _
  have g1 : W.heap[A]? = some (.cells #[.int .i64 5, .string ⟨#[]⟩, .int .i64 0, .string ⟨#[]⟩, .float .f64 0, .int .i64 0, .bool false, .bool false, .int .u32 0, .bool false, .int .i64 0, .int .i64 0, .int .i64 0, .int .i64 0] 47 (0, 0)) := by rw [hW, hA]; exact heap_alloc2_new _ _ _
  have bW : Below w.heap.size w W := by rw [hW]; exact ((Below.refl _ _).alloc (Nat.le_refl _) _).alloc (by simp) _
  have nRA : R ≠ A := by omega
  have nAR : A ≠ R := by omega
  have lR : w.heap.size ≤ R := by omega
  have lA : w.heap.size ≤ A := by omega
  have sf := store_float
  have k12 := cellAt (i := 12) (v := .int .i64 0) g1 rfl
  have f12 := Lib.frozen_of_heap g1 12
  have G0 := Lib.hid g0
  have G1 := Lib.hid g1
  have BW := Lib.hid bW
  clear g0 g1 bW
  go_enter Try.func33, Try.ntmps33
  go_upto_region 3 with (fail)
  rw [← hW, ← hA, ← hR]
  clear hW hA hR
  go_upto_region 19 with (go_at_call 28; (with_reducible refine (VA.out _).mono ?_); rintro e w6 ⟨rfl, hw6⟩; replace hw6 := hw6.symm; subst hw6)
  obtain ⟨W5, hW5⟩ : ∃ V, V = (W.setCell ⟨A, 12, none⟩ (.int .i64 (n : Nat))) := ⟨_, rfl⟩
  have g5 : W5.heap[A]? = some (.cells #[.int .i64 5, .string ⟨#[]⟩, .int .i64 0, .string ⟨#[]⟩, .float .f64 0, .int .i64 0, .bool false, .bool false, .int .u32 0, .bool false, .int .i64 0, .int .i64 0, .int .i64 (n : Nat), .int .i64 0] 47 (0, 0)) := by
    rw [hW5]
    simp [World.setCell, Array.getElem?_modify, G1.out]
  have r5 : W5.heap[R]? = some (.cells #[.int .i64 0, .string ⟨#[]⟩, .int .i64 0, .string ⟨#[]⟩, .float .f64 0, .int .i64 0, .bool false, .bool false, .int .u32 0, .bool false, .int .i64 0, .int .i64 0, .int .i64 0, .int .i64 0] 47 (0, 0)) := by
    rw [hW5]
    try simp only [heap_off R A nRA]
    exact G0.out
  have b5 : Below w.heap.size w W5 := by
    rw [hW5]
    exact (BW.out.setCell (p := ⟨A, 12, none⟩) lA _)
  rw [← hW5]
  clear hW5 G0 G1 BW k12 f12
  have a0 := cellAt (i := 0) (v := .int .i64 5) g5 rfl
  have a1 := cellAt (i := 1) (v := .string ⟨#[]⟩) g5 rfl
  have a2 := cellAt (i := 2) (v := .int .i64 0) g5 rfl
  have a3 := cellAt (i := 3) (v := .string ⟨#[]⟩) g5 rfl
  have a4 := cellAt (i := 4) (v := .float .f64 0) g5 rfl
  have a5 := cellAt (i := 5) (v := .int .i64 0) g5 rfl
  have a6 := cellAt (i := 6) (v := .bool false) g5 rfl
  have a7 := cellAt (i := 7) (v := .bool false) g5 rfl
  have a8 := cellAt (i := 8) (v := .int .u32 0) g5 rfl
  have a9 := cellAt (i := 9) (v := .bool false) g5 rfl
  have a10 := cellAt (i := 10) (v := .int .i64 0) g5 rfl
  have a11 := cellAt (i := 11) (v := .int .i64 0) g5 rfl
  have a12 := cellAt (i := 12) (v := .int .i64 (n : Nat)) g5 rfl
  have a13 := cellAt (i := 13) (v := .int .i64 0) g5 rfl
  have rc0 := cellAt (i := 0) (v := .int .i64 0) r5 rfl
  have q0 := Lib.frozen_of_heap r5 0
  have rc1 := cellAt (i := 1) (v := .string ⟨#[]⟩) r5 rfl
  have q1 := Lib.frozen_of_heap r5 1
  have rc2 := cellAt (i := 2) (v := .int .i64 0) r5 rfl
  have q2 := Lib.frozen_of_heap r5 2
  have rc3 := cellAt (i := 3) (v := .string ⟨#[]⟩) r5 rfl
  have q3 := Lib.frozen_of_heap r5 3
  have rc4 := cellAt (i := 4) (v := .float .f64 0) r5 rfl
  have q4 := Lib.frozen_of_heap r5 4
  have rc5 := cellAt (i := 5) (v := .int .i64 0) r5 rfl
  have q5 := Lib.frozen_of_heap r5 5
  have rc6 := cellAt (i := 6) (v := .bool false) r5 rfl
  have q6 := Lib.frozen_of_heap r5 6
  have rc7 := cellAt (i := 7) (v := .bool false) r5 rfl
  have q7 := Lib.frozen_of_heap r5 7
  have rc8 := cellAt (i := 8) (v := .int .u32 0) r5 rfl
  have q8 := Lib.frozen_of_heap r5 8
  have rc9 := cellAt (i := 9) (v := .bool false) r5 rfl
  have q9 := Lib.frozen_of_heap r5 9
  have rc10 := cellAt (i := 10) (v := .int .i64 0) r5 rfl
  have q10 := Lib.frozen_of_heap r5 10
  have rc11 := cellAt (i := 11) (v := .int .i64 0) r5 rfl
  have q11 := Lib.frozen_of_heap r5 11
  have rc12 := cellAt (i := 12) (v := .int .i64 0) r5 rfl
  have q12 := Lib.frozen_of_heap r5 12
  have rc13 := cellAt (i := 13) (v := .int .i64 0) r5 rfl
  have q13 := Lib.frozen_of_heap r5 13
  have R5 := Lib.hid r5
  have B5 := Lib.hid b5
  clear g5 r5 b5
  skip
  go_wp2_with (fail)
  refine bodyPost_ret (v := .agg #[.int .i64 5, .string ⟨#[]⟩, .int .i64 0, .string ⟨#[]⟩, .float .f64 0, .int .i64 0, .bool false, .bool false, .int .u32 0, .bool false, .int .i64 0, .int .i64 0, .int .i64 (n : Nat), .int .i64 0]) (results_cell_row Try.results33 _ _ R 47 _ (0, 0) _ rfl (set14 R5.out) Try.underlying47 rfl (by kernel_rfl)) rfl ⟨?_, below14 B5.out lR⟩
  rfl
set_option maxHeartbeats 4000000 in
theorem ract_6 (s : ByteArray) (l : List UInt8) (bd : BodyP) (w : World) (hl : l = s.data.toList) (h : getP 6 l = some (bd, [])) (hs : s.size ≤ MX) : Calls Try.prog 33 #[.int .i64 6, .string s] w fun e w' => e = .returned (.agg (actC 6 bd)) ∧ Below w.heap.size w w' := by
  rw [get_num l (by simp)] at h
  obtain ⟨n, hn⟩ : ∃ x, x = bv l := ⟨_, rfl⟩
  have hbd : bd = .num n := by
    split at h
    · cases h
    · injection h with h; injection h with h1 h2
      rw [← h1, take_all h2, ← hn]
  have hl2 : s.size ≤ 8 := by
    split at h
    · cases h
    · injection h with h; injection h with _ h2
      rw [List.drop_eq_nil_iff] at h2
      have : l.length = s.size := by rw [hl]; simp
      omega
  have hl22 : s.size ≤ 2 := by
    split at h
    · cases h
    · injection h with h; injection h with _ h2
      rw [List.drop_eq_nil_iff] at h2
      have : l.length = s.size := by rw [hl]; simp
      omega
  have VA : Hid (∀ V, Calls Try.prog 28 #[.string s] V fun e w' => e = .returned (.int .u64 (n : Nat)) ∧ w' = V) := fun V => by
    have h := rvalue_any s V hl2
    rw [← hl, ← hn] at h
    exact h
  have hn9 : n < 65536 := by
    have h1 := bv_u16 l
    rw [hn]
    have h2 : l.take 2 = l := List.take_of_length_le (by have : l.length = s.size := by rw [hl]; simp
                                                         omega)
    rw [h2] at h1; exact h1
  have w1 : IntKind.i64.wrap (n : Int) = (n : Int) := IntWalk.i64_in _ (by omega)
  subst hbd
  clear h hl hn
  obtain ⟨W, hW⟩ : ∃ W, W = (w.alloc (.cells #[.int .i64 0, .string ⟨#[]⟩, .int .i64 0, .string ⟨#[]⟩, .float .f64 0, .int .i64 0, .bool false, .bool false, .int .u32 0, .bool false, .int .i64 0, .int .i64 0, .int .i64 0, .int .i64 0] 47)).alloc (.cells #[.int .i64 6, .string ⟨#[]⟩, .int .i64 0, .string ⟨#[]⟩, .float .f64 0, .int .i64 0, .bool false, .bool false, .int .u32 0, .bool false, .int .i64 0, .int .i64 0, .int .i64 0, .int .i64 0] 47) := ⟨_, rfl⟩
  obtain ⟨R, hR⟩ : ∃ x, x = w.heap.size := ⟨_, rfl⟩
  obtain ⟨A, hA⟩ : ∃ x, x = w.heap.size + 1 := ⟨_, rfl⟩
  have g0 : W.heap[R]? = some (.cells #[.int .i64 0, .string ⟨#[]⟩, .int .i64 0, .string ⟨#[]⟩, .float .f64 0, .int .i64 0, .bool false, .bool false, .int .u32 0, .bool false, .int .i64 0, .int .i64 0, .int .i64 0, .int .i64 0] 47 (0, 0)) := by rw [hW, hR]; exact heap_alloc2_old _ _ _
  have g1 : W.heap[A]? = some (.cells #[.int .i64 6, .string ⟨#[]⟩, .int .i64 0, .string ⟨#[]⟩, .float .f64 0, .int .i64 0, .bool false, .bool false, .int .u32 0, .bool false, .int .i64 0, .int .i64 0, .int .i64 0, .int .i64 0] 47 (0, 0)) := by rw [hW, hA]; exact heap_alloc2_new _ _ _
  have bW : Below w.heap.size w W := by rw [hW]; exact ((Below.refl _ _).alloc (Nat.le_refl _) _).alloc (by simp) _
  have nRA : R ≠ A := by omega
  have nAR : A ≠ R := by omega
  have lR : w.heap.size ≤ R := by omega
  have lA : w.heap.size ≤ A := by omega
  have sf := store_float
  have k12 := cellAt (i := 12) (v := .int .i64 0) g1 rfl
  have f12 := Lib.frozen_of_heap g1 12
  have G0 := Lib.hid g0
  have G1 := Lib.hid g1
  have BW := Lib.hid bW
  clear g0 g1 bW
  go_enter Try.func33, Try.ntmps33
  go_upto_region 3 with (fail)
  rw [← hW, ← hA, ← hR]
  clear hW hA hR
  go_upto_region 19 with (go_at_call 28; (with_reducible refine (VA.out _).mono ?_); rintro e w6 ⟨rfl, hw6⟩; replace hw6 := hw6.symm; subst hw6)
  obtain ⟨W5, hW5⟩ : ∃ V, V = (W.setCell ⟨A, 12, none⟩ (.int .i64 (n : Nat))) := ⟨_, rfl⟩
  have g5 : W5.heap[A]? = some (.cells #[.int .i64 6, .string ⟨#[]⟩, .int .i64 0, .string ⟨#[]⟩, .float .f64 0, .int .i64 0, .bool false, .bool false, .int .u32 0, .bool false, .int .i64 0, .int .i64 0, .int .i64 (n : Nat), .int .i64 0] 47 (0, 0)) := by
    rw [hW5]
    simp [World.setCell, Array.getElem?_modify, G1.out]
  have r5 : W5.heap[R]? = some (.cells #[.int .i64 0, .string ⟨#[]⟩, .int .i64 0, .string ⟨#[]⟩, .float .f64 0, .int .i64 0, .bool false, .bool false, .int .u32 0, .bool false, .int .i64 0, .int .i64 0, .int .i64 0, .int .i64 0] 47 (0, 0)) := by
    rw [hW5]
    try simp only [heap_off R A nRA]
    exact G0.out
  have b5 : Below w.heap.size w W5 := by
    rw [hW5]
    exact (BW.out.setCell (p := ⟨A, 12, none⟩) lA _)
  rw [← hW5]
  clear hW5 G0 G1 BW k12 f12
  have a0 := cellAt (i := 0) (v := .int .i64 6) g5 rfl
  have a1 := cellAt (i := 1) (v := .string ⟨#[]⟩) g5 rfl
  have a2 := cellAt (i := 2) (v := .int .i64 0) g5 rfl
  have a3 := cellAt (i := 3) (v := .string ⟨#[]⟩) g5 rfl
  have a4 := cellAt (i := 4) (v := .float .f64 0) g5 rfl
  have a5 := cellAt (i := 5) (v := .int .i64 0) g5 rfl
  have a6 := cellAt (i := 6) (v := .bool false) g5 rfl
  have a7 := cellAt (i := 7) (v := .bool false) g5 rfl
  have a8 := cellAt (i := 8) (v := .int .u32 0) g5 rfl
  have a9 := cellAt (i := 9) (v := .bool false) g5 rfl
  have a10 := cellAt (i := 10) (v := .int .i64 0) g5 rfl
  have a11 := cellAt (i := 11) (v := .int .i64 0) g5 rfl
  have a12 := cellAt (i := 12) (v := .int .i64 (n : Nat)) g5 rfl
  have a13 := cellAt (i := 13) (v := .int .i64 0) g5 rfl
  have rc0 := cellAt (i := 0) (v := .int .i64 0) r5 rfl
  have q0 := Lib.frozen_of_heap r5 0
  have rc1 := cellAt (i := 1) (v := .string ⟨#[]⟩) r5 rfl
  have q1 := Lib.frozen_of_heap r5 1
  have rc2 := cellAt (i := 2) (v := .int .i64 0) r5 rfl
  have q2 := Lib.frozen_of_heap r5 2
  have rc3 := cellAt (i := 3) (v := .string ⟨#[]⟩) r5 rfl
  have q3 := Lib.frozen_of_heap r5 3
  have rc4 := cellAt (i := 4) (v := .float .f64 0) r5 rfl
  have q4 := Lib.frozen_of_heap r5 4
  have rc5 := cellAt (i := 5) (v := .int .i64 0) r5 rfl
  have q5 := Lib.frozen_of_heap r5 5
  have rc6 := cellAt (i := 6) (v := .bool false) r5 rfl
  have q6 := Lib.frozen_of_heap r5 6
  have rc7 := cellAt (i := 7) (v := .bool false) r5 rfl
  have q7 := Lib.frozen_of_heap r5 7
  have rc8 := cellAt (i := 8) (v := .int .u32 0) r5 rfl
  have q8 := Lib.frozen_of_heap r5 8
  have rc9 := cellAt (i := 9) (v := .bool false) r5 rfl
  have q9 := Lib.frozen_of_heap r5 9
  have rc10 := cellAt (i := 10) (v := .int .i64 0) r5 rfl
  have q10 := Lib.frozen_of_heap r5 10
  have rc11 := cellAt (i := 11) (v := .int .i64 0) r5 rfl
  have q11 := Lib.frozen_of_heap r5 11
  have rc12 := cellAt (i := 12) (v := .int .i64 0) r5 rfl
  have q12 := Lib.frozen_of_heap r5 12
  have rc13 := cellAt (i := 13) (v := .int .i64 0) r5 rfl
  have q13 := Lib.frozen_of_heap r5 13
  have R5 := Lib.hid r5
  have B5 := Lib.hid b5
  clear g5 r5 b5
  skip
  go_wp2_with (fail)
  refine bodyPost_ret (v := .agg #[.int .i64 6, .string ⟨#[]⟩, .int .i64 0, .string ⟨#[]⟩, .float .f64 0, .int .i64 0, .bool false, .bool false, .int .u32 0, .bool false, .int .i64 0, .int .i64 0, .int .i64 (n : Nat), .int .i64 0]) (results_cell_row Try.results33 _ _ R 47 _ (0, 0) _ rfl (set14 R5.out) Try.underlying47 rfl (by kernel_rfl)) rfl ⟨?_, below14 B5.out lR⟩
  rfl
set_option maxHeartbeats 4000000 in
theorem ract_7 (s : ByteArray) (l : List UInt8) (bd : BodyP) (w : World) (hl : l = s.data.toList) (h : getP 7 l = some (bd, [])) (hs : s.size ≤ MX) : Calls Try.prog 33 #[.int .i64 7, .string s] w fun e w' => e = .returned (.agg (actC 7 bd)) ∧ Below w.heap.size w w' := by
  rw [get_num l (by simp)] at h
  obtain ⟨n, hn⟩ : ∃ x, x = bv l := ⟨_, rfl⟩
  have hbd : bd = .num n := by
    split at h
    · cases h
    · injection h with h; injection h with h1 h2
      rw [← h1, take_all h2, ← hn]
  have hl2 : s.size ≤ 8 := by
    split at h
    · cases h
    · injection h with h; injection h with _ h2
      rw [List.drop_eq_nil_iff] at h2
      have : l.length = s.size := by rw [hl]; simp
      omega
  have hl22 : s.size ≤ 2 := by
    split at h
    · cases h
    · injection h with h; injection h with _ h2
      rw [List.drop_eq_nil_iff] at h2
      have : l.length = s.size := by rw [hl]; simp
      omega
  have VA : Hid (∀ V, Calls Try.prog 28 #[.string s] V fun e w' => e = .returned (.int .u64 (n : Nat)) ∧ w' = V) := fun V => by
    have h := rvalue_any s V hl2
    rw [← hl, ← hn] at h
    exact h
  have hn9 : n < 65536 := by
    have h1 := bv_u16 l
    rw [hn]
    have h2 : l.take 2 = l := List.take_of_length_le (by have : l.length = s.size := by rw [hl]; simp
                                                         omega)
    rw [h2] at h1; exact h1
  have w1 : IntKind.i64.wrap (n : Int) = (n : Int) := IntWalk.i64_in _ (by omega)
  subst hbd
  clear h hl hn
  obtain ⟨W, hW⟩ : ∃ W, W = (w.alloc (.cells #[.int .i64 0, .string ⟨#[]⟩, .int .i64 0, .string ⟨#[]⟩, .float .f64 0, .int .i64 0, .bool false, .bool false, .int .u32 0, .bool false, .int .i64 0, .int .i64 0, .int .i64 0, .int .i64 0] 47)).alloc (.cells #[.int .i64 7, .string ⟨#[]⟩, .int .i64 0, .string ⟨#[]⟩, .float .f64 0, .int .i64 0, .bool false, .bool false, .int .u32 0, .bool false, .int .i64 0, .int .i64 0, .int .i64 0, .int .i64 0] 47) := ⟨_, rfl⟩
  obtain ⟨R, hR⟩ : ∃ x, x = w.heap.size := ⟨_, rfl⟩
  obtain ⟨A, hA⟩ : ∃ x, x = w.heap.size + 1 := ⟨_, rfl⟩
  have g0 : W.heap[R]? = some (.cells #[.int .i64 0, .string ⟨#[]⟩, .int .i64 0, .string ⟨#[]⟩, .float .f64 0, .int .i64 0, .bool false, .bool false, .int .u32 0, .bool false, .int .i64 0, .int .i64 0, .int .i64 0, .int .i64 0] 47 (0, 0)) := by rw [hW, hR]; exact heap_alloc2_old _ _ _
  have g1 : W.heap[A]? = some (.cells #[.int .i64 7, .string ⟨#[]⟩, .int .i64 0, .string ⟨#[]⟩, .float .f64 0, .int .i64 0, .bool false, .bool false, .int .u32 0, .bool false, .int .i64 0, .int .i64 0, .int .i64 0, .int .i64 0] 47 (0, 0)) := by rw [hW, hA]; exact heap_alloc2_new _ _ _
  have bW : Below w.heap.size w W := by rw [hW]; exact ((Below.refl _ _).alloc (Nat.le_refl _) _).alloc (by simp) _
  have nRA : R ≠ A := by omega
  have nAR : A ≠ R := by omega
  have lR : w.heap.size ≤ R := by omega
  have lA : w.heap.size ≤ A := by omega
  have sf := store_float
  have k12 := cellAt (i := 12) (v := .int .i64 0) g1 rfl
  have f12 := Lib.frozen_of_heap g1 12
  have G0 := Lib.hid g0
  have G1 := Lib.hid g1
  have BW := Lib.hid bW
  clear g0 g1 bW
  go_enter Try.func33, Try.ntmps33
  go_upto_region 3 with (fail)
  rw [← hW, ← hA, ← hR]
  clear hW hA hR
  go_upto_region 19 with (go_at_call 28; (with_reducible refine (VA.out _).mono ?_); rintro e w6 ⟨rfl, hw6⟩; replace hw6 := hw6.symm; subst hw6)
  obtain ⟨W5, hW5⟩ : ∃ V, V = (W.setCell ⟨A, 12, none⟩ (.int .i64 (n : Nat))) := ⟨_, rfl⟩
  have g5 : W5.heap[A]? = some (.cells #[.int .i64 7, .string ⟨#[]⟩, .int .i64 0, .string ⟨#[]⟩, .float .f64 0, .int .i64 0, .bool false, .bool false, .int .u32 0, .bool false, .int .i64 0, .int .i64 0, .int .i64 (n : Nat), .int .i64 0] 47 (0, 0)) := by
    rw [hW5]
    simp [World.setCell, Array.getElem?_modify, G1.out]
  have r5 : W5.heap[R]? = some (.cells #[.int .i64 0, .string ⟨#[]⟩, .int .i64 0, .string ⟨#[]⟩, .float .f64 0, .int .i64 0, .bool false, .bool false, .int .u32 0, .bool false, .int .i64 0, .int .i64 0, .int .i64 0, .int .i64 0] 47 (0, 0)) := by
    rw [hW5]
    try simp only [heap_off R A nRA]
    exact G0.out
  have b5 : Below w.heap.size w W5 := by
    rw [hW5]
    exact (BW.out.setCell (p := ⟨A, 12, none⟩) lA _)
  rw [← hW5]
  clear hW5 G0 G1 BW k12 f12
  have a0 := cellAt (i := 0) (v := .int .i64 7) g5 rfl
  have a1 := cellAt (i := 1) (v := .string ⟨#[]⟩) g5 rfl
  have a2 := cellAt (i := 2) (v := .int .i64 0) g5 rfl
  have a3 := cellAt (i := 3) (v := .string ⟨#[]⟩) g5 rfl
  have a4 := cellAt (i := 4) (v := .float .f64 0) g5 rfl
  have a5 := cellAt (i := 5) (v := .int .i64 0) g5 rfl
  have a6 := cellAt (i := 6) (v := .bool false) g5 rfl
  have a7 := cellAt (i := 7) (v := .bool false) g5 rfl
  have a8 := cellAt (i := 8) (v := .int .u32 0) g5 rfl
  have a9 := cellAt (i := 9) (v := .bool false) g5 rfl
  have a10 := cellAt (i := 10) (v := .int .i64 0) g5 rfl
  have a11 := cellAt (i := 11) (v := .int .i64 0) g5 rfl
  have a12 := cellAt (i := 12) (v := .int .i64 (n : Nat)) g5 rfl
  have a13 := cellAt (i := 13) (v := .int .i64 0) g5 rfl
  have rc0 := cellAt (i := 0) (v := .int .i64 0) r5 rfl
  have q0 := Lib.frozen_of_heap r5 0
  have rc1 := cellAt (i := 1) (v := .string ⟨#[]⟩) r5 rfl
  have q1 := Lib.frozen_of_heap r5 1
  have rc2 := cellAt (i := 2) (v := .int .i64 0) r5 rfl
  have q2 := Lib.frozen_of_heap r5 2
  have rc3 := cellAt (i := 3) (v := .string ⟨#[]⟩) r5 rfl
  have q3 := Lib.frozen_of_heap r5 3
  have rc4 := cellAt (i := 4) (v := .float .f64 0) r5 rfl
  have q4 := Lib.frozen_of_heap r5 4
  have rc5 := cellAt (i := 5) (v := .int .i64 0) r5 rfl
  have q5 := Lib.frozen_of_heap r5 5
  have rc6 := cellAt (i := 6) (v := .bool false) r5 rfl
  have q6 := Lib.frozen_of_heap r5 6
  have rc7 := cellAt (i := 7) (v := .bool false) r5 rfl
  have q7 := Lib.frozen_of_heap r5 7
  have rc8 := cellAt (i := 8) (v := .int .u32 0) r5 rfl
  have q8 := Lib.frozen_of_heap r5 8
  have rc9 := cellAt (i := 9) (v := .bool false) r5 rfl
  have q9 := Lib.frozen_of_heap r5 9
  have rc10 := cellAt (i := 10) (v := .int .i64 0) r5 rfl
  have q10 := Lib.frozen_of_heap r5 10
  have rc11 := cellAt (i := 11) (v := .int .i64 0) r5 rfl
  have q11 := Lib.frozen_of_heap r5 11
  have rc12 := cellAt (i := 12) (v := .int .i64 0) r5 rfl
  have q12 := Lib.frozen_of_heap r5 12
  have rc13 := cellAt (i := 13) (v := .int .i64 0) r5 rfl
  have q13 := Lib.frozen_of_heap r5 13
  have R5 := Lib.hid r5
  have B5 := Lib.hid b5
  clear g5 r5 b5
  skip
  go_wp2_with (fail)
  refine bodyPost_ret (v := .agg #[.int .i64 7, .string ⟨#[]⟩, .int .i64 0, .string ⟨#[]⟩, .float .f64 0, .int .i64 0, .bool false, .bool false, .int .u32 0, .bool false, .int .i64 0, .int .i64 0, .int .i64 (n : Nat), .int .i64 0]) (results_cell_row Try.results33 _ _ R 47 _ (0, 0) _ rfl (set14 R5.out) Try.underlying47 rfl (by kernel_rfl)) rfl ⟨?_, below14 B5.out lR⟩
  rfl
set_option maxHeartbeats 4000000 in
theorem ract_8 (s : ByteArray) (l : List UInt8) (bd : BodyP) (w : World) (hl : l = s.data.toList) (h : getP 8 l = some (bd, [])) (hs : s.size ≤ MX) : Calls Try.prog 33 #[.int .i64 8, .string s] w fun e w' => e = .returned (.agg (actC 8 bd)) ∧ Below w.heap.size w w' := by
  have hll : l.length = s.size := by rw [hl]; simp
  obtain ⟨n, hn⟩ : ∃ x, x = bv (l.take 2) := ⟨_, rfl⟩
  obtain ⟨d, hd⟩ : ∃ x, x = bv ((l.drop 2).take 2) := ⟨_, rfl⟩
  obtain ⟨h4, hbd⟩ : 4 ≤ s.size ∧ bd = .mov n d := by
    simp only [getP] at h
    by_cases h3 : l.length < 4
    · simp [h3] at h
    · simp [h3] at h
      exact ⟨by omega, by rw [hn, hd]; exact h.1.symm⟩
  obtain ⟨x1, hx1⟩ : ∃ x, x = s.extract 0 2 := ⟨_, rfl⟩
  obtain ⟨x2, hx2⟩ : ∃ x, x = s.extract 2 4 := ⟨_, rfl⟩
  have VA : Hid (∀ V, Calls Try.prog 28 #[.string x1] V fun e w' => e = .returned (.int .u64 (n : Nat)) ∧ w' = V) := fun V => by
    have h := rvalue_any (s.extract 0 2) V (by rw [ByteArray.size_extract]; omega)
    rw [ext_list, List.drop_zero, ← hl, ← hn, ← hx1] at h
    exact h
  have VB : Hid (∀ V, Calls Try.prog 28 #[.string x2] V fun e w' => e = .returned (.int .u64 (d : Nat)) ∧ w' = V) := fun V => by
    have h := rvalue_any (s.extract 2 4) V (by rw [ByteArray.size_extract]; omega)
    rw [ext_list, ← hl, ← hd, ← hx2] at h
    exact h
  have hn9 : n < 65536 := by rw [hn]; exact bv_u16 _
  have hd9 : d < 65536 := by rw [hd]; exact bv_u16 _
  have w1 : IntKind.i64.wrap (n : Int) = (n : Int) := IntWalk.i64_in _ (by omega)
  have w2 : IntKind.i64.wrap (d : Int) = (d : Int) := IntWalk.i64_in _ (by omega)
  have t2 : (2 : Int) ≤ (s.size : Int) := by omega
  have t2' : 2 ≤ s.size := by omega
  have t4 : (4 : Int) ≤ (s.size : Int) := by omega
  have hx1' := hx1.symm
  have hx2' := hx2.symm
  subst hbd
  clear h hl hn hd hx1 hx2 hll
  obtain ⟨W, hW⟩ : ∃ W, W = (w.alloc (.cells #[.int .i64 0, .string ⟨#[]⟩, .int .i64 0, .string ⟨#[]⟩, .float .f64 0, .int .i64 0, .bool false, .bool false, .int .u32 0, .bool false, .int .i64 0, .int .i64 0, .int .i64 0, .int .i64 0] 47)).alloc (.cells #[.int .i64 8, .string ⟨#[]⟩, .int .i64 0, .string ⟨#[]⟩, .float .f64 0, .int .i64 0, .bool false, .bool false, .int .u32 0, .bool false, .int .i64 0, .int .i64 0, .int .i64 0, .int .i64 0] 47) := ⟨_, rfl⟩
  obtain ⟨R, hR⟩ : ∃ x, x = w.heap.size := ⟨_, rfl⟩
  obtain ⟨A, hA⟩ : ∃ x, x = w.heap.size + 1 := ⟨_, rfl⟩
  have g0 : W.heap[R]? = some (.cells #[.int .i64 0, .string ⟨#[]⟩, .int .i64 0, .string ⟨#[]⟩, .float .f64 0, .int .i64 0, .bool false, .bool false, .int .u32 0, .bool false, .int .i64 0, .int .i64 0, .int .i64 0, .int .i64 0] 47 (0, 0)) := by rw [hW, hR]; exact heap_alloc2_old _ _ _
  have g1 : W.heap[A]? = some (.cells #[.int .i64 8, .string ⟨#[]⟩, .int .i64 0, .string ⟨#[]⟩, .float .f64 0, .int .i64 0, .bool false, .bool false, .int .u32 0, .bool false, .int .i64 0, .int .i64 0, .int .i64 0, .int .i64 0] 47 (0, 0)) := by rw [hW, hA]; exact heap_alloc2_new _ _ _
  have bW : Below w.heap.size w W := by rw [hW]; exact ((Below.refl _ _).alloc (Nat.le_refl _) _).alloc (by simp) _
  have nRA : R ≠ A := by omega
  have nAR : A ≠ R := by omega
  have lR : w.heap.size ≤ R := by omega
  have lA : w.heap.size ≤ A := by omega
  have sf := store_float
  have k12 := cellAt (i := 12) (v := .int .i64 0) g1 rfl
  have f12 := Lib.frozen_of_heap g1 12
  have k13 := cellAt (i := 13) (v := .int .i64 0) g1 rfl
  have f13 := Lib.frozen_of_heap g1 13
  have G0 := Lib.hid g0
  have G1 := Lib.hid g1
  have BW := Lib.hid bW
  clear g0 g1 bW
  go_enter Try.func33, Try.ntmps33
  go_upto_region 3 with (fail)
  rw [← hW, ← hA, ← hR]
  clear hW hA hR
  go_upto_region 19 with (first | (go_at_call_of 28 x1; (with_reducible refine (VA.out _).mono ?_); rintro e w6 ⟨rfl, hw6⟩; replace hw6 := hw6.symm; subst hw6) | (go_at_call_of 28 x2; (with_reducible refine (VB.out _).mono ?_); rintro e w6 ⟨rfl, hw6⟩; replace hw6 := hw6.symm; subst hw6))
  obtain ⟨W5, hW5⟩ : ∃ V, V = ((W.setCell ⟨A, 12, none⟩ (.int .i64 (n : Nat))).setCell ⟨A, 13, none⟩ (.int .i64 (d : Nat))) := ⟨_, rfl⟩
  have g5 : W5.heap[A]? = some (.cells #[.int .i64 8, .string ⟨#[]⟩, .int .i64 0, .string ⟨#[]⟩, .float .f64 0, .int .i64 0, .bool false, .bool false, .int .u32 0, .bool false, .int .i64 0, .int .i64 0, .int .i64 (n : Nat), .int .i64 (d : Nat)] 47 (0, 0)) := by
    rw [hW5]
    simp [World.setCell, Array.getElem?_modify, G1.out]
  have r5 : W5.heap[R]? = some (.cells #[.int .i64 0, .string ⟨#[]⟩, .int .i64 0, .string ⟨#[]⟩, .float .f64 0, .int .i64 0, .bool false, .bool false, .int .u32 0, .bool false, .int .i64 0, .int .i64 0, .int .i64 0, .int .i64 0] 47 (0, 0)) := by
    rw [hW5]
    try simp only [heap_off R A nRA]
    exact G0.out
  have b5 : Below w.heap.size w W5 := by
    rw [hW5]
    exact ((BW.out.setCell (p := ⟨A, 12, none⟩) lA _).setCell (p := ⟨A, 13, none⟩) lA _)
  rw [← hW5]
  clear hW5 G0 G1 BW k12 f12 k13 f13
  have a0 := cellAt (i := 0) (v := .int .i64 8) g5 rfl
  have a1 := cellAt (i := 1) (v := .string ⟨#[]⟩) g5 rfl
  have a2 := cellAt (i := 2) (v := .int .i64 0) g5 rfl
  have a3 := cellAt (i := 3) (v := .string ⟨#[]⟩) g5 rfl
  have a4 := cellAt (i := 4) (v := .float .f64 0) g5 rfl
  have a5 := cellAt (i := 5) (v := .int .i64 0) g5 rfl
  have a6 := cellAt (i := 6) (v := .bool false) g5 rfl
  have a7 := cellAt (i := 7) (v := .bool false) g5 rfl
  have a8 := cellAt (i := 8) (v := .int .u32 0) g5 rfl
  have a9 := cellAt (i := 9) (v := .bool false) g5 rfl
  have a10 := cellAt (i := 10) (v := .int .i64 0) g5 rfl
  have a11 := cellAt (i := 11) (v := .int .i64 0) g5 rfl
  have a12 := cellAt (i := 12) (v := .int .i64 (n : Nat)) g5 rfl
  have a13 := cellAt (i := 13) (v := .int .i64 (d : Nat)) g5 rfl
  have rc0 := cellAt (i := 0) (v := .int .i64 0) r5 rfl
  have q0 := Lib.frozen_of_heap r5 0
  have rc1 := cellAt (i := 1) (v := .string ⟨#[]⟩) r5 rfl
  have q1 := Lib.frozen_of_heap r5 1
  have rc2 := cellAt (i := 2) (v := .int .i64 0) r5 rfl
  have q2 := Lib.frozen_of_heap r5 2
  have rc3 := cellAt (i := 3) (v := .string ⟨#[]⟩) r5 rfl
  have q3 := Lib.frozen_of_heap r5 3
  have rc4 := cellAt (i := 4) (v := .float .f64 0) r5 rfl
  have q4 := Lib.frozen_of_heap r5 4
  have rc5 := cellAt (i := 5) (v := .int .i64 0) r5 rfl
  have q5 := Lib.frozen_of_heap r5 5
  have rc6 := cellAt (i := 6) (v := .bool false) r5 rfl
  have q6 := Lib.frozen_of_heap r5 6
  have rc7 := cellAt (i := 7) (v := .bool false) r5 rfl
  have q7 := Lib.frozen_of_heap r5 7
  have rc8 := cellAt (i := 8) (v := .int .u32 0) r5 rfl
  have q8 := Lib.frozen_of_heap r5 8
  have rc9 := cellAt (i := 9) (v := .bool false) r5 rfl
  have q9 := Lib.frozen_of_heap r5 9
  have rc10 := cellAt (i := 10) (v := .int .i64 0) r5 rfl
  have q10 := Lib.frozen_of_heap r5 10
  have rc11 := cellAt (i := 11) (v := .int .i64 0) r5 rfl
  have q11 := Lib.frozen_of_heap r5 11
  have rc12 := cellAt (i := 12) (v := .int .i64 0) r5 rfl
  have q12 := Lib.frozen_of_heap r5 12
  have rc13 := cellAt (i := 13) (v := .int .i64 0) r5 rfl
  have q13 := Lib.frozen_of_heap r5 13
  have R5 := Lib.hid r5
  have B5 := Lib.hid b5
  clear g5 r5 b5
  skip
  go_wp2_with (fail)
  refine bodyPost_ret (v := .agg #[.int .i64 8, .string ⟨#[]⟩, .int .i64 0, .string ⟨#[]⟩, .float .f64 0, .int .i64 0, .bool false, .bool false, .int .u32 0, .bool false, .int .i64 0, .int .i64 0, .int .i64 (n : Nat), .int .i64 (d : Nat)]) (results_cell_row Try.results33 _ _ R 47 _ (0, 0) _ rfl (set14 R5.out) Try.underlying47 rfl (by kernel_rfl)) rfl ⟨?_, below14 B5.out lR⟩
  rfl
set_option maxHeartbeats 4000000 in
theorem ract_9 (s : ByteArray) (l : List UInt8) (bd : BodyP) (w : World) (hl : l = s.data.toList) (h : getP 9 l = some (bd, [])) (hs : s.size ≤ MX) : Calls Try.prog 33 #[.int .i64 9, .string s] w fun e w' => e = .returned (.agg (actC 9 bd)) ∧ Below w.heap.size w w' := by
  rw [get_pkt l (by simp)] at h
  have hll : l.length = s.size := by rw [hl]; simp
  obtain ⟨p, hp⟩ : ∃ x, x = l.drop 2 := ⟨_, rfl⟩
  obtain ⟨h2, hbd⟩ : 2 ≤ s.size ∧ bd = .pkt p := by
    split at h
    · cases h
    · split at h
      · cases h
      · injection h with h; injection h with h1 h2
        refine ⟨by omega, ?_⟩
        rw [← h1, take_all h2, ← hp]
  obtain ⟨x, hx⟩ : ∃ x, x = bs p := ⟨_, rfl⟩
  have hx2 : s.extract 2 s.size = x := by
    rw [hx, hp, hl, extract_bs, List.take_of_length_le (by rw [List.length_drop]; exact Nat.le_refl _)]
  have t2 : (2 : Int) ≤ (s.size : Int) := by omega
  have HX := Lib.hid hx
  subst hbd
  clear h hl hp hx hll
  obtain ⟨W, hW⟩ : ∃ W, W = (w.alloc (.cells #[.int .i64 0, .string ⟨#[]⟩, .int .i64 0, .string ⟨#[]⟩, .float .f64 0, .int .i64 0, .bool false, .bool false, .int .u32 0, .bool false, .int .i64 0, .int .i64 0, .int .i64 0, .int .i64 0] 47)).alloc (.cells #[.int .i64 9, .string ⟨#[]⟩, .int .i64 0, .string ⟨#[]⟩, .float .f64 0, .int .i64 0, .bool false, .bool false, .int .u32 0, .bool false, .int .i64 0, .int .i64 0, .int .i64 0, .int .i64 0] 47) := ⟨_, rfl⟩
  obtain ⟨R, hR⟩ : ∃ x, x = w.heap.size := ⟨_, rfl⟩
  obtain ⟨A, hA⟩ : ∃ x, x = w.heap.size + 1 := ⟨_, rfl⟩
  have g0 : W.heap[R]? = some (.cells #[.int .i64 0, .string ⟨#[]⟩, .int .i64 0, .string ⟨#[]⟩, .float .f64 0, .int .i64 0, .bool false, .bool false, .int .u32 0, .bool false, .int .i64 0, .int .i64 0, .int .i64 0, .int .i64 0] 47 (0, 0)) := by rw [hW, hR]; exact heap_alloc2_old _ _ _
  have g1 : W.heap[A]? = some (.cells #[.int .i64 9, .string ⟨#[]⟩, .int .i64 0, .string ⟨#[]⟩, .float .f64 0, .int .i64 0, .bool false, .bool false, .int .u32 0, .bool false, .int .i64 0, .int .i64 0, .int .i64 0, .int .i64 0] 47 (0, 0)) := by rw [hW, hA]; exact heap_alloc2_new _ _ _
  have bW : Below w.heap.size w W := by rw [hW]; exact ((Below.refl _ _).alloc (Nat.le_refl _) _).alloc (by simp) _
  have nRA : R ≠ A := by omega
  have nAR : A ≠ R := by omega
  have lR : w.heap.size ≤ R := by omega
  have lA : w.heap.size ≤ A := by omega
  have sf := store_float
  have k1 := cellAt (i := 1) (v := .string ⟨#[]⟩) g1 rfl
  have f1 := Lib.frozen_of_heap g1 1
  have G0 := Lib.hid g0
  have G1 := Lib.hid g1
  have BW := Lib.hid bW
  clear g0 g1 bW
  go_enter Try.func33, Try.ntmps33
  go_upto_region 3 with (fail)
  rw [← hW, ← hA, ← hR]
  clear hW hA hR
  go_upto_region 19 with (fail)
  obtain ⟨W5, hW5⟩ : ∃ V, V = (W.setCell ⟨A, 1, none⟩ (.string x)) := ⟨_, rfl⟩
  have g5 : W5.heap[A]? = some (.cells #[.int .i64 9, .string x, .int .i64 0, .string ⟨#[]⟩, .float .f64 0, .int .i64 0, .bool false, .bool false, .int .u32 0, .bool false, .int .i64 0, .int .i64 0, .int .i64 0, .int .i64 0] 47 (0, 0)) := by
    rw [hW5]
    simp [World.setCell, Array.getElem?_modify, G1.out]
  have r5 : W5.heap[R]? = some (.cells #[.int .i64 0, .string ⟨#[]⟩, .int .i64 0, .string ⟨#[]⟩, .float .f64 0, .int .i64 0, .bool false, .bool false, .int .u32 0, .bool false, .int .i64 0, .int .i64 0, .int .i64 0, .int .i64 0] 47 (0, 0)) := by
    rw [hW5]
    try simp only [heap_off R A nRA]
    exact G0.out
  have b5 : Below w.heap.size w W5 := by
    rw [hW5]
    exact (BW.out.setCell (p := ⟨A, 1, none⟩) lA _)
  rw [← hW5]
  clear hW5 G0 G1 BW k1 f1
  have a0 := cellAt (i := 0) (v := .int .i64 9) g5 rfl
  have a1 := cellAt (i := 1) (v := .string x) g5 rfl
  have a2 := cellAt (i := 2) (v := .int .i64 0) g5 rfl
  have a3 := cellAt (i := 3) (v := .string ⟨#[]⟩) g5 rfl
  have a4 := cellAt (i := 4) (v := .float .f64 0) g5 rfl
  have a5 := cellAt (i := 5) (v := .int .i64 0) g5 rfl
  have a6 := cellAt (i := 6) (v := .bool false) g5 rfl
  have a7 := cellAt (i := 7) (v := .bool false) g5 rfl
  have a8 := cellAt (i := 8) (v := .int .u32 0) g5 rfl
  have a9 := cellAt (i := 9) (v := .bool false) g5 rfl
  have a10 := cellAt (i := 10) (v := .int .i64 0) g5 rfl
  have a11 := cellAt (i := 11) (v := .int .i64 0) g5 rfl
  have a12 := cellAt (i := 12) (v := .int .i64 0) g5 rfl
  have a13 := cellAt (i := 13) (v := .int .i64 0) g5 rfl
  have rc0 := cellAt (i := 0) (v := .int .i64 0) r5 rfl
  have q0 := Lib.frozen_of_heap r5 0
  have rc1 := cellAt (i := 1) (v := .string ⟨#[]⟩) r5 rfl
  have q1 := Lib.frozen_of_heap r5 1
  have rc2 := cellAt (i := 2) (v := .int .i64 0) r5 rfl
  have q2 := Lib.frozen_of_heap r5 2
  have rc3 := cellAt (i := 3) (v := .string ⟨#[]⟩) r5 rfl
  have q3 := Lib.frozen_of_heap r5 3
  have rc4 := cellAt (i := 4) (v := .float .f64 0) r5 rfl
  have q4 := Lib.frozen_of_heap r5 4
  have rc5 := cellAt (i := 5) (v := .int .i64 0) r5 rfl
  have q5 := Lib.frozen_of_heap r5 5
  have rc6 := cellAt (i := 6) (v := .bool false) r5 rfl
  have q6 := Lib.frozen_of_heap r5 6
  have rc7 := cellAt (i := 7) (v := .bool false) r5 rfl
  have q7 := Lib.frozen_of_heap r5 7
  have rc8 := cellAt (i := 8) (v := .int .u32 0) r5 rfl
  have q8 := Lib.frozen_of_heap r5 8
  have rc9 := cellAt (i := 9) (v := .bool false) r5 rfl
  have q9 := Lib.frozen_of_heap r5 9
  have rc10 := cellAt (i := 10) (v := .int .i64 0) r5 rfl
  have q10 := Lib.frozen_of_heap r5 10
  have rc11 := cellAt (i := 11) (v := .int .i64 0) r5 rfl
  have q11 := Lib.frozen_of_heap r5 11
  have rc12 := cellAt (i := 12) (v := .int .i64 0) r5 rfl
  have q12 := Lib.frozen_of_heap r5 12
  have rc13 := cellAt (i := 13) (v := .int .i64 0) r5 rfl
  have q13 := Lib.frozen_of_heap r5 13
  have R5 := Lib.hid r5
  have B5 := Lib.hid b5
  clear g5 r5 b5
  skip
  go_wp2_with (fail)
  refine bodyPost_ret (v := .agg #[.int .i64 9, .string x, .int .i64 0, .string ⟨#[]⟩, .float .f64 0, .int .i64 0, .bool false, .bool false, .int .u32 0, .bool false, .int .i64 0, .int .i64 0, .int .i64 0, .int .i64 0]) (results_cell_row Try.results33 _ _ R 47 _ (0, 0) _ rfl (set14 R5.out) Try.underlying47 rfl (by kernel_rfl)) rfl ⟨?_, below14 B5.out lR⟩
  unfold actC; simp only; rw [← HX.out]; rfl
set_option maxHeartbeats 4000000 in
theorem ract_10 (s : ByteArray) (l : List UInt8) (bd : BodyP) (w : World) (hl : l = s.data.toList) (h : getP 10 l = some (bd, [])) (hs : s.size ≤ MX) : Calls Try.prog 33 #[.int .i64 10, .string s] w fun e w' => e = .returned (.agg (actC 10 bd)) ∧ Below w.heap.size w w' := by
  have hbd : bd = .non := by
    simp [getP] at h; exact h.1.symm
  subst hbd
  clear h hl
  obtain ⟨W, hW⟩ : ∃ W, W = (w.alloc (.cells #[.int .i64 0, .string ⟨#[]⟩, .int .i64 0, .string ⟨#[]⟩, .float .f64 0, .int .i64 0, .bool false, .bool false, .int .u32 0, .bool false, .int .i64 0, .int .i64 0, .int .i64 0, .int .i64 0] 47)).alloc (.cells #[.int .i64 10, .string ⟨#[]⟩, .int .i64 0, .string ⟨#[]⟩, .float .f64 0, .int .i64 0, .bool false, .bool false, .int .u32 0, .bool false, .int .i64 0, .int .i64 0, .int .i64 0, .int .i64 0] 47) := ⟨_, rfl⟩
  obtain ⟨R, hR⟩ : ∃ x, x = w.heap.size := ⟨_, rfl⟩
  obtain ⟨A, hA⟩ : ∃ x, x = w.heap.size + 1 := ⟨_, rfl⟩
  have g0 : W.heap[R]? = some (.cells #[.int .i64 0, .string ⟨#[]⟩, .int .i64 0, .string ⟨#[]⟩, .float .f64 0, .int .i64 0, .bool false, .bool false, .int .u32 0, .bool false, .int .i64 0, .int .i64 0, .int .i64 0, .int .i64 0] 47 (0, 0)) := by rw [hW, hR]; exact heap_alloc2_old _ _ _
  have g1 : W.heap[A]? = some (.cells #[.int .i64 10, .string ⟨#[]⟩, .int .i64 0, .string ⟨#[]⟩, .float .f64 0, .int .i64 0, .bool false, .bool false, .int .u32 0, .bool false, .int .i64 0, .int .i64 0, .int .i64 0, .int .i64 0] 47 (0, 0)) := by rw [hW, hA]; exact heap_alloc2_new _ _ _
  have bW : Below w.heap.size w W := by rw [hW]; exact ((Below.refl _ _).alloc (Nat.le_refl _) _).alloc (by simp) _
  have nRA : R ≠ A := by omega
  have nAR : A ≠ R := by omega
  have lR : w.heap.size ≤ R := by omega
  have lA : w.heap.size ≤ A := by omega
  have sf := store_float
  have G0 := Lib.hid g0
  have G1 := Lib.hid g1
  have BW := Lib.hid bW
  clear g0 g1 bW
  go_enter Try.func33, Try.ntmps33
  go_upto_region 3 with (fail)
  rw [← hW, ← hA, ← hR]
  clear hW hA hR
  go_upto_region 19 with (fail)
  obtain ⟨W5, hW5⟩ : ∃ V, V = W := ⟨_, rfl⟩
  have g5 : W5.heap[A]? = some (.cells #[.int .i64 10, .string ⟨#[]⟩, .int .i64 0, .string ⟨#[]⟩, .float .f64 0, .int .i64 0, .bool false, .bool false, .int .u32 0, .bool false, .int .i64 0, .int .i64 0, .int .i64 0, .int .i64 0] 47 (0, 0)) := by
    rw [hW5]
    simp [World.setCell, Array.getElem?_modify, G1.out]
  have r5 : W5.heap[R]? = some (.cells #[.int .i64 0, .string ⟨#[]⟩, .int .i64 0, .string ⟨#[]⟩, .float .f64 0, .int .i64 0, .bool false, .bool false, .int .u32 0, .bool false, .int .i64 0, .int .i64 0, .int .i64 0, .int .i64 0] 47 (0, 0)) := by
    rw [hW5]
    try simp only [heap_off R A nRA]
    exact G0.out
  have b5 : Below w.heap.size w W5 := by
    rw [hW5]
    exact BW.out
  rw [← hW5]
  clear hW5 G0 G1 BW 
  have a0 := cellAt (i := 0) (v := .int .i64 10) g5 rfl
  have a1 := cellAt (i := 1) (v := .string ⟨#[]⟩) g5 rfl
  have a2 := cellAt (i := 2) (v := .int .i64 0) g5 rfl
  have a3 := cellAt (i := 3) (v := .string ⟨#[]⟩) g5 rfl
  have a4 := cellAt (i := 4) (v := .float .f64 0) g5 rfl
  have a5 := cellAt (i := 5) (v := .int .i64 0) g5 rfl
  have a6 := cellAt (i := 6) (v := .bool false) g5 rfl
  have a7 := cellAt (i := 7) (v := .bool false) g5 rfl
  have a8 := cellAt (i := 8) (v := .int .u32 0) g5 rfl
  have a9 := cellAt (i := 9) (v := .bool false) g5 rfl
  have a10 := cellAt (i := 10) (v := .int .i64 0) g5 rfl
  have a11 := cellAt (i := 11) (v := .int .i64 0) g5 rfl
  have a12 := cellAt (i := 12) (v := .int .i64 0) g5 rfl
  have a13 := cellAt (i := 13) (v := .int .i64 0) g5 rfl
  have rc0 := cellAt (i := 0) (v := .int .i64 0) r5 rfl
  have q0 := Lib.frozen_of_heap r5 0
  have rc1 := cellAt (i := 1) (v := .string ⟨#[]⟩) r5 rfl
  have q1 := Lib.frozen_of_heap r5 1
  have rc2 := cellAt (i := 2) (v := .int .i64 0) r5 rfl
  have q2 := Lib.frozen_of_heap r5 2
  have rc3 := cellAt (i := 3) (v := .string ⟨#[]⟩) r5 rfl
  have q3 := Lib.frozen_of_heap r5 3
  have rc4 := cellAt (i := 4) (v := .float .f64 0) r5 rfl
  have q4 := Lib.frozen_of_heap r5 4
  have rc5 := cellAt (i := 5) (v := .int .i64 0) r5 rfl
  have q5 := Lib.frozen_of_heap r5 5
  have rc6 := cellAt (i := 6) (v := .bool false) r5 rfl
  have q6 := Lib.frozen_of_heap r5 6
  have rc7 := cellAt (i := 7) (v := .bool false) r5 rfl
  have q7 := Lib.frozen_of_heap r5 7
  have rc8 := cellAt (i := 8) (v := .int .u32 0) r5 rfl
  have q8 := Lib.frozen_of_heap r5 8
  have rc9 := cellAt (i := 9) (v := .bool false) r5 rfl
  have q9 := Lib.frozen_of_heap r5 9
  have rc10 := cellAt (i := 10) (v := .int .i64 0) r5 rfl
  have q10 := Lib.frozen_of_heap r5 10
  have rc11 := cellAt (i := 11) (v := .int .i64 0) r5 rfl
  have q11 := Lib.frozen_of_heap r5 11
  have rc12 := cellAt (i := 12) (v := .int .i64 0) r5 rfl
  have q12 := Lib.frozen_of_heap r5 12
  have rc13 := cellAt (i := 13) (v := .int .i64 0) r5 rfl
  have q13 := Lib.frozen_of_heap r5 13
  have R5 := Lib.hid r5
  have B5 := Lib.hid b5
  clear g5 r5 b5
  skip
  go_wp2_with (fail)
  refine bodyPost_ret (v := .agg #[.int .i64 10, .string ⟨#[]⟩, .int .i64 0, .string ⟨#[]⟩, .float .f64 0, .int .i64 0, .bool false, .bool false, .int .u32 0, .bool false, .int .i64 0, .int .i64 0, .int .i64 0, .int .i64 0]) (results_cell_row Try.results33 _ _ R 47 _ (0, 0) _ rfl (set14 R5.out) Try.underlying47 rfl (by kernel_rfl)) rfl ⟨?_, below14 B5.out lR⟩
  rfl
end Go.Proofs.Ytmijfhfjhbckdaa
