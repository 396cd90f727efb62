import Derived.Test.YtmijfhfjhbckdaaRa
/- The document's act, by kinds. -/
namespace Go.Proofs.Ytmijfhfjhbckdaa
set_option maxRecDepth 100000
open Go.RowKit
set_option maxHeartbeats 4000000 in
theorem ract_0 (s : ByteArray) (l : List UInt8) (bd : BodyP) (w : World) (hl : l = s.data.toList) (h : getP 0 l = some (bd, [])) (hs : s.size ≤ MX) : Calls Try.prog 33 #[.int .i64 0, .string s] w fun e w' => e = .returned (.agg (actC 0 bd)) ∧ Below w.heap.size w w' := by
  rw [get_pkt l (by simp)] at h
  have hll : l.length = s.size := by rw [hl]; simp
  obtain ⟨p, hp⟩ : ∃ x, x = l.drop 2 := ⟨_, rfl⟩
  obtain ⟨h2, hbd⟩ : 2 ≤ s.size ∧ bd = .pkt p := by
    split at h
    · cases h
    · split at h
      · cases h
      · injection h with h; injection h with h1 h2
        refine ⟨by omega, ?_⟩
        rw [← h1, take_all h2, ← hp]
  obtain ⟨x, hx⟩ : ∃ x, x = bs p := ⟨_, rfl⟩
  have hx2 : s.extract 2 s.size = x := by
    rw [hx, hp, hl, extract_bs, List.take_of_length_le (by rw [List.length_drop]; exact Nat.le_refl _)]
  have t2 : (2 : Int) ≤ (s.size : Int) := by omega
  have HX := Lib.hid hx
  subst hbd
  clear h hl hp hx hll
  obtain ⟨W, hW⟩ : ∃ W, W = (w.alloc (.cells #[.int .i64 0, .string ⟨#[]⟩, .int .i64 0, .string ⟨#[]⟩, .float .f64 0, .int .i64 0, .bool false, .bool false, .int .u32 0, .bool false, .int .i64 0, .int .i64 0, .int .i64 0, .int .i64 0] 47)).alloc (.cells #[.int .i64 0, .string ⟨#[]⟩, .int .i64 0, .string ⟨#[]⟩, .float .f64 0, .int .i64 0, .bool false, .bool false, .int .u32 0, .bool false, .int .i64 0, .int .i64 0, .int .i64 0, .int .i64 0] 47) := ⟨_, rfl⟩
  obtain ⟨R, hR⟩ : ∃ x, x = w.heap.size := ⟨_, rfl⟩
  obtain ⟨A, hA⟩ : ∃ x, x = w.heap.size + 1 := ⟨_, rfl⟩
  have g0 : W.heap[R]? = some (.cells #[.int .i64 0, .string ⟨#[]⟩, .int .i64 0, .string ⟨#[]⟩, .float .f64 0, .int .i64 0, .bool false, .bool false, .int .u32 0, .bool false, .int .i64 0, .int .i64 0, .int .i64 0, .int .i64 0] 47 (0, 0)) := by rw [hW, hR]; exact heap_alloc2_old _ _ _
  have g1 : W.heap[A]? = some (.cells #[.int .i64 0, .string ⟨#[]⟩, .int .i64 0, .string ⟨#[]⟩, .float .f64 0, .int .i64 0, .bool false, .bool false, .int .u32 0, .bool false, .int .i64 0, .int .i64 0, .int .i64 0, .int .i64 0] 47 (0, 0)) := by rw [hW, hA]; exact heap_alloc2_new _ _ _
  have bW : Below w.heap.size w W := by rw [hW]; exact ((Below.refl _ _).alloc (Nat.le_refl _) _).alloc (by simp) _
  have nRA : R ≠ A := by omega
  have nAR : A ≠ R := by omega
  have lR : w.heap.size ≤ R := by omega
  have lA : w.heap.size ≤ A := by omega
  have sf := store_float
  have k1 := cellAt (i := 1) (v := .string ⟨#[]⟩) g1 rfl
  have f1 := Lib.frozen_of_heap g1 1
  have G0 := Lib.hid g0
  have G1 := Lib.hid g1
  have BW := Lib.hid bW
  clear g0 g1 bW
  go_enter Try.func33, Try.ntmps33
  go_upto_region 3 with (fail)
  rw [← hW, ← hA, ← hR]
  clear hW hA hR
  go_upto_region 19 with (fail)
  obtain ⟨W5, hW5⟩ : ∃ V, V = (W.setCell ⟨A, 1, none⟩ (.string x)) := ⟨_, rfl⟩
  have g5 : W5.heap[A]? = some (.cells #[.int .i64 0, .string x, .int .i64 0, .string ⟨#[]⟩, .float .f64 0, .int .i64 0, .bool false, .bool false, .int .u32 0, .bool false, .int .i64 0, .int .i64 0, .int .i64 0, .int .i64 0] 47 (0, 0)) := by
    rw [hW5]
    simp [World.setCell, Array.getElem?_modify, G1.out]
  have r5 : W5.heap[R]? = some (.cells #[.int .i64 0, .string ⟨#[]⟩, .int .i64 0, .string ⟨#[]⟩, .float .f64 0, .int .i64 0, .bool false, .bool false, .int .u32 0, .bool false, .int .i64 0, .int .i64 0, .int .i64 0, .int .i64 0] 47 (0, 0)) := by
    rw [hW5]
    try simp only [heap_off R A nRA]
    exact G0.out
  have b5 : Below w.heap.size w W5 := by
    rw [hW5]
    exact (BW.out.setCell (p := ⟨A, 1, none⟩) lA _)
  rw [← hW5]
  clear hW5 G0 G1 BW k1 f1
  have a0 := cellAt (i := 0) (v := .int .i64 0) g5 rfl
  have a1 := cellAt (i := 1) (v := .string x) g5 rfl
  have a2 := cellAt (i := 2) (v := .int .i64 0) g5 rfl
  have a3 := cellAt (i := 3) (v := .string ⟨#[]⟩) g5 rfl
  have a4 := cellAt (i := 4) (v := .float .f64 0) g5 rfl
  have a5 := cellAt (i := 5) (v := .int .i64 0) g5 rfl
  have a6 := cellAt (i := 6) (v := .bool false) g5 rfl
  have a7 := cellAt (i := 7) (v := .bool false) g5 rfl
  have a8 := cellAt (i := 8) (v := .int .u32 0) g5 rfl
  have a9 := cellAt (i := 9) (v := .bool false) g5 rfl
  have a10 := cellAt (i := 10) (v := .int .i64 0) g5 rfl
  have a11 := cellAt (i := 11) (v := .int .i64 0) g5 rfl
  have a12 := cellAt (i := 12) (v := .int .i64 0) g5 rfl
  have a13 := cellAt (i := 13) (v := .int .i64 0) g5 rfl
  have rc0 := cellAt (i := 0) (v := .int .i64 0) r5 rfl
  have q0 := Lib.frozen_of_heap r5 0
  have rc1 := cellAt (i := 1) (v := .string ⟨#[]⟩) r5 rfl
  have q1 := Lib.frozen_of_heap r5 1
  have rc2 := cellAt (i := 2) (v := .int .i64 0) r5 rfl
  have q2 := Lib.frozen_of_heap r5 2
  have rc3 := cellAt (i := 3) (v := .string ⟨#[]⟩) r5 rfl
  have q3 := Lib.frozen_of_heap r5 3
  have rc4 := cellAt (i := 4) (v := .float .f64 0) r5 rfl
  have q4 := Lib.frozen_of_heap r5 4
  have rc5 := cellAt (i := 5) (v := .int .i64 0) r5 rfl
  have q5 := Lib.frozen_of_heap r5 5
  have rc6 := cellAt (i := 6) (v := .bool false) r5 rfl
  have q6 := Lib.frozen_of_heap r5 6
  have rc7 := cellAt (i := 7) (v := .bool false) r5 rfl
  have q7 := Lib.frozen_of_heap r5 7
  have rc8 := cellAt (i := 8) (v := .int .u32 0) r5 rfl
  have q8 := Lib.frozen_of_heap r5 8
  have rc9 := cellAt (i := 9) (v := .bool false) r5 rfl
  have q9 := Lib.frozen_of_heap r5 9
  have rc10 := cellAt (i := 10) (v := .int .i64 0) r5 rfl
  have q10 := Lib.frozen_of_heap r5 10
  have rc11 := cellAt (i := 11) (v := .int .i64 0) r5 rfl
  have q11 := Lib.frozen_of_heap r5 11
  have rc12 := cellAt (i := 12) (v := .int .i64 0) r5 rfl
  have q12 := Lib.frozen_of_heap r5 12
  have rc13 := cellAt (i := 13) (v := .int .i64 0) r5 rfl
  have q13 := Lib.frozen_of_heap r5 13
  have R5 := Lib.hid r5
  have B5 := Lib.hid b5
  clear g5 r5 b5
  skip
  go_wp2_with (fail)
  refine bodyPost_ret (v := .agg #[.int .i64 0, .string x, .int .i64 0, .string ⟨#[]⟩, .float .f64 0, .int .i64 0, .bool false, .bool false, .int .u32 0, .bool false, .int .i64 0, .int .i64 0, .int .i64 0, .int .i64 0]) (results_cell_row Try.results33 _ _ R 47 _ (0, 0) _ rfl (set14 R5.out) Try.underlying47 rfl (by kernel_rfl)) rfl ⟨?_, below14 B5.out lR⟩
  unfold actC; simp only; rw [← HX.out]; rfl
set_option maxHeartbeats 4000000 in
theorem ract_1 (s : ByteArray) (l : List UInt8) (bd : BodyP) (w : World) (hl : l = s.data.toList) (h : getP 1 l = some (bd, [])) (hs : s.size ≤ MX) : Calls Try.prog 33 #[.int .i64 1, .string s] w fun e w' => e = .returned (.agg (actC 1 bd)) ∧ Below w.heap.size w w' := by
  have hll : l.length = s.size := by rw [hl]; simp
  obtain ⟨n, hn⟩ : ∃ x, x = bv (l.take 2) := ⟨_, rfl⟩
  obtain ⟨d, hd⟩ : ∃ x, x = bv ((l.drop 6).take 8) := ⟨_, rfl⟩
  obtain ⟨h14, hbd⟩ : 14 ≤ s.size ∧ bd = .bk n ((l.drop 2).take 4) d := by
    simp only [getP] at h
    by_cases h3 : l.length < 14
    · simp [h3] at h
    · simp [h3] at h
      exact ⟨by omega, by rw [hn, hd]; exact h.1.symm⟩
  obtain ⟨x1, hx1⟩ : ∃ x, x = s.extract 0 2 := ⟨_, rfl⟩
  obtain ⟨x2, hx2⟩ : ∃ x, x = s.extract 6 14 := ⟨_, rfl⟩
  obtain ⟨x3, hx3⟩ : ∃ x, x = s.extract 2 6 := ⟨_, rfl⟩
  have HX : Hid (bs ((l.drop 2).take 4) = x3) := by show _ = _; rw [hx3, extract_bs, ← hl]
  have VA : Hid (∀ V, Calls Try.prog 28 #[.string x1] V fun e w' => e = .returned (.int .u64 (n : Nat)) ∧ w' = V) := fun V => by
    have h := rvalue_any (s.extract 0 2) V (by rw [ByteArray.size_extract]; omega)
    rw [ext_list, List.drop_zero, ← hl, ← hn, ← hx1] at h
    exact h
  have VB : Hid (∀ V, Calls Try.prog 28 #[.string x2] V fun e w' => e = .returned (.int .u64 (d : Nat)) ∧ w' = V) := fun V => by
    have h := rvalue_any (s.extract 6 14) V (by rw [ByteArray.size_extract]; omega)
    rw [ext_list, ← hl, ← hd, ← hx2] at h
    exact h
  have hn9 : n < 65536 := by rw [hn]; exact bv_u16 _
  have w1 : IntKind.i64.wrap (n : Int) = (n : Int) := IntWalk.i64_in _ (by omega)
  have t2 : (2 : Int) ≤ (s.size : Int) := by omega
  have t2' : 2 ≤ s.size := by omega
  have t6 : (6 : Int) ≤ (s.size : Int) := by omega
  have t6' : 6 ≤ s.size := by omega
  have t14 : (14 : Int) ≤ (s.size : Int) := by omega
  have hx1' := hx1.symm
  have hx2' := hx2.symm
  have hx3' := hx3.symm
  have fr := from_run
  subst hbd
  clear h hl hn hd hx1 hx2 hx3 hll
  obtain ⟨W, hW⟩ : ∃ W, W = (w.alloc (.cells #[.int .i64 0, .string ⟨#[]⟩, .int .i64 0, .string ⟨#[]⟩, .float .f64 0, .int .i64 0, .bool false, .bool false, .int .u32 0, .bool false, .int .i64 0, .int .i64 0, .int .i64 0, .int .i64 0] 47)).alloc (.cells #[.int .i64 1, .string ⟨#[]⟩, .int .i64 0, .string ⟨#[]⟩, .float .f64 0, .int .i64 0, .bool false, .bool false, .int .u32 0, .bool false, .int .i64 0, .int .i64 0, .int .i64 0, .int .i64 0] 47) := ⟨_, rfl⟩
  obtain ⟨R, hR⟩ : ∃ x, x = w.heap.size := ⟨_, rfl⟩
  obtain ⟨A, hA⟩ : ∃ x, x = w.heap.size + 1 := ⟨_, rfl⟩
  have g0 : W.heap[R]? = some (.cells #[.int .i64 0, .string ⟨#[]⟩, .int .i64 0, .string ⟨#[]⟩, .float .f64 0, .int .i64 0, .bool false, .bool false, .int .u32 0, .bool false, .int .i64 0, .int .i64 0, .int .i64 0, .int .i64 0] 47 (0, 0)) := by rw [hW, hR]; exact heap_alloc2_old _ _ _
  have g1 : W.heap[A]? = some (.cells #[.int .i64 1, .string ⟨#[]⟩, .int .i64 0, .string ⟨#[]⟩, .float .f64 0, .int .i64 0, .bool false, .bool false, .int .u32 0, .bool false, .int .i64 0, .int .i64 0, .int .i64 0, .int .i64 0] 47 (0, 0)) := by rw [hW, hA]; exact heap_alloc2_new _ _ _
  have bW : Below w.heap.size w W := by rw [hW]; exact ((Below.refl _ _).alloc (Nat.le_refl _) _).alloc (by simp) _
  have nRA : R ≠ A := by omega
  have nAR : A ≠ R := by omega
  have lR : w.heap.size ≤ R := by omega
  have lA : w.heap.size ≤ A := by omega
  have sf := store_float
  have k2 := cellAt (i := 2) (v := .int .i64 0) g1 rfl
  have f2 := Lib.frozen_of_heap g1 2
  have k3 := cellAt (i := 3) (v := .string ⟨#[]⟩) g1 rfl
  have f3 := Lib.frozen_of_heap g1 3
  have k4 := cellAt (i := 4) (v := .float .f64 0) g1 rfl
  have f4 := Lib.frozen_of_heap g1 4
  have G0 := Lib.hid g0
  have G1 := Lib.hid g1
  have BW := Lib.hid bW
  clear g0 g1 bW
  go_enter Try.func33, Try.ntmps33
  go_upto_region 3 with (fail)
  rw [← hW, ← hA, ← hR]
  clear hW hA hR
  go_upto_region 7 with (fail)
  refine wp_region_noPanic ?_
  refine wp_region_held_drew (S := fun _ => True) (by kernel_rfl) trivial (fun hHeld => ?_)
  refine wpAnyH_take (i := 0) (oi := { dst := some 17, op := Op.move (Operand.tmp 1), type := 9, pos := "ref.go:127", after := #[], guard := none }) (v := ?_) rfl (by kernel_rfl) (by kernel_rfl) (by kernel_rfl) (fun _ _ _ h => h) (Or.inl ⟨by rfl, ?_⟩) (by assumption) ?_
  rotate_left 1
  · intro w hSw
    go_simp
    first | done | with_reducible rfl
  try simp only [Act.put, List.setIfInBounds_toArray, List.set_cons_zero, List.set_cons_succ]
  refine wpAnyH_take (i := 1) (oi := { dst := some 18, op := Op.slice 9 (Operand.tmp 17) none (some (Operand.const (Value.int IntKind.i64 2))) none, type := 9, pos := "ref.go:127", after := #[{ on := 0, ground := Ground.data }], guard := none }) (v := ?_) rfl (by kernel_rfl) (by kernel_rfl) (by kernel_rfl) (fun _ _ _ h => h) (Or.inl ⟨by rfl, ?_⟩) (by assumption) ?_
  rotate_left 1
  · intro w hSw
    go_simp
    first | done | with_reducible rfl
  try simp only [Act.put, List.setIfInBounds_toArray, List.set_cons_zero, List.set_cons_succ]
  refine wpAnyH_take (i := 4) (oi := { dst := some 21, op := Op.move (Operand.tmp 1), type := 9, pos := "ref.go:127", after := #[], guard := none }) (v := ?_) rfl (by kernel_rfl) (by kernel_rfl) (by kernel_rfl) (fun _ _ _ h => h) (Or.inl ⟨by rfl, ?_⟩) (by assumption) ?_
  rotate_left 1
  · intro w hSw
    go_simp
    first | done | with_reducible rfl
  try simp only [Act.put, List.setIfInBounds_toArray, List.set_cons_zero, List.set_cons_succ]
  refine wpAnyH_take (i := 5) (oi := { dst := some 22, op := Op.slice 9 (Operand.tmp 21) (some (Operand.const (Value.int IntKind.i64 2))) (some (Operand.const (Value.int IntKind.i64 6))) none, type := 9, pos := "ref.go:127", after := #[{ on := 4, ground := Ground.data }], guard := none }) (v := ?_) rfl (by kernel_rfl) (by kernel_rfl) (by kernel_rfl) (fun _ _ _ h => h) (Or.inl ⟨by rfl, ?_⟩) (by assumption) ?_
  rotate_left 1
  · intro w hSw
    go_simp
    first | done | with_reducible rfl
  try simp only [Act.put, List.setIfInBounds_toArray, List.set_cons_zero, List.set_cons_succ]
  refine wpAnyH_take (i := 6) (oi := { dst := some 23, op := Op.move (Operand.tmp 1), type := 9, pos := "ref.go:127", after := #[], guard := none }) (v := ?_) rfl (by kernel_rfl) (by kernel_rfl) (by kernel_rfl) (fun _ _ _ h => h) (Or.inl ⟨by rfl, ?_⟩) (by assumption) ?_
  rotate_left 1
  · intro w hSw
    go_simp
    first | done | with_reducible rfl
  try simp only [Act.put, List.setIfInBounds_toArray, List.set_cons_zero, List.set_cons_succ]
  refine wpAnyH_take (i := 7) (oi := { dst := some 24, op := Op.slice 9 (Operand.tmp 23) (some (Operand.const (Value.int IntKind.i64 6))) (some (Operand.const (Value.int IntKind.i64 14))) none, type := 9, pos := "ref.go:127", after := #[{ on := 6, ground := Ground.data }], guard := none }) (v := ?_) rfl (by kernel_rfl) (by kernel_rfl) (by kernel_rfl) (fun _ _ _ h => h) (Or.inl ⟨by rfl, ?_⟩) (by assumption) ?_
  rotate_left 1
  · intro w hSw
    go_simp
    first | done | with_reducible rfl
  try simp only [Act.put, List.setIfInBounds_toArray, List.set_cons_zero, List.set_cons_succ]
  refine wpAnyH_ready (rs := [2]) (by kernel_rfl) (by simp) ?_
  refine AllReadyH.cons (o := { dst := some 19, op := Op.call { callee := Callee.value (Operand.func 28), args := #[Operand.tmp 18], argTypes := #[9] }, type := 76, pos := "ref.go:127", after := #[{ on := 1, ground := Ground.data }], guard := none }) rfl (fun K hK => ?_) AllReadyH.nil
  go_simp
  (go_at_call 28; (with_reducible refine (VA.out _).mono ?_); rintro e w6 ⟨rfl, hw6⟩; replace hw6 := hw6.symm; subst hw6)
  go_simp
  refine hK.out _ _ trivial (fun hHeld => ?_)
  clear hK K
  try simp only [Act.put, List.setIfInBounds_toArray, List.set_cons_zero, List.set_cons_succ]
  refine wpAnyH_take (i := 3) (oi := { dst := some 20, op := Op.convert 76 3 (Operand.tmp 19), type := 3, pos := "ref.go:127", after := #[{ on := 2, ground := Ground.data }], guard := none }) (v := ?_) rfl (by kernel_rfl) (by kernel_rfl) (by kernel_rfl) (fun _ _ _ h => h) (Or.inl ⟨by rfl, ?_⟩) (by assumption) ?_
  rotate_left 1
  · intro w hSw
    go_simp
    first | done | with_reducible rfl
  try simp only [Act.put, List.setIfInBounds_toArray, List.set_cons_zero, List.set_cons_succ]
  refine wpAnyH_ready (rs := [8]) (by kernel_rfl) (by simp) ?_
  refine AllReadyH.cons (o := { dst := some 25, op := Op.call { callee := Callee.value (Operand.func 28), args := #[Operand.tmp 24], argTypes := #[9] }, type := 76, pos := "ref.go:127", after := #[{ on := 7, ground := Ground.data }, { on := 2, ground := Ground.chain }], guard := none }) rfl (fun K hK => ?_) AllReadyH.nil
  go_simp
  (go_at_call 28; (with_reducible refine (VB.out _).mono ?_); rintro e w6 ⟨rfl, hw6⟩; replace hw6 := hw6.symm; subst hw6)
  go_simp
  refine hK.out _ _ trivial (fun hHeld => ?_)
  clear hK K
  try simp only [Act.put, List.setIfInBounds_toArray, List.set_cons_zero, List.set_cons_succ]
  refine wpAnyH_ready (rs := [9]) (by kernel_rfl) (by simp) ?_
  refine AllReadyH.cons (o := { dst := some 26, op := Op.call { callee := Callee.value (Operand.func 64), args := #[Operand.tmp 25], argTypes := #[76] }, type := 43, pos := "ref.go:127", after := #[{ on := 8, ground := Ground.data }, { on := 8, ground := Ground.chain }], guard := none }) rfl (fun K hK => ?_) AllReadyH.nil
  go_simp
  refine hK.out _ _ trivial (fun hHeld => ?_)
  clear hK K
  try simp only [Act.put, List.setIfInBounds_toArray, List.set_cons_zero, List.set_cons_succ]
  refine wpAnyH_take (i := 10) (oi := { dst := some 27, op := Op.build 45 #[(0, Operand.tmp 20), (1, Operand.tmp 22), (2, Operand.tmp 26)], type := 45, pos := "ref.go:127", after := #[{ on := 3, ground := Ground.data }, { on := 5, ground := Ground.data }, { on := 9, ground := Ground.data }], guard := none }) (v := ?_) rfl (by kernel_rfl) (by kernel_rfl) (by kernel_rfl) (fun _ _ _ h => h) (Or.inl ⟨by rfl, ?_⟩) (by assumption) ?_
  rotate_left 1
  · intro w hSw
    go_simp
    first | done | with_reducible rfl
  try simp only [Act.put, List.setIfInBounds_toArray, List.set_cons_zero, List.set_cons_succ]
  refine wpAnyH_take (i := 11) (oi := { dst := some 28, op := Op.fieldAddr 47 (Operand.tmp 5) 2, type := 0, pos := "ref.go:127", after := #[{ on := 0, ground := Ground.phase }, { on := 1, ground := Ground.phase }, { on := 2, ground := Ground.phase }, { on := 3, ground := Ground.phase }, { on := 4, ground := Ground.phase }, { on := 5, ground := Ground.phase }, { on := 6, ground := Ground.phase }, { on := 7, ground := Ground.phase }, { on := 8, ground := Ground.phase }, { on := 9, ground := Ground.phase }, { on := 10, ground := Ground.phase }], guard := none }) (v := ?_) rfl (by kernel_rfl) (by kernel_rfl) (by kernel_rfl) (fun _ _ _ h => h) (Or.inl ⟨by rfl, ?_⟩) (by assumption) ?_
  rotate_left 1
  · intro w hSw
    go_simp
    first | done | with_reducible rfl
  try simp only [Act.put, List.setIfInBounds_toArray, List.set_cons_zero, List.set_cons_succ]
  refine wpAnyH_ready (rs := [12]) (by kernel_rfl) (by simp) ?_
  refine AllReadyH.cons (o := { dst := none, op := Op.store 45 (Operand.tmp 28) (Operand.tmp 27), type := 0, pos := "ref.go:127", after := #[{ on := 11, ground := Ground.data }, { on := 10, ground := Ground.data }, { on := 9, ground := Ground.chain }, { on := 0, ground := Ground.phase }, { on := 1, ground := Ground.phase }, { on := 2, ground := Ground.phase }, { on := 3, ground := Ground.phase }, { on := 4, ground := Ground.phase }, { on := 5, ground := Ground.phase }, { on := 6, ground := Ground.phase }, { on := 7, ground := Ground.phase }, { on := 8, ground := Ground.phase }, { on := 9, ground := Ground.phase }, { on := 10, ground := Ground.phase }], guard := none }) rfl (fun K hK => ?_) AllReadyH.nil
  go_simp
  refine hK.out _ _ trivial (fun hHeld => ?_)
  clear hK K
  try simp only [Act.put, List.setIfInBounds_toArray, List.set_cons_zero, List.set_cons_succ]
  refine wpAnyH_done (by kernel_rfl) ?_ _
  refine NoPanic.normal ?_
  obtain ⟨W5, hW5⟩ : ∃ V, V = (((W.setCell ⟨A, 2, none⟩ (.int .i64 (n : Nat))).setCell ⟨A, 3, none⟩ (.string x3)).setCell ⟨A, 4, none⟩ (.float .f64 d)).drew := ⟨_, rfl⟩
  have g5 : W5.heap[A]? = some (.cells #[.int .i64 1, .string ⟨#[]⟩, .int .i64 (n : Nat), .string x3, .float .f64 d, .int .i64 0, .bool false, .bool false, .int .u32 0, .bool false, .int .i64 0, .int .i64 0, .int .i64 0, .int .i64 0] 47 (0, 0)) := by
    rw [hW5, drew_heap]
    simp [World.setCell, Array.getElem?_modify, G1.out]
  have r5 : W5.heap[R]? = some (.cells #[.int .i64 0, .string ⟨#[]⟩, .int .i64 0, .string ⟨#[]⟩, .float .f64 0, .int .i64 0, .bool false, .bool false, .int .u32 0, .bool false, .int .i64 0, .int .i64 0, .int .i64 0, .int .i64 0] 47 (0, 0)) := by
    rw [hW5, drew_heap]
    try simp only [heap_off R A nRA]
    exact G0.out
  have b5 : Below w.heap.size w W5 := by
    rw [hW5]
    exact (((BW.out.setCell (p := ⟨A, 2, none⟩) lA _).setCell (p := ⟨A, 3, none⟩) lA _).setCell (p := ⟨A, 4, none⟩) lA _).drew
  rw [← hW5]
  clear hW5 G0 G1 BW k2 f2 k3 f3 k4 f4
  have a0 := cellAt (i := 0) (v := .int .i64 1) g5 rfl
  have a1 := cellAt (i := 1) (v := .string ⟨#[]⟩) g5 rfl
  have a2 := cellAt (i := 2) (v := .int .i64 (n : Nat)) g5 rfl
  have a3 := cellAt (i := 3) (v := .string x3) g5 rfl
  have a4 := cellAt (i := 4) (v := .float .f64 d) g5 rfl
  have a5 := cellAt (i := 5) (v := .int .i64 0) g5 rfl
  have a6 := cellAt (i := 6) (v := .bool false) g5 rfl
  have a7 := cellAt (i := 7) (v := .bool false) g5 rfl
  have a8 := cellAt (i := 8) (v := .int .u32 0) g5 rfl
  have a9 := cellAt (i := 9) (v := .bool false) g5 rfl
  have a10 := cellAt (i := 10) (v := .int .i64 0) g5 rfl
  have a11 := cellAt (i := 11) (v := .int .i64 0) g5 rfl
  have a12 := cellAt (i := 12) (v := .int .i64 0) g5 rfl
  have a13 := cellAt (i := 13) (v := .int .i64 0) g5 rfl
  have rc0 := cellAt (i := 0) (v := .int .i64 0) r5 rfl
  have q0 := Lib.frozen_of_heap r5 0
  have rc1 := cellAt (i := 1) (v := .string ⟨#[]⟩) r5 rfl
  have q1 := Lib.frozen_of_heap r5 1
  have rc2 := cellAt (i := 2) (v := .int .i64 0) r5 rfl
  have q2 := Lib.frozen_of_heap r5 2
  have rc3 := cellAt (i := 3) (v := .string ⟨#[]⟩) r5 rfl
  have q3 := Lib.frozen_of_heap r5 3
  have rc4 := cellAt (i := 4) (v := .float .f64 0) r5 rfl
  have q4 := Lib.frozen_of_heap r5 4
  have rc5 := cellAt (i := 5) (v := .int .i64 0) r5 rfl
  have q5 := Lib.frozen_of_heap r5 5
  have rc6 := cellAt (i := 6) (v := .bool false) r5 rfl
  have q6 := Lib.frozen_of_heap r5 6
  have rc7 := cellAt (i := 7) (v := .bool false) r5 rfl
  have q7 := Lib.frozen_of_heap r5 7
  have rc8 := cellAt (i := 8) (v := .int .u32 0) r5 rfl
  have q8 := Lib.frozen_of_heap r5 8
  have rc9 := cellAt (i := 9) (v := .bool false) r5 rfl
  have q9 := Lib.frozen_of_heap r5 9
  have rc10 := cellAt (i := 10) (v := .int .i64 0) r5 rfl
  have q10 := Lib.frozen_of_heap r5 10
  have rc11 := cellAt (i := 11) (v := .int .i64 0) r5 rfl
  have q11 := Lib.frozen_of_heap r5 11
  have rc12 := cellAt (i := 12) (v := .int .i64 0) r5 rfl
  have q12 := Lib.frozen_of_heap r5 12
  have rc13 := cellAt (i := 13) (v := .int .i64 0) r5 rfl
  have q13 := Lib.frozen_of_heap r5 13
  have R5 := Lib.hid r5
  have B5 := Lib.hid b5
  clear g5 r5 b5
  try simp only [Exit.then]
  go_wp2_with (fail)
  refine bodyPost_ret (v := .agg #[.int .i64 1, .string ⟨#[]⟩, .int .i64 (n : Nat), .string x3, .float .f64 d, .int .i64 0, .bool false, .bool false, .int .u32 0, .bool false, .int .i64 0, .int .i64 0, .int .i64 0, .int .i64 0]) (results_cell_row Try.results33 _ _ R 47 _ (0, 0) _ rfl (set14 R5.out) Try.underlying47 rfl (by kernel_rfl)) rfl ⟨?_, below14 B5.out lR⟩
  unfold actC; simp only; rw [← HX.out]; rfl
set_option maxHeartbeats 4000000 in
theorem ract_2 (s : ByteArray) (l : List UInt8) (bd : BodyP) (w : World) (hl : l = s.data.toList) (h : getP 2 l = some (bd, [])) (hs : s.size ≤ MX) : Calls Try.prog 33 #[.int .i64 2, .string s] w fun e w' => e = .returned (.agg (actC 2 bd)) ∧ Below w.heap.size w w' := by
  rw [get_num l (by simp)] at h
  obtain ⟨n, hn⟩ : ∃ x, x = bv l := ⟨_, rfl⟩
  have hbd : bd = .num n := by
    split at h
    · cases h
    · injection h with h; injection h with h1 h2
      rw [← h1, take_all h2, ← hn]
  have hl2 : s.size ≤ 8 := by
    split at h
    · cases h
    · injection h with h; injection h with _ h2
      rw [List.drop_eq_nil_iff] at h2
      have : l.length = s.size := by rw [hl]; simp
      omega
  have hl22 : s.size ≤ 2 := by
    split at h
    · cases h
    · injection h with h; injection h with _ h2
      rw [List.drop_eq_nil_iff] at h2
      have : l.length = s.size := by rw [hl]; simp
      omega
  have VA : Hid (∀ V, Calls Try.prog 28 #[.string s] V fun e w' => e = .returned (.int .u64 (n : Nat)) ∧ w' = V) := fun V => by
    have h := rvalue_any s V hl2
    rw [← hl, ← hn] at h
    exact h
  have hn9 : n < 65536 := by
    have h1 := bv_u16 l
    rw [hn]
    have h2 : l.take 2 = l := List.take_of_length_le (by have : l.length = s.size := by rw [hl]; simp
                                                         omega)
    rw [h2] at h1; exact h1
  have w1 : IntKind.i64.wrap (n : Int) = (n : Int) := IntWalk.i64_in _ (by omega)
  subst hbd
  clear h hl hn
  obtain ⟨W, hW⟩ : ∃ W, W = (w.alloc (.cells #[.int .i64 0, .string ⟨#[]⟩, .int .i64 0, .string ⟨#[]⟩, .float .f64 0, .int .i64 0, .bool false, .bool false, .int .u32 0, .bool false, .int .i64 0, .int .i64 0, .int .i64 0, .int .i64 0] 47)).alloc (.cells #[.int .i64 2, .string ⟨#[]⟩, .int .i64 0, .string ⟨#[]⟩, .float .f64 0, .int .i64 0, .bool false, .bool false, .int .u32 0, .bool false, .int .i64 0, .int .i64 0, .int .i64 0, .int .i64 0] 47) := ⟨_, rfl⟩
  obtain ⟨R, hR⟩ : ∃ x, x = w.heap.size := ⟨_, rfl⟩
  obtain ⟨A, hA⟩ : ∃ x, x = w.heap.size + 1 := ⟨_, rfl⟩
  have g0 : W.heap[R]? = some (.cells #[.int .i64 0, .string ⟨#[]⟩, .int .i64 0, .string ⟨#[]⟩, .float .f64 0, .int .i64 0, .bool false, .bool false, .int .u32 0, .bool false, .int .i64 0, .int .i64 0, .int .i64 0, .int .i64 0] 47 (0, 0)) := by rw [hW, hR]; exact heap_alloc2_old _ _ _
  have g1 : W.heap[A]? = some (.cells #[.int .i64 2, .string ⟨#[]⟩, .int .i64 0, .string ⟨#[]⟩, .float .f64 0, .int .i64 0, .bool false, .bool false, .int .u32 0, .bool false, .int .i64 0, .int .i64 0, .int .i64 0, .int .i64 0] 47 (0, 0)) := by rw [hW, hA]; exact heap_alloc2_new _ _ _
  have bW : Below w.heap.size w W := by rw [hW]; exact ((Below.refl _ _).alloc (Nat.le_refl _) _).alloc (by simp) _
  have nRA : R ≠ A := by omega
  have nAR : A ≠ R := by omega
  have lR : w.heap.size ≤ R := by omega
  have lA : w.heap.size ≤ A := by omega
  have sf := store_float
  have k12 := cellAt (i := 12) (v := .int .i64 0) g1 rfl
  have f12 := Lib.frozen_of_heap g1 12
  have G0 := Lib.hid g0
  have G1 := Lib.hid g1
  have BW := Lib.hid bW
  clear g0 g1 bW
  go_enter Try.func33, Try.ntmps33
  go_upto_region 3 with (fail)
  rw [← hW, ← hA, ← hR]
  clear hW hA hR
  go_upto_region 19 with (go_at_call 28; (with_reducible refine (VA.out _).mono ?_); rintro e w6 ⟨rfl, hw6⟩; replace hw6 := hw6.symm; subst hw6)
  obtain ⟨W5, hW5⟩ : ∃ V, V = (W.setCell ⟨A, 12, none⟩ (.int .i64 (n : Nat))) := ⟨_, rfl⟩
  have g5 : W5.heap[A]? = some (.cells #[.int .i64 2, .string ⟨#[]⟩, .int .i64 0, .string ⟨#[]⟩, .float .f64 0, .int .i64 0, .bool false, .bool false, .int .u32 0, .bool false, .int .i64 0, .int .i64 0, .int .i64 (n : Nat), .int .i64 0] 47 (0, 0)) := by
    rw [hW5]
    simp [World.setCell, Array.getElem?_modify, G1.out]
  have r5 : W5.heap[R]? = some (.cells #[.int .i64 0, .string ⟨#[]⟩, .int .i64 0, .string ⟨#[]⟩, .float .f64 0, .int .i64 0, .bool false, .bool false, .int .u32 0, .bool false, .int .i64 0, .int .i64 0, .int .i64 0, .int .i64 0] 47 (0, 0)) := by
    rw [hW5]
    try simp only [heap_off R A nRA]
    exact G0.out
  have b5 : Below w.heap.size w W5 := by
    rw [hW5]
    exact (BW.out.setCell (p := ⟨A, 12, none⟩) lA _)
  rw [← hW5]
  clear hW5 G0 G1 BW k12 f12
  have a0 := cellAt (i := 0) (v := .int .i64 2) g5 rfl
  have a1 := cellAt (i := 1) (v := .string ⟨#[]⟩) g5 rfl
  have a2 := cellAt (i := 2) (v := .int .i64 0) g5 rfl
  have a3 := cellAt (i := 3) (v := .string ⟨#[]⟩) g5 rfl
  have a4 := cellAt (i := 4) (v := .float .f64 0) g5 rfl
  have a5 := cellAt (i := 5) (v := .int .i64 0) g5 rfl
  have a6 := cellAt (i := 6) (v := .bool false) g5 rfl
  have a7 := cellAt (i := 7) (v := .bool false) g5 rfl
  have a8 := cellAt (i := 8) (v := .int .u32 0) g5 rfl
  have a9 := cellAt (i := 9) (v := .bool false) g5 rfl
  have a10 := cellAt (i := 10) (v := .int .i64 0) g5 rfl
  have a11 := cellAt (i := 11) (v := .int .i64 0) g5 rfl
  have a12 := cellAt (i := 12) (v := .int .i64 (n : Nat)) g5 rfl
  have a13 := cellAt (i := 13) (v := .int .i64 0) g5 rfl
  have rc0 := cellAt (i := 0) (v := .int .i64 0) r5 rfl
  have q0 := Lib.frozen_of_heap r5 0
  have rc1 := cellAt (i := 1) (v := .string ⟨#[]⟩) r5 rfl
  have q1 := Lib.frozen_of_heap r5 1
  have rc2 := cellAt (i := 2) (v := .int .i64 0) r5 rfl
  have q2 := Lib.frozen_of_heap r5 2
  have rc3 := cellAt (i := 3) (v := .string ⟨#[]⟩) r5 rfl
  have q3 := Lib.frozen_of_heap r5 3
  have rc4 := cellAt (i := 4) (v := .float .f64 0) r5 rfl
  have q4 := Lib.frozen_of_heap r5 4
  have rc5 := cellAt (i := 5) (v := .int .i64 0) r5 rfl
  have q5 := Lib.frozen_of_heap r5 5
  have rc6 := cellAt (i := 6) (v := .bool false) r5 rfl
  have q6 := Lib.frozen_of_heap r5 6
  have rc7 := cellAt (i := 7) (v := .bool false) r5 rfl
  have q7 := Lib.frozen_of_heap r5 7
  have rc8 := cellAt (i := 8) (v := .int .u32 0) r5 rfl
  have q8 := Lib.frozen_of_heap r5 8
  have rc9 := cellAt (i := 9) (v := .bool false) r5 rfl
  have q9 := Lib.frozen_of_heap r5 9
  have rc10 := cellAt (i := 10) (v := .int .i64 0) r5 rfl
  have q10 := Lib.frozen_of_heap r5 10
  have rc11 := cellAt (i := 11) (v := .int .i64 0) r5 rfl
  have q11 := Lib.frozen_of_heap r5 11
  have rc12 := cellAt (i := 12) (v := .int .i64 0) r5 rfl
  have q12 := Lib.frozen_of_heap r5 12
  have rc13 := cellAt (i := 13) (v := .int .i64 0) r5 rfl
  have q13 := Lib.frozen_of_heap r5 13
  have R5 := Lib.hid r5
  have B5 := Lib.hid b5
  clear g5 r5 b5
  skip
  go_wp2_with (fail)
  refine bodyPost_ret (v := .agg #[.int .i64 2, .string ⟨#[]⟩, .int .i64 0, .string ⟨#[]⟩, .float .f64 0, .int .i64 0, .bool false, .bool false, .int .u32 0, .bool false, .int .i64 0, .int .i64 0, .int .i64 (n : Nat), .int .i64 0]) (results_cell_row Try.results33 _ _ R 47 _ (0, 0) _ rfl (set14 R5.out) Try.underlying47 rfl (by kernel_rfl)) rfl ⟨?_, below14 B5.out lR⟩
  rfl
set_option maxHeartbeats 4000000 in
theorem ract_3 (s : ByteArray) (l : List UInt8) (bd : BodyP) (w : World) (hl : l = s.data.toList) (h : getP 3 l = some (bd, [])) (hs : s.size ≤ MX) : Calls Try.prog 33 #[.int .i64 3, .string s] w fun e w' => e = .returned (.agg (actC 3 bd)) ∧ Below w.heap.size w w' := by
  rw [get_num l (by simp)] at h
  obtain ⟨n, hn⟩ : ∃ x, x = bv l := ⟨_, rfl⟩
  have hbd : bd = .num n := by
    split at h
    · cases h
    · injection h with h; injection h with h1 h2
      rw [← h1, take_all h2, ← hn]
  have hl2 : s.size ≤ 8 := by
    split at h
    · cases h
    · injection h with h; injection h with _ h2
      rw [List.drop_eq_nil_iff] at h2
      have : l.length = s.size := by rw [hl]; simp
      omega
  have hl22 : s.size ≤ 2 := by
    split at h
    · cases h
    · injection h with h; injection h with _ h2
      rw [List.drop_eq_nil_iff] at h2
      have : l.length = s.size := by rw [hl]; simp
      omega
  have VA : Hid (∀ V, Calls Try.prog 28 #[.string s] V fun e w' => e = .returned (.int .u64 (n : Nat)) ∧ w' = V) := fun V => by
    have h := rvalue_any s V hl2
    rw [← hl, ← hn] at h
    exact h
  have hn9 : n < 65536 := by
    have h1 := bv_u16 l
    rw [hn]
    have h2 : l.take 2 = l := List.take_of_length_le (by have : l.length = s.size := by rw [hl]; simp
                                                         omega)
    rw [h2] at h1; exact h1
  have w1 : IntKind.i64.wrap (n : Int) = (n : Int) := IntWalk.i64_in _ (by omega)
  subst hbd
  clear h hl hn
  obtain ⟨W, hW⟩ : ∃ W, W = (w.alloc (.cells #[.int .i64 0, .string ⟨#[]⟩, .int .i64 0, .string ⟨#[]⟩, .float .f64 0, .int .i64 0, .bool false, .bool false, .int .u32 0, .bool false, .int .i64 0, .int .i64 0, .int .i64 0, .int .i64 0] 47)).alloc (.cells #[.int .i64 3, .string ⟨#[]⟩, .int .i64 0, .string ⟨#[]⟩, .float .f64 0, .int .i64 0, .bool false, .bool false, .int .u32 0, .bool false, .int .i64 0, .int .i64 0, .int .i64 0, .int .i64 0] 47) := ⟨_, rfl⟩
  obtain ⟨R, hR⟩ : ∃ x, x = w.heap.size := ⟨_, rfl⟩
  obtain ⟨A, hA⟩ : ∃ x, x = w.heap.size + 1 := ⟨_, rfl⟩
  have g0 : W.heap[R]? = some (.cells #[.int .i64 0, .string ⟨#[]⟩, .int .i64 0, .string ⟨#[]⟩, .float .f64 0, .int .i64 0, .bool false, .bool false, .int .u32 0, .bool false, .int .i64 0, .int .i64 0, .int .i64 0, .int .i64 0] 47 (0, 0)) := by rw [hW, hR]; exact heap_alloc2_old _ _ _
  have g1 : W.heap[A]? = some (.cells #[.int .i64 3, .string ⟨#[]⟩, .int .i64 0, .string ⟨#[]⟩, .float .f64 0, .int .i64 0, .bool false, .bool false, .int .u32 0, .bool false, .int .i64 0, .int .i64 0, .int .i64 0, .int .i64 0] 47 (0, 0)) := by rw [hW, hA]; exact heap_alloc2_new _ _ _
  have bW : Below w.heap.size w W := by rw [hW]; exact ((Below.refl _ _).alloc (Nat.le_refl _) _).alloc (by simp) _
  have nRA : R ≠ A := by omega
  have nAR : A ≠ R := by omega
  have lR : w.heap.size ≤ R := by omega
  have lA : w.heap.size ≤ A := by omega
  have sf := store_float
  have k12 := cellAt (i := 12) (v := .int .i64 0) g1 rfl
  have f12 := Lib.frozen_of_heap g1 12
  have G0 := Lib.hid g0
  have G1 := Lib.hid g1
  have BW := Lib.hid bW
  clear g0 g1 bW
  go_enter Try.func33, Try.ntmps33
  go_upto_region 3 with (fail)
  rw [← hW, ← hA, ← hR]
  clear hW hA hR
  go_upto_region 19 with (go_at_call 28; (with_reducible refine (VA.out _).mono ?_); rintro e w6 ⟨rfl, hw6⟩; replace hw6 := hw6.symm; subst hw6)
  obtain ⟨W5, hW5⟩ : ∃ V, V = (W.setCell ⟨A, 12, none⟩ (.int .i64 (n : Nat))) := ⟨_, rfl⟩
  have g5 : W5.heap[A]? = some (.cells #[.int .i64 3, .string ⟨#[]⟩, .int .i64 0, .string ⟨#[]⟩, .float .f64 0, .int .i64 0, .bool false, .bool false, .int .u32 0, .bool false, .int .i64 0, .int .i64 0, .int .i64 (n : Nat), .int .i64 0] 47 (0, 0)) := by
    rw [hW5]
    simp [World.setCell, Array.getElem?_modify, G1.out]
  have r5 : W5.heap[R]? = some (.cells #[.int .i64 0, .string ⟨#[]⟩, .int .i64 0, .string ⟨#[]⟩, .float .f64 0, .int .i64 0, .bool false, .bool false, .int .u32 0, .bool false, .int .i64 0, .int .i64 0, .int .i64 0, .int .i64 0] 47 (0, 0)) := by
    rw [hW5]
    try simp only [heap_off R A nRA]
    exact G0.out
  have b5 : Below w.heap.size w W5 := by
    rw [hW5]
    exact (BW.out.setCell (p := ⟨A, 12, none⟩) lA _)
  rw [← hW5]
  clear hW5 G0 G1 BW k12 f12
  have a0 := cellAt (i := 0) (v := .int .i64 3) g5 rfl
  have a1 := cellAt (i := 1) (v := .string ⟨#[]⟩) g5 rfl
  have a2 := cellAt (i := 2) (v := .int .i64 0) g5 rfl
  have a3 := cellAt (i := 3) (v := .string ⟨#[]⟩) g5 rfl
  have a4 := cellAt (i := 4) (v := .float .f64 0) g5 rfl
  have a5 := cellAt (i := 5) (v := .int .i64 0) g5 rfl
  have a6 := cellAt (i := 6) (v := .bool false) g5 rfl
  have a7 := cellAt (i := 7) (v := .bool false) g5 rfl
  have a8 := cellAt (i := 8) (v := .int .u32 0) g5 rfl
  have a9 := cellAt (i := 9) (v := .bool false) g5 rfl
  have a10 := cellAt (i := 10) (v := .int .i64 0) g5 rfl
  have a11 := cellAt (i := 11) (v := .int .i64 0) g5 rfl
  have a12 := cellAt (i := 12) (v := .int .i64 (n : Nat)) g5 rfl
  have a13 := cellAt (i := 13) (v := .int .i64 0) g5 rfl
  have rc0 := cellAt (i := 0) (v := .int .i64 0) r5 rfl
  have q0 := Lib.frozen_of_heap r5 0
  have rc1 := cellAt (i := 1) (v := .string ⟨#[]⟩) r5 rfl
  have q1 := Lib.frozen_of_heap r5 1
  have rc2 := cellAt (i := 2) (v := .int .i64 0) r5 rfl
  have q2 := Lib.frozen_of_heap r5 2
  have rc3 := cellAt (i := 3) (v := .string ⟨#[]⟩) r5 rfl
  have q3 := Lib.frozen_of_heap r5 3
  have rc4 := cellAt (i := 4) (v := .float .f64 0) r5 rfl
  have q4 := Lib.frozen_of_heap r5 4
  have rc5 := cellAt (i := 5) (v := .int .i64 0) r5 rfl
  have q5 := Lib.frozen_of_heap r5 5
  have rc6 := cellAt (i := 6) (v := .bool false) r5 rfl
  have q6 := Lib.frozen_of_heap r5 6
  have rc7 := cellAt (i := 7) (v := .bool false) r5 rfl
  have q7 := Lib.frozen_of_heap r5 7
  have rc8 := cellAt (i := 8) (v := .int .u32 0) r5 rfl
  have q8 := Lib.frozen_of_heap r5 8
  have rc9 := cellAt (i := 9) (v := .bool false) r5 rfl
  have q9 := Lib.frozen_of_heap r5 9
  have rc10 := cellAt (i := 10) (v := .int .i64 0) r5 rfl
  have q10 := Lib.frozen_of_heap r5 10
  have rc11 := cellAt (i := 11) (v := .int .i64 0) r5 rfl
  have q11 := Lib.frozen_of_heap r5 11
  have rc12 := cellAt (i := 12) (v := .int .i64 0) r5 rfl
  have q12 := Lib.frozen_of_heap r5 12
  have rc13 := cellAt (i := 13) (v := .int .i64 0) r5 rfl
  have q13 := Lib.frozen_of_heap r5 13
  have R5 := Lib.hid r5
  have B5 := Lib.hid b5
  clear g5 r5 b5
  skip
  go_wp2_with (fail)
  refine bodyPost_ret (v := .agg #[.int .i64 3, .string ⟨#[]⟩, .int .i64 0, .string ⟨#[]⟩, .float .f64 0, .int .i64 0, .bool false, .bool false, .int .u32 0, .bool false, .int .i64 0, .int .i64 0, .int .i64 (n : Nat), .int .i64 0]) (results_cell_row Try.results33 _ _ R 47 _ (0, 0) _ rfl (set14 R5.out) Try.underlying47 rfl (by kernel_rfl)) rfl ⟨?_, below14 B5.out lR⟩
  rfl
set_option maxHeartbeats 4000000 in
theorem ract_4 (s : ByteArray) (l : List UInt8) (bd : BodyP) (w : World) (hl : l = s.data.toList) (h : getP 4 l = some (bd, [])) (hs : s.size ≤ MX) : Calls Try.prog 33 #[.int .i64 4, .string s] w fun e w' => e = .returned (.agg (actC 4 bd)) ∧ Below w.heap.size w w' := by
  have hll : l.length = s.size := by rw [hl]; simp
  obtain ⟨h8, hbd⟩ : 8 ≤ s.size ∧ bd = .tun (tunP l) := by
    simp only [getP] at h
    by_cases h3 : l.length < 8
    · simp [h3] at h
    · simp [h3] at h
      exact ⟨by omega, h.1.symm⟩
  obtain ⟨m, hm⟩ : ∃ x, x = (tunP l).mode := ⟨_, rfl⟩
  obtain ⟨va, hva⟩ : ∃ x, x = (tunP l).value := ⟨_, rfl⟩
  obtain ⟨tt, htt⟩ : ∃ x, x = (tunP l).ttl := ⟨_, rfl⟩
  obtain ⟨tz, htz⟩ : ∃ x, x = (tunP l).tos := ⟨_, rfl⟩
  obtain ⟨B1, hB1⟩ : ∃ x, x = ((tunP l).bits % 2 == 1) := ⟨_, rfl⟩
  obtain ⟨B2, hB2⟩ : ∃ x, x = ((tunP l).bits / 2 % 2 == 1) := ⟨_, rfl⟩
  obtain ⟨B4, hB4⟩ : ∃ x, x = ((tunP l).bits / 4 % 2 == 1) := ⟨_, rfl⟩
  have TA : Hid (∀ V, Calls Try.prog 27 #[.string s] V fun e w' => e = .returned (.agg #[.int .i64 (m : Nat), .bool B1, .bool B2, .int .u32 (va : Nat), .bool B4, .int .i64 (tt : Nat), .int .i64 (tz : Nat)]) ∧ Below V.heap.size V w') := by
    intro V
    have h := rgtun_any s V h8 hs
    unfold tunV at h
    rw [← hl, ← hm, ← hva, ← htt, ← htz, ← hB1, ← hB2, ← hB4] at h
    exact h
  have HE : Hid (actC 4 (.tun (tunP l)) = #[.int .i64 4, .string ⟨#[]⟩, .int .i64 0, .string ⟨#[]⟩, .float .f64 0, .int .i64 (m : Nat), .bool B1, .bool B2, .int .u32 (va : Nat), .bool B4, .int .i64 (tt : Nat), .int .i64 (tz : Nat), .int .i64 0, .int .i64 0]) := by
    show _ = _
    unfold actC
    simp only [← hm, ← hva, ← htt, ← htz, ← hB1, ← hB2, ← hB4]
    rfl
  subst hbd
  clear h hl hm hva htt htz hB1 hB2 hB4 hll
  obtain ⟨W, hW⟩ : ∃ W, W = (w.alloc (.cells #[.int .i64 0, .string ⟨#[]⟩, .int .i64 0, .string ⟨#[]⟩, .float .f64 0, .int .i64 0, .bool false, .bool false, .int .u32 0, .bool false, .int .i64 0, .int .i64 0, .int .i64 0, .int .i64 0] 47)).alloc (.cells #[.int .i64 4, .string ⟨#[]⟩, .int .i64 0, .string ⟨#[]⟩, .float .f64 0, .int .i64 0, .bool false, .bool false, .int .u32 0, .bool false, .int .i64 0, .int .i64 0, .int .i64 0, .int .i64 0] 47) := ⟨_, rfl⟩
  obtain ⟨R, hR⟩ : ∃ x, x = w.heap.size := ⟨_, rfl⟩
  obtain ⟨A, hA⟩ : ∃ x, x = w.heap.size + 1 := ⟨_, rfl⟩
  have g0 : W.heap[R]? = some (.cells #[.int .i64 0, .string ⟨#[]⟩, .int .i64 0, .string ⟨#[]⟩, .float .f64 0, .int .i64 0, .bool false, .bool false, .int .u32 0, .bool false, .int .i64 0, .int .i64 0, .int .i64 0, .int .i64 0] 47 (0, 0)) := by rw [hW, hR]; exact heap_alloc2_old _ _ _
  have g1 : W.heap[A]? = some (.cells #[.int .i64 4, .string ⟨#[]⟩, .int .i64 0, .string ⟨#[]⟩, .float .f64 0, .int .i64 0, .bool false, .bool false, .int .u32 0, .bool false, .int .i64 0, .int .i64 0, .int .i64 0, .int .i64 0] 47 (0, 0)) := by rw [hW, hA]; exact heap_alloc2_new _ _ _
  have bW : Below w.heap.size w W := by rw [hW]; exact ((Below.refl _ _).alloc (Nat.le_refl _) _).alloc (by simp) _
  have nRA : R ≠ A := by omega
  have nAR : A ≠ R := by omega
  have lR : w.heap.size ≤ R := by omega
  have lA : w.heap.size ≤ A := by omega
  have sf := store_float
  have G0 := Lib.hid g0
  have G1 := Lib.hid g1
  have BW := Lib.hid bW
  clear g0 g1 bW
  go_enter Try.func33, Try.ntmps33
  go_upto_region 3 with (fail)
  rw [← hW, ← hA, ← hR]
  clear hW hA hR
  go_upto_region 15 with (fail)
  go_wp2_with (fail)
  (with_reducible refine (TA.out _).mono ?_)
  clear TA
  rintro e w6 ⟨rfl, hb6⟩
  have g1 := (hb6.block _ (heap_lt G1.out)).trans G1.out
  have g0 := (hb6.block _ (heap_lt G0.out)).trans G0.out
  have bW := BW.out.trans (hb6.mono BW.out.size)
  have k5 := cellAt (i := 5) (v := .int .i64 0) g1 rfl
  have f5 := Lib.frozen_of_heap g1 5
  have k6 := cellAt (i := 6) (v := .bool false) g1 rfl
  have f6 := Lib.frozen_of_heap g1 6
  have k7 := cellAt (i := 7) (v := .bool false) g1 rfl
  have f7 := Lib.frozen_of_heap g1 7
  have k8 := cellAt (i := 8) (v := .int .u32 0) g1 rfl
  have f8 := Lib.frozen_of_heap g1 8
  have k9 := cellAt (i := 9) (v := .bool false) g1 rfl
  have f9 := Lib.frozen_of_heap g1 9
  have k10 := cellAt (i := 10) (v := .int .i64 0) g1 rfl
  have f10 := Lib.frozen_of_heap g1 10
  have k11 := cellAt (i := 11) (v := .int .i64 0) g1 rfl
  have f11 := Lib.frozen_of_heap g1 11
  clear G0 G1 BW hb6
  have G0 := Lib.hid g0
  have G1 := Lib.hid g1
  have BW := Lib.hid bW
  clear g0 g1 bW
  go_upto_region 19 with (fail)
  obtain ⟨W5, hW5⟩ : ∃ V, V = (((((((w6.setCell ⟨A, 5, none⟩ (.int .i64 (m : Nat))).setCell ⟨A, 6, none⟩ (.bool B1)).setCell ⟨A, 7, none⟩ (.bool B2)).setCell ⟨A, 8, none⟩ (.int .u32 (va : Nat))).setCell ⟨A, 9, none⟩ (.bool B4)).setCell ⟨A, 10, none⟩ (.int .i64 (tt : Nat))).setCell ⟨A, 11, none⟩ (.int .i64 (tz : Nat))) := ⟨_, rfl⟩
  have g5 : W5.heap[A]? = some (.cells #[.int .i64 4, .string ⟨#[]⟩, .int .i64 0, .string ⟨#[]⟩, .float .f64 0, .int .i64 (m : Nat), .bool B1, .bool B2, .int .u32 (va : Nat), .bool B4, .int .i64 (tt : Nat), .int .i64 (tz : Nat), .int .i64 0, .int .i64 0] 47 (0, 0)) := by
    rw [hW5]
    simp [World.setCell, Array.getElem?_modify, G1.out]
  have r5 : W5.heap[R]? = some (.cells #[.int .i64 0, .string ⟨#[]⟩, .int .i64 0, .string ⟨#[]⟩, .float .f64 0, .int .i64 0, .bool false, .bool false, .int .u32 0, .bool false, .int .i64 0, .int .i64 0, .int .i64 0, .int .i64 0] 47 (0, 0)) := by
    rw [hW5]
    try simp only [heap_off R A nRA]
    exact G0.out
  have b5 : Below w.heap.size w W5 := by
    rw [hW5]
    exact (((((((BW.out.setCell (p := ⟨A, 5, none⟩) lA _).setCell (p := ⟨A, 6, none⟩) lA _).setCell (p := ⟨A, 7, none⟩) lA _).setCell (p := ⟨A, 8, none⟩) lA _).setCell (p := ⟨A, 9, none⟩) lA _).setCell (p := ⟨A, 10, none⟩) lA _).setCell (p := ⟨A, 11, none⟩) lA _)
  rw [← hW5]
  clear hW5 G0 G1 BW k5 f5 k6 f6 k7 f7 k8 f8 k9 f9 k10 f10 k11 f11
  have a0 := cellAt (i := 0) (v := .int .i64 4) g5 rfl
  have a1 := cellAt (i := 1) (v := .string ⟨#[]⟩) g5 rfl
  have a2 := cellAt (i := 2) (v := .int .i64 0) g5 rfl
  have a3 := cellAt (i := 3) (v := .string ⟨#[]⟩) g5 rfl
  have a4 := cellAt (i := 4) (v := .float .f64 0) g5 rfl
  have a5 := cellAt (i := 5) (v := .int .i64 (m : Nat)) g5 rfl
  have a6 := cellAt (i := 6) (v := .bool B1) g5 rfl
  have a7 := cellAt (i := 7) (v := .bool B2) g5 rfl
  have a8 := cellAt (i := 8) (v := .int .u32 (va : Nat)) g5 rfl
  have a9 := cellAt (i := 9) (v := .bool B4) g5 rfl
  have a10 := cellAt (i := 10) (v := .int .i64 (tt : Nat)) g5 rfl
  have a11 := cellAt (i := 11) (v := .int .i64 (tz : Nat)) g5 rfl
  have a12 := cellAt (i := 12) (v := .int .i64 0) g5 rfl
  have a13 := cellAt (i := 13) (v := .int .i64 0) g5 rfl
  have rc0 := cellAt (i := 0) (v := .int .i64 0) r5 rfl
  have q0 := Lib.frozen_of_heap r5 0
  have rc1 := cellAt (i := 1) (v := .string ⟨#[]⟩) r5 rfl
  have q1 := Lib.frozen_of_heap r5 1
  have rc2 := cellAt (i := 2) (v := .int .i64 0) r5 rfl
  have q2 := Lib.frozen_of_heap r5 2
  have rc3 := cellAt (i := 3) (v := .string ⟨#[]⟩) r5 rfl
  have q3 := Lib.frozen_of_heap r5 3
  have rc4 := cellAt (i := 4) (v := .float .f64 0) r5 rfl
  have q4 := Lib.frozen_of_heap r5 4
  have rc5 := cellAt (i := 5) (v := .int .i64 0) r5 rfl
  have q5 := Lib.frozen_of_heap r5 5
  have rc6 := cellAt (i := 6) (v := .bool false) r5 rfl
  have q6 := Lib.frozen_of_heap r5 6
  have rc7 := cellAt (i := 7) (v := .bool false) r5 rfl
  have q7 := Lib.frozen_of_heap r5 7
  have rc8 := cellAt (i := 8) (v := .int .u32 0) r5 rfl
  have q8 := Lib.frozen_of_heap r5 8
  have rc9 := cellAt (i := 9) (v := .bool false) r5 rfl
  have q9 := Lib.frozen_of_heap r5 9
  have rc10 := cellAt (i := 10) (v := .int .i64 0) r5 rfl
  have q10 := Lib.frozen_of_heap r5 10
  have rc11 := cellAt (i := 11) (v := .int .i64 0) r5 rfl
  have q11 := Lib.frozen_of_heap r5 11
  have rc12 := cellAt (i := 12) (v := .int .i64 0) r5 rfl
  have q12 := Lib.frozen_of_heap r5 12
  have rc13 := cellAt (i := 13) (v := .int .i64 0) r5 rfl
  have q13 := Lib.frozen_of_heap r5 13
  have R5 := Lib.hid r5
  have B5 := Lib.hid b5
  clear g5 r5 b5
  skip
  go_wp2_with (fail)
  refine bodyPost_ret (v := .agg #[.int .i64 4, .string ⟨#[]⟩, .int .i64 0, .string ⟨#[]⟩, .float .f64 0, .int .i64 (m : Nat), .bool B1, .bool B2, .int .u32 (va : Nat), .bool B4, .int .i64 (tt : Nat), .int .i64 (tz : Nat), .int .i64 0, .int .i64 0]) (results_cell_row Try.results33 _ _ R 47 _ (0, 0) _ rfl (set14 R5.out) Try.underlying47 rfl (by kernel_rfl)) rfl ⟨?_, below14 B5.out lR⟩
  rw [HE.out]
end Go.Proofs.Ytmijfhfjhbckdaa
