import Derived.Test.YtmijfhfjhbckdaaCfg
/- The document's Value and GetTunnel. -/
namespace Go.Proofs.Ytmijfhfjhbckdaa
set_option maxRecDepth 100000
open Go.RowKit
theorem bv_le8 (l : List UInt8) (h : l.length ≤ 8) : bv l < 18446744073709551616 := by
  have h1 := bv_lt l
  have h2 : 256 ^ l.length ≤ 256 ^ 8 := Nat.pow_le_pow_right (by decide) h
  have h3 : (256 : Nat) ^ 8 = 18446744073709551616 := by decide
  omega
set_option maxHeartbeats 2000000 in
theorem rvalue_any (s : ByteArray) (w : World) (hs : s.size ≤ 8) : Calls Try.prog 28 #[.string s] w fun e w' => e = .returned (.int .u64 (bv s.data.toList : Nat)) ∧ w' = w := by
  go_enter Try.func28, Try.ntmps28
  go_wp2
  go_loop [3, 4] (fun v n => ∃ k : Nat, k ≤ s.size ∧ n = .int .i64 k ∧ v = .int .u64 (bv (s.data.toList.take k) : Nat)) (fun _ n => s.size - (intOf n).toNat)
  case atStart => exact ⟨0, by omega, rfl, rfl⟩
  case round =>
    obtain ⟨k, hk, rfl, rfl⟩ := hrel
    by_cases hlt : k < s.size
    · obtain ⟨y, hy⟩ : ∃ y, y = bv (s.data.toList.take k) := ⟨_, rfl⟩
      obtain ⟨z, hz⟩ : ∃ z, z = bv (s.data.toList.take (k + 1)) := ⟨_, rfl⟩
      have hzy : z = y * 256 + s[k].toNat := by
        rw [hz, hy, List.take_succ_eq_append_getElem (by simpa using hlt), bv_snoc]; rfl
      have hzl : z < 18446744073709551616 := by rw [hz]; exact bv_le8 _ (by rw [List.length_take]; omega)
      have hc := s[k].toNat_lt
      obtain ⟨c, hcc⟩ : ∃ c, c = s[k].toNat := ⟨_, rfl⟩
      rw [← hcc] at hzy hc
      have HZY := Lib.hid hzy
      have HZ := Lib.hid hz
      rw [← hy]
      have HC := Lib.hid hcc
      clear hy hz hcc hzy
      go_wp2
      have e3 : IntKind.u64.wrap ((s[k].toNat : Nat) : Int) = (c : Int) := by rw [← HC.out, IntKind.wrap_u64]; omega
      have e4 : IntKind.u64.wrap ((y : Int) * 256) = ((y * 256 : Nat) : Int) := by rw [IntKind.wrap_u64]; have := HZY.out; omega
      have e5 : IntKind.u64.wrap (((y * 256 : Nat) : Int) + (c : Int)) = (z : Int) := by rw [IntKind.wrap_u64]; have := HZY.out; omega
      exact ⟨⟨k + 1, by omega, by go_num, by rw [e3, e4, e5, HZ.out]⟩, by simp [intOf] <;> omega⟩
    · obtain rfl : k = s.size := by omega
      go_wp2
      go_ret
      refine ⟨?_, rfl⟩
      rw [List.take_of_length_le (by simp)]; rfl
theorem ext_list (s : ByteArray) (a b : Nat) : (s.extract a b).data.toList = (s.data.toList.drop a).take (b - a) := by
  simp [ByteArray.data_extract, List.drop_take]
theorem bv_at (s : ByteArray) (k : Nat) (h : k < s.size) : bv ((s.data.toList.drop k).take 1) = s[k].toNat := by
  rw [List.drop_eq_getElem_cons (by simpa using h)]
  show bv [s[k]] = _
  simp [bv]
theorem tm_bit2 (x : Nat) (hx : x < 256) : (((IntKind.u8.wrap ((x : Int) / 2)).tmod 2) == 1) = (x / 2 % 2 == 1) := by
  have h1 : IntKind.u8.wrap ((x : Int) / 2) = ((x / 2 : Nat) : Int) := by rw [IntKind.wrap_u8]; omega
  rw [h1, Int.tmod_eq_emod_of_nonneg (by omega), Bool.eq_iff_iff]
  simp only [beq_iff_eq]
  omega
theorem tm_bit4 (x : Nat) (hx : x < 256) : (((IntKind.u8.wrap ((x : Int) / 4)).tmod 2) == 1) = (x / 4 % 2 == 1) := by
  have h1 : IntKind.u8.wrap ((x : Int) / 4) = ((x / 4 : Nat) : Int) := by rw [IntKind.wrap_u8]; omega
  rw [h1, Int.tmod_eq_emod_of_nonneg (by omega), Bool.eq_iff_iff]
  simp only [beq_iff_eq]
  omega
theorem tm_bit1 (x : Nat) : (((x : Int).tmod 2) == 1) = (x % 2 == 1) := by
  rw [Int.tmod_eq_emod_of_nonneg (by omega), Bool.eq_iff_iff]
  simp only [beq_iff_eq]
  omega
set_option maxHeartbeats 4000000 in
theorem rgtun_any (s : ByteArray) (w : World) (h8 : 8 ≤ s.size) (hs : s.size ≤ MX) : Calls Try.prog 27 #[.string s] w fun e w' => e = .returned (tunV (tunP s.data.toList)) ∧ Below w.heap.size w w' := by
  obtain ⟨W, hW⟩ : ∃ W, W = w.alloc (.cells #[.int .i64 0, .bool false, .bool false, .int .u32 0, .bool false, .int .i64 0, .int .i64 0] 25) := ⟨_, rfl⟩
  obtain ⟨R, hR⟩ : ∃ R, R = w.heap.size := ⟨_, rfl⟩
  have g0 : W.heap[R]? = some (.cells #[.int .i64 0, .bool false, .bool false, .int .u32 0, .bool false, .int .i64 0, .int .i64 0] 25 (0, 0)) := by rw [hW, hR]; exact alloc_new _ _
  have HB : Hid (Below w.heap.size w W) := by show Below _ _ _; rw [hW]; exact (Below.refl _ _).alloc (Nat.le_refl _) _
  have HRR : Hid (w.heap.size ≤ R) := by show _ ≤ _; omega
  obtain ⟨m, hm⟩ : ∃ x, x = s[0].toNat := ⟨_, rfl⟩
  obtain ⟨x, hx⟩ : ∃ x, x = s[1].toNat := ⟨_, rfl⟩
  obtain ⟨tt, htt⟩ : ∃ x, x = s[6].toNat := ⟨_, rfl⟩
  obtain ⟨tz, htz⟩ : ∃ x, x = s[7].toNat := ⟨_, rfl⟩
  obtain ⟨va, hva⟩ : ∃ x, x = bv ((s.data.toList.drop 2).take 4) := ⟨_, rfl⟩
  have hm9 : m < 256 := by rw [hm]; exact s[0].toNat_lt
  have hx9 : x < 256 := by rw [hx]; exact s[1].toNat_lt
  have ht9 : tt < 256 := by rw [htt]; exact s[6].toNat_lt
  have hz9 : tz < 256 := by rw [htz]; exact s[7].toNat_lt
  have hva9 : va < 4294967296 := by
    rw [hva]
    have h := bv_lt ((s.data.toList.drop 2).take 4)
    have h2 : 256 ^ ((s.data.toList.drop 2).take 4).length ≤ 256 ^ 4 := Nat.pow_le_pow_right (by decide) (by rw [List.length_take]; omega)
    omega
  have VA : Hid (∀ V, Calls Try.prog 28 #[.string (s.extract 2 6)] V fun e w' => e = .returned (.int .u64 va) ∧ w' = V) := fun V => (rvalue_any (s.extract 2 6) V (by rw [ByteArray.size_extract]; omega)).mono fun e w' h => by
    rw [ext_list, ← hva] at h; exact h
  have HE : Hid (tunV (tunP s.data.toList) = .agg #[.int .i64 (m : Nat), .bool (x % 2 == 1), .bool (x / 2 % 2 == 1), .int .u32 (va : Nat), .bool (x / 4 % 2 == 1), .int .i64 (tt : Nat), .int .i64 (tz : Nat)]) := by
    show _ = _
    unfold tunV tunP
    have e0 := bv_at s 0 (by omega)
    rw [List.drop_zero] at e0
    simp only [e0, bv_at s 1 (by omega), bv_at s 6 (by omega), bv_at s 7 (by omega), hm, hx, htt, htz, hva]
  have b1 : (((x : Int) % 2) == 1) = (x % 2 == 1) := by rw [Bool.eq_iff_iff]; simp; omega
  have b2 : (((x : Int) / 2 % 2) == 1) = (x / 2 % 2 == 1) := by rw [Bool.eq_iff_iff]; simp; omega
  have b4 : (((x : Int) / 4 % 2) == 1) = (x / 4 % 2 == 1) := by rw [Bool.eq_iff_iff]; simp; omega
  obtain ⟨B1, hB1⟩ : ∃ B, B = (x % 2 == 1) := ⟨_, rfl⟩
  obtain ⟨B2, hB2⟩ : ∃ B, B = (x / 2 % 2 == 1) := ⟨_, rfl⟩
  obtain ⟨B4, hB4⟩ : ∃ B, B = (x / 4 % 2 == 1) := ⟨_, rfl⟩
  rw [← hB1] at b1 HE
  rw [← hB2] at b2 HE
  rw [← hB4] at b4 HE
  have x0 : ∀ h : 0 < s.size, (s[0]'h).toNat = m := fun _ => hm.symm
  have x1 : ∀ h : 1 < s.size, (s[1]'h).toNat = x := fun _ => hx.symm
  have x6 : ∀ h : 6 < s.size, (s[6]'h).toNat = tt := fun _ => htt.symm
  have x7 : ∀ h : 7 < s.size, (s[7]'h).toNat = tz := fun _ => htz.symm
  have s0 : 0 < s.size := by omega
  have s1 : 1 < s.size := by omega
  have s6 : 6 < s.size := by omega
  have s7 : 7 < s.size := by omega
  have i0 : (0 : Int) < (s.size : Int) := by omega
  have i1 : (1 : Int) < (s.size : Int) := by omega
  have i6 : (6 : Int) < (s.size : Int) := by omega
  have i7 : (7 : Int) < (s.size : Int) := by omega
  have t6 : (6 : Int) ≤ (s.size : Int) := by omega
  have t6' : 6 ≤ s.size := by omega
  have w1 : IntKind.u32.wrap (va : Int) = (va : Int) := by rw [IntKind.wrap_u32]; omega
  have w2 : IntKind.i64.wrap (m : Int) = (m : Int) := IntWalk.i64_in _ (by omega)
  have w3 : IntKind.i64.wrap (tt : Int) = (tt : Int) := IntWalk.i64_in _ (by omega)
  have w4 : IntKind.i64.wrap (tz : Int) = (tz : Int) := IntWalk.i64_in _ (by omega)
  have G0 := Lib.hid g0
  have k0 := cellAt (i := 0) (v := .int .i64 0) g0 rfl
  have k1 := cellAt (i := 1) (v := .bool false) g0 rfl
  have k2 := cellAt (i := 2) (v := .bool false) g0 rfl
  have k3 := cellAt (i := 3) (v := .int .u32 0) g0 rfl
  have k4 := cellAt (i := 4) (v := .bool false) g0 rfl
  have k5 := cellAt (i := 5) (v := .int .i64 0) g0 rfl
  have k6 := cellAt (i := 6) (v := .int .i64 0) g0 rfl
  have f0 := Lib.frozen_of_heap g0 0
  have f1 := Lib.frozen_of_heap g0 1
  have f2 := Lib.frozen_of_heap g0 2
  have f3 := Lib.frozen_of_heap g0 3
  have f4 := Lib.frozen_of_heap g0 4
  have f5 := Lib.frozen_of_heap g0 5
  have f6 := Lib.frozen_of_heap g0 6
  have hq1 := hB1
  have hq2 := hB2
  have hq4 := hB4
  have HQ1 := Lib.hid hq1
  have HQ2 := Lib.hid hq2
  have HQ4 := Lib.hid hq4
  clear hm hx htt htz hva hB1 hB2 hB4 hq1 hq2 hq4 g0
  go_enter Try.func27, Try.ntmps27
  go_upto_region 1 with (fail)
  rw [← hW, ← hR]
  clear hW hR
  refine wp_region_noPanic ?_
  refine wp_region_held_drew (S := fun _ => True) (by kernel_rfl) trivial (fun hHeld => ?_)
  refine wpAnyH_take (i := 0) (oi := { dst := some 3, op := Op.move (Operand.tmp 0), type := 9, pos := "ref.go:42", after := #[], guard := none }) (v := ?_) rfl (by kernel_rfl) (by kernel_rfl) (by kernel_rfl) (fun _ _ _ h => h) (Or.inl ⟨by rfl, ?_⟩) (by assumption) ?_
  rotate_left 1
  · intro w hSw
    go_simp
    first | done | with_reducible rfl
  try simp only [Act.put, List.setIfInBounds_toArray, List.set_cons_zero, List.set_cons_succ]
  refine wpAnyH_take (i := 1) (oi := { dst := some 4, op := Op.index 9 (Operand.tmp 3) (Operand.const (Value.int IntKind.i64 0)), type := 5, pos := "ref.go:42", after := #[{ on := 0, ground := Ground.data }], guard := none }) (v := ?_) rfl (by kernel_rfl) (by kernel_rfl) (by kernel_rfl) (fun _ _ _ h => h) (Or.inl ⟨by rfl, ?_⟩) (by assumption) ?_
  rotate_left 1
  · intro w hSw
    go_simp
    first | done | with_reducible rfl
  try simp only [Act.put, List.setIfInBounds_toArray, List.set_cons_zero, List.set_cons_succ]
  refine wpAnyH_take (i := 2) (oi := { dst := some 5, op := Op.convert 5 3 (Operand.tmp 4), type := 3, pos := "ref.go:42", after := #[{ on := 1, ground := Ground.data }], guard := none }) (v := ?_) rfl (by kernel_rfl) (by kernel_rfl) (by kernel_rfl) (fun _ _ _ h => h) (Or.inl ⟨by rfl, ?_⟩) (by assumption) ?_
  rotate_left 1
  · intro w hSw
    go_simp
    first | done | with_reducible rfl
  try simp only [Act.put, List.setIfInBounds_toArray, List.set_cons_zero, List.set_cons_succ]
  refine wpAnyH_take (i := 3) (oi := { dst := some 6, op := Op.move (Operand.tmp 0), type := 9, pos := "ref.go:42", after := #[], guard := none }) (v := ?_) rfl (by kernel_rfl) (by kernel_rfl) (by kernel_rfl) (fun _ _ _ h => h) (Or.inl ⟨by rfl, ?_⟩) (by assumption) ?_
  rotate_left 1
  · intro w hSw
    go_simp
    first | done | with_reducible rfl
  try simp only [Act.put, List.setIfInBounds_toArray, List.set_cons_zero, List.set_cons_succ]
  refine wpAnyH_take (i := 4) (oi := { dst := some 7, op := Op.index 9 (Operand.tmp 6) (Operand.const (Value.int IntKind.i64 1)), type := 5, pos := "ref.go:42", after := #[{ on := 3, ground := Ground.data }], guard := none }) (v := ?_) rfl (by kernel_rfl) (by kernel_rfl) (by kernel_rfl) (fun _ _ _ h => h) (Or.inl ⟨by rfl, ?_⟩) (by assumption) ?_
  rotate_left 1
  · intro w hSw
    go_simp
    first | done | with_reducible rfl
  try simp only [Act.put, List.setIfInBounds_toArray, List.set_cons_zero, List.set_cons_succ]
  refine wpAnyH_take (i := 5) (oi := { dst := some 8, op := Op.binOp BinOp.rem 5 (Operand.tmp 7) (Operand.const (Value.int IntKind.u8 2)) 5, type := 5, pos := "ref.go:42", after := #[{ on := 4, ground := Ground.data }], guard := none }) (v := ?_) rfl (by kernel_rfl) (by kernel_rfl) (by kernel_rfl) (fun _ _ _ h => h) (Or.inl ⟨by rfl, ?_⟩) (by assumption) ?_
  rotate_left 1
  · intro w hSw
    go_simp
    first | done | with_reducible rfl
  try simp only [Act.put, List.setIfInBounds_toArray, List.set_cons_zero, List.set_cons_succ]
  refine wpAnyH_take (i := 6) (oi := { dst := some 9, op := Op.binOp BinOp.eql 5 (Operand.tmp 8) (Operand.const (Value.int IntKind.u8 1)) 5, type := 4, pos := "ref.go:42", after := #[{ on := 5, ground := Ground.data }], guard := none }) (v := ?_) rfl (by kernel_rfl) (by kernel_rfl) (by kernel_rfl) (fun _ _ _ h => h) (Or.inl ⟨by rfl, ?_⟩) (by assumption) ?_
  rotate_left 1
  · intro w hSw
    go_simp
    first | done | with_reducible rfl
  try simp only [Act.put, List.setIfInBounds_toArray, List.set_cons_zero, List.set_cons_succ]
  refine wpAnyH_take (i := 7) (oi := { dst := some 10, op := Op.move (Operand.tmp 0), type := 9, pos := "ref.go:42", after := #[], guard := none }) (v := ?_) rfl (by kernel_rfl) (by kernel_rfl) (by kernel_rfl) (fun _ _ _ h => h) (Or.inl ⟨by rfl, ?_⟩) (by assumption) ?_
  rotate_left 1
  · intro w hSw
    go_simp
    first | done | with_reducible rfl
  try simp only [Act.put, List.setIfInBounds_toArray, List.set_cons_zero, List.set_cons_succ]
  refine wpAnyH_take (i := 8) (oi := { dst := some 11, op := Op.index 9 (Operand.tmp 10) (Operand.const (Value.int IntKind.i64 1)), type := 5, pos := "ref.go:42", after := #[{ on := 7, ground := Ground.data }], guard := none }) (v := ?_) rfl (by kernel_rfl) (by kernel_rfl) (by kernel_rfl) (fun _ _ _ h => h) (Or.inl ⟨by rfl, ?_⟩) (by assumption) ?_
  rotate_left 1
  · intro w hSw
    go_simp
    first | done | with_reducible rfl
  try simp only [Act.put, List.setIfInBounds_toArray, List.set_cons_zero, List.set_cons_succ]
  refine wpAnyH_take (i := 9) (oi := { dst := some 12, op := Op.binOp BinOp.quo 5 (Operand.tmp 11) (Operand.const (Value.int IntKind.u8 2)) 5, type := 5, pos := "ref.go:42", after := #[{ on := 8, ground := Ground.data }], guard := none }) (v := ?_) rfl (by kernel_rfl) (by kernel_rfl) (by kernel_rfl) (fun _ _ _ h => h) (Or.inl ⟨by rfl, ?_⟩) (by assumption) ?_
  rotate_left 1
  · intro w hSw
    go_simp
    first | done | with_reducible rfl
  try simp only [Act.put, List.setIfInBounds_toArray, List.set_cons_zero, List.set_cons_succ]
  refine wpAnyH_take (i := 10) (oi := { dst := some 13, op := Op.binOp BinOp.rem 5 (Operand.tmp 12) (Operand.const (Value.int IntKind.u8 2)) 5, type := 5, pos := "ref.go:42", after := #[{ on := 9, ground := Ground.data }], guard := none }) (v := ?_) rfl (by kernel_rfl) (by kernel_rfl) (by kernel_rfl) (fun _ _ _ h => h) (Or.inl ⟨by rfl, ?_⟩) (by assumption) ?_
  rotate_left 1
  · intro w hSw
    go_simp
    first | done | with_reducible rfl
  try simp only [Act.put, List.setIfInBounds_toArray, List.set_cons_zero, List.set_cons_succ]
  refine wpAnyH_take (i := 11) (oi := { dst := some 14, op := Op.binOp BinOp.eql 5 (Operand.tmp 13) (Operand.const (Value.int IntKind.u8 1)) 5, type := 4, pos := "ref.go:42", after := #[{ on := 10, ground := Ground.data }], guard := none }) (v := ?_) rfl (by kernel_rfl) (by kernel_rfl) (by kernel_rfl) (fun _ _ _ h => h) (Or.inl ⟨by rfl, ?_⟩) (by assumption) ?_
  rotate_left 1
  · intro w hSw
    go_simp
    first | done | with_reducible rfl
  try simp only [Act.put, List.setIfInBounds_toArray, List.set_cons_zero, List.set_cons_succ]
  refine wpAnyH_take (i := 12) (oi := { dst := some 15, op := Op.move (Operand.tmp 0), type := 9, pos := "ref.go:42", after := #[], guard := none }) (v := ?_) rfl (by kernel_rfl) (by kernel_rfl) (by kernel_rfl) (fun _ _ _ h => h) (Or.inl ⟨by rfl, ?_⟩) (by assumption) ?_
  rotate_left 1
  · intro w hSw
    go_simp
    first | done | with_reducible rfl
  try simp only [Act.put, List.setIfInBounds_toArray, List.set_cons_zero, List.set_cons_succ]
  refine wpAnyH_take (i := 13) (oi := { dst := some 16, op := Op.index 9 (Operand.tmp 15) (Operand.const (Value.int IntKind.i64 1)), type := 5, pos := "ref.go:42", after := #[{ on := 12, ground := Ground.data }], guard := none }) (v := ?_) rfl (by kernel_rfl) (by kernel_rfl) (by kernel_rfl) (fun _ _ _ h => h) (Or.inl ⟨by rfl, ?_⟩) (by assumption) ?_
  rotate_left 1
  · intro w hSw
    go_simp
    first | done | with_reducible rfl
  try simp only [Act.put, List.setIfInBounds_toArray, List.set_cons_zero, List.set_cons_succ]
  refine wpAnyH_take (i := 14) (oi := { dst := some 17, op := Op.binOp BinOp.quo 5 (Operand.tmp 16) (Operand.const (Value.int IntKind.u8 4)) 5, type := 5, pos := "ref.go:42", after := #[{ on := 13, ground := Ground.data }], guard := none }) (v := ?_) rfl (by kernel_rfl) (by kernel_rfl) (by kernel_rfl) (fun _ _ _ h => h) (Or.inl ⟨by rfl, ?_⟩) (by assumption) ?_
  rotate_left 1
  · intro w hSw
    go_simp
    first | done | with_reducible rfl
  try simp only [Act.put, List.setIfInBounds_toArray, List.set_cons_zero, List.set_cons_succ]
  refine wpAnyH_take (i := 15) (oi := { dst := some 18, op := Op.binOp BinOp.rem 5 (Operand.tmp 17) (Operand.const (Value.int IntKind.u8 2)) 5, type := 5, pos := "ref.go:42", after := #[{ on := 14, ground := Ground.data }], guard := none }) (v := ?_) rfl (by kernel_rfl) (by kernel_rfl) (by kernel_rfl) (fun _ _ _ h => h) (Or.inl ⟨by rfl, ?_⟩) (by assumption) ?_
  rotate_left 1
  · intro w hSw
    go_simp
    first | done | with_reducible rfl
  try simp only [Act.put, List.setIfInBounds_toArray, List.set_cons_zero, List.set_cons_succ]
  refine wpAnyH_take (i := 16) (oi := { dst := some 19, op := Op.binOp BinOp.eql 5 (Operand.tmp 18) (Operand.const (Value.int IntKind.u8 1)) 5, type := 4, pos := "ref.go:42", after := #[{ on := 15, ground := Ground.data }], guard := none }) (v := ?_) rfl (by kernel_rfl) (by kernel_rfl) (by kernel_rfl) (fun _ _ _ h => h) (Or.inl ⟨by rfl, ?_⟩) (by assumption) ?_
  rotate_left 1
  · intro w hSw
    go_simp
    first | done | with_reducible rfl
  try simp only [Act.put, List.setIfInBounds_toArray, List.set_cons_zero, List.set_cons_succ]
  refine wpAnyH_take (i := 17) (oi := { dst := some 20, op := Op.move (Operand.tmp 0), type := 9, pos := "ref.go:42", after := #[], guard := none }) (v := ?_) rfl (by kernel_rfl) (by kernel_rfl) (by kernel_rfl) (fun _ _ _ h => h) (Or.inl ⟨by rfl, ?_⟩) (by assumption) ?_
  rotate_left 1
  · intro w hSw
    go_simp
    first | done | with_reducible rfl
  try simp only [Act.put, List.setIfInBounds_toArray, List.set_cons_zero, List.set_cons_succ]
  refine wpAnyH_take (i := 18) (oi := { dst := some 21, op := Op.slice 9 (Operand.tmp 20) (some (Operand.const (Value.int IntKind.i64 2))) (some (Operand.const (Value.int IntKind.i64 6))) none, type := 9, pos := "ref.go:42", after := #[{ on := 17, ground := Ground.data }], guard := none }) (v := ?_) rfl (by kernel_rfl) (by kernel_rfl) (by kernel_rfl) (fun _ _ _ h => h) (Or.inl ⟨by rfl, ?_⟩) (by assumption) ?_
  rotate_left 1
  · intro w hSw
    go_simp
    first | done | with_reducible rfl
  try simp only [Act.put, List.setIfInBounds_toArray, List.set_cons_zero, List.set_cons_succ]
  refine wpAnyH_take (i := 21) (oi := { dst := some 24, op := Op.move (Operand.tmp 0), type := 9, pos := "ref.go:42", after := #[], guard := none }) (v := ?_) rfl (by kernel_rfl) (by kernel_rfl) (by kernel_rfl) (fun _ _ _ h => h) (Or.inl ⟨by rfl, ?_⟩) (by assumption) ?_
  rotate_left 1
  · intro w hSw
    go_simp
    first | done | with_reducible rfl
  try simp only [Act.put, List.setIfInBounds_toArray, List.set_cons_zero, List.set_cons_succ]
  refine wpAnyH_take (i := 22) (oi := { dst := some 25, op := Op.index 9 (Operand.tmp 24) (Operand.const (Value.int IntKind.i64 6)), type := 5, pos := "ref.go:42", after := #[{ on := 21, ground := Ground.data }], guard := none }) (v := ?_) rfl (by kernel_rfl) (by kernel_rfl) (by kernel_rfl) (fun _ _ _ h => h) (Or.inl ⟨by rfl, ?_⟩) (by assumption) ?_
  rotate_left 1
  · intro w hSw
    go_simp
    first | done | with_reducible rfl
  try simp only [Act.put, List.setIfInBounds_toArray, List.set_cons_zero, List.set_cons_succ]
  refine wpAnyH_take (i := 23) (oi := { dst := some 26, op := Op.convert 5 3 (Operand.tmp 25), type := 3, pos := "ref.go:42", after := #[{ on := 22, ground := Ground.data }], guard := none }) (v := ?_) rfl (by kernel_rfl) (by kernel_rfl) (by kernel_rfl) (fun _ _ _ h => h) (Or.inl ⟨by rfl, ?_⟩) (by assumption) ?_
  rotate_left 1
  · intro w hSw
    go_simp
    first | done | with_reducible rfl
  try simp only [Act.put, List.setIfInBounds_toArray, List.set_cons_zero, List.set_cons_succ]
  refine wpAnyH_take (i := 24) (oi := { dst := some 27, op := Op.move (Operand.tmp 0), type := 9, pos := "ref.go:42", after := #[], guard := none }) (v := ?_) rfl (by kernel_rfl) (by kernel_rfl) (by kernel_rfl) (fun _ _ _ h => h) (Or.inl ⟨by rfl, ?_⟩) (by assumption) ?_
  rotate_left 1
  · intro w hSw
    go_simp
    first | done | with_reducible rfl
  try simp only [Act.put, List.setIfInBounds_toArray, List.set_cons_zero, List.set_cons_succ]
  refine wpAnyH_take (i := 25) (oi := { dst := some 28, op := Op.index 9 (Operand.tmp 27) (Operand.const (Value.int IntKind.i64 7)), type := 5, pos := "ref.go:42", after := #[{ on := 24, ground := Ground.data }], guard := none }) (v := ?_) rfl (by kernel_rfl) (by kernel_rfl) (by kernel_rfl) (fun _ _ _ h => h) (Or.inl ⟨by rfl, ?_⟩) (by assumption) ?_
  rotate_left 1
  · intro w hSw
    go_simp
    first | done | with_reducible rfl
  try simp only [Act.put, List.setIfInBounds_toArray, List.set_cons_zero, List.set_cons_succ]
  refine wpAnyH_take (i := 26) (oi := { dst := some 29, op := Op.convert 5 3 (Operand.tmp 28), type := 3, pos := "ref.go:42", after := #[{ on := 25, ground := Ground.data }], guard := none }) (v := ?_) rfl (by kernel_rfl) (by kernel_rfl) (by kernel_rfl) (fun _ _ _ h => h) (Or.inl ⟨by rfl, ?_⟩) (by assumption) ?_
  rotate_left 1
  · intro w hSw
    go_simp
    first | done | with_reducible rfl
  try simp only [Act.put, List.setIfInBounds_toArray, List.set_cons_zero, List.set_cons_succ]
  refine wpAnyH_ready (rs := [19]) (by kernel_rfl) (by simp) ?_
  refine AllReadyH.cons (o := { dst := some 22, op := Op.call { callee := Callee.value (Operand.func 28), args := #[Operand.tmp 21], argTypes := #[9] }, type := 76, pos := "ref.go:42", after := #[{ on := 18, ground := Ground.data }], guard := none }) rfl (fun K hK => ?_) AllReadyH.nil
  go_simp; go_at_call 28; (with_reducible refine (VA.out _).mono ?_); rintro e w5 ⟨rfl, rfl⟩; go_simp
  refine hK.out _ _ trivial (fun hHeld => ?_)
  clear hK K
  try simp only [Act.put, List.setIfInBounds_toArray, List.set_cons_zero, List.set_cons_succ]
  refine wpAnyH_take (i := 20) (oi := { dst := some 23, op := Op.convert 76 23 (Operand.tmp 22), type := 23, pos := "ref.go:42", after := #[{ on := 19, ground := Ground.data }], guard := none }) (v := ?_) rfl (by kernel_rfl) (by kernel_rfl) (by kernel_rfl) (fun _ _ _ h => h) (Or.inl ⟨by rfl, ?_⟩) (by assumption) ?_
  rotate_left 1
  · intro w hSw
    go_simp
    first | done | with_reducible rfl
  try simp only [Act.put, List.setIfInBounds_toArray, List.set_cons_zero, List.set_cons_succ]
  refine wpAnyH_take (i := 27) (oi := { dst := some 30, op := Op.build 25 #[(0, Operand.tmp 5), (1, Operand.tmp 9), (2, Operand.tmp 14), (4, Operand.tmp 19), (3, Operand.tmp 23), (5, Operand.tmp 26), (6, Operand.tmp 29)], type := 25, pos := "ref.go:42", after := #[{ on := 2, ground := Ground.data }, { on := 6, ground := Ground.data }, { on := 11, ground := Ground.data }, { on := 16, ground := Ground.data }, { on := 20, ground := Ground.data }, { on := 23, ground := Ground.data }, { on := 26, ground := Ground.data }], guard := none }) (v := ?_) rfl (by kernel_rfl) (by kernel_rfl) (by kernel_rfl) (fun _ _ _ h => h) (Or.inl ⟨by rfl, ?_⟩) (by assumption) ?_
  rotate_left 1
  · intro w hSw
    go_simp
    first | done | with_reducible rfl
  try simp only [Act.put, List.setIfInBounds_toArray, List.set_cons_zero, List.set_cons_succ]
  refine wpAnyH_ready (rs := [28]) (by kernel_rfl) (by simp) ?_
  refine AllReadyH.cons (o := { dst := none, op := Op.store 25 (Operand.tmp 2) (Operand.tmp 30), type := 0, pos := "ref.go:42", after := #[{ on := 27, ground := Ground.data }, { on := 19, ground := Ground.chain }, { on := 0, ground := Ground.phase }, { on := 1, ground := Ground.phase }, { on := 2, ground := Ground.phase }, { on := 3, ground := Ground.phase }, { on := 4, ground := Ground.phase }, { on := 5, ground := Ground.phase }, { on := 6, ground := Ground.phase }, { on := 7, ground := Ground.phase }, { on := 8, ground := Ground.phase }, { on := 9, ground := Ground.phase }, { on := 10, ground := Ground.phase }, { on := 11, ground := Ground.phase }, { on := 12, ground := Ground.phase }, { on := 13, ground := Ground.phase }, { on := 14, ground := Ground.phase }, { on := 15, ground := Ground.phase }, { on := 16, ground := Ground.phase }, { on := 17, ground := Ground.phase }, { on := 18, ground := Ground.phase }, { on := 19, ground := Ground.phase }, { on := 20, ground := Ground.phase }, { on := 21, ground := Ground.phase }, { on := 22, ground := Ground.phase }, { on := 23, ground := Ground.phase }, { on := 24, ground := Ground.phase }, { on := 25, ground := Ground.phase }, { on := 26, ground := Ground.phase }, { on := 27, ground := Ground.phase }], guard := none }) rfl (fun K hK => ?_) AllReadyH.nil
  go_simp
  refine hK.out _ _ trivial (fun hHeld => ?_)
  clear hK K
  try simp only [Act.put, List.setIfInBounds_toArray, List.set_cons_zero, List.set_cons_succ]
  refine wpAnyH_done (by kernel_rfl) ?_ _
  refine NoPanic.normal ?_
  have t1 : (((x : Int).tmod 2) == 1) = B1 := by rw [HQ1.out]; exact tm_bit1 x
  have t2 : (((IntKind.u8.wrap ((x : Int) / 2)).tmod 2) == 1) = B2 := by rw [HQ2.out]; exact tm_bit2 x hx9
  have t4 : (((IntKind.u8.wrap ((x : Int) / 4)).tmod 2) == 1) = B4 := by rw [HQ4.out]; exact tm_bit4 x hx9
  rw [t1, t2, t4]
  obtain ⟨V, hV⟩ : ∃ V, V = (((((((W.setCell ⟨R, 0, none⟩ (.int .i64 (m : Nat))).setCell ⟨R, 1, none⟩ (.bool B1)).setCell ⟨R, 2, none⟩ (.bool B2)).setCell ⟨R, 3, none⟩ (.int .u32 (va : Nat))).setCell ⟨R, 4, none⟩ (.bool B4)).setCell ⟨R, 5, none⟩ (.int .i64 (tt : Nat))).setCell ⟨R, 6, none⟩ (.int .i64 (tz : Nat))) := ⟨_, rfl⟩
  have gV : V.heap[R]? = some (.cells #[.int .i64 (m : Nat), .bool B1, .bool B2, .int .u32 (va : Nat), .bool B4, .int .i64 (tt : Nat), .int .i64 (tz : Nat)] 25 (0, 0)) := by rw [hV]; exact set7 G0.out
  have bV : Below w.heap.size w V := by
    have q := HRR.out
    rw [hV]
    exact (((((((HB.out.setCell (p := ⟨R, 0, none⟩) q _).setCell (p := ⟨R, 1, none⟩) q _).setCell (p := ⟨R, 2, none⟩) q _).setCell (p := ⟨R, 3, none⟩) q _).setCell (p := ⟨R, 4, none⟩) q _).setCell (p := ⟨R, 5, none⟩) q _).setCell (p := ⟨R, 6, none⟩) q _)
  rw [← hV]
  have GV := Lib.hid gV
  have BV := Lib.hid bV
  clear gV bV hV
  go_wp2
  refine bodyPost_ret (v := .agg #[.int .i64 (m : Nat), .bool B1, .bool B2, .int .u32 (va : Nat), .bool B4, .int .i64 (tt : Nat), .int .i64 (tz : Nat)]) (results_cell_row Try.results27 _ _ R 25 _ (0, 0) _ rfl GV.out Try.underlying25 rfl (by kernel_rfl)) rfl ⟨?_, ?_⟩
  · rw [HE.out]
  · exact BV.out.drew
end Go.Proofs.Ytmijfhfjhbckdaa
