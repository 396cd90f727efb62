import Derived.Test.YtmijfhfjhbckdaaRefN
import Derived.Deep.DeepCutAuto
/- The document's Tunnel. -/
namespace Go.Proofs.Ytmijfhfjhbckdaa
set_option maxRecDepth 100000
open Go.RowKit
/-- a block that stays -/
structure XS (X : Nat) (C : Array Value) (T : TypeId) (w V : World) : Prop where
  hX : V.heap[X]? = some (.cells C T (0, 0))
  bl : Below w.heap.size w V
section
variable {X : Nat} {C : Array Value} {T : TypeId} {w V W : World}
theorem XS.below (h : XS X C T w V) (hb : Below V.heap.size V W) : XS X C T w W := ⟨(hb.block _ (heap_lt h.hX)).trans h.hX, h.bl.trans (hb.mono h.bl.size)⟩
theorem XS.drew (h : XS X C T w V) : XS X C T w V.drew := ⟨h.hX, h.bl.drew⟩
theorem XS.lay (w : World) (C : Array Value) (T : TypeId) : XS w.heap.size C T w (w.alloc (.cells C T)) := ⟨alloc_new _ _, (Below.refl _ _).alloc (Nat.le_refl _) _⟩
end
theorem w64 (x : Int) (h : 0 ≤ x ∧ x < 100) : wrap64 x = x := by
  unfold wrap64; omega
theorem cat_run (x y z : ByteArray) (hz : z = x ++ y) (h : x.size + y.size ≤ 9223372036854775807) (wx : World) : (Op.stringOp .add x y).run Try.prog wx = .ok (.string z) wx := by
  rw [hz]; exact run_string_add_sum wx _ _ h
set_option maxHeartbeats 8000000 in
theorem rtun_any (md : Int) (B1 B2 : Bool) (va : Nat) (B4 : Bool) (tl ts : Int) (w : World) (hva : va < 4294967296) : Calls Try.prog 47 #[.agg #[.int .i64 md, .bool B1, .bool B2, .int .u32 (va : Nat), .bool B4, .int .i64 tl, .int .i64 ts]] w fun e w' => e = .returned (.tuple #[.string (bs (tunB md B1 B2 va B4 tl ts)), .bool (byte3 md tl ts)]) ∧ Below w.heap.size w w' := by
  have S0 := XS.lay w #[.int .i64 md, .bool B1, .bool B2, .int .u32 (va : Nat), .bool B4, .int .i64 tl, .int .i64 ts] 25
  obtain ⟨X, hX⟩ : ∃ X, X = w.heap.size := ⟨_, rfl⟩
  obtain ⟨W, hW⟩ : ∃ W, W = w.alloc (.cells #[.int .i64 md, .bool B1, .bool B2, .int .u32 (va : Nat), .bool B4, .int .i64 tl, .int .i64 ts] 25) := ⟨_, rfl⟩
  rw [← hX, ← hW] at S0
  have a1 := cellAt (i := 1) (v := .bool B1) S0.hX rfl
  have a2 := cellAt (i := 2) (v := .bool B2) S0.hX rfl
  have a4 := cellAt (i := 4) (v := .bool B4) S0.hX rfl
  have PS := Lib.hid S0
  have HV := Lib.hid hva
  clear S0 hva
  go_enter Try.func47, Try.ntmps47
  go_upto_region 1 with (fail)
  rw [← hW, ← hX]
  clear hW hX
  go_upto_if 6 with (fail)
  go_cut [4] (fun s4 wx => s4 = .int .i64 (tbits B1 false false : Nat) ∧ wx = W)
  case first =>
    cases B1 <;> (go_wp2_with (fail); go_meet; exact ⟨by first | rfl | exact congrArg (Value.int .i64) ((w64 _ (by decide)).trans (by decide)), rfl⟩)
  case rest =>
  obtain ⟨rfl, hwc⟩ := hcut
  replace hwc := hwc.symm
  subst hwc
  go_upto_if 10 with (fail)
  go_cut [4] (fun s4 wx => s4 = .int .i64 (tbits B1 B2 false : Nat) ∧ wx = W)
  case first =>
    cases B1 <;> cases B2 <;> (go_wp2_with (fail); go_meet; exact ⟨by first | rfl | exact congrArg (Value.int .i64) ((w64 _ (by decide)).trans (by decide)), rfl⟩)
  case rest =>
  obtain ⟨rfl, hwc⟩ := hcut
  replace hwc := hwc.symm
  subst hwc
  go_upto_if 14 with (fail)
  go_cut [4] (fun s4 wx => s4 = .int .i64 (tbits B1 B2 B4 : Nat) ∧ wx = W)
  case first =>
    cases B1 <;> cases B2 <;> cases B4 <;> (go_wp2_with (fail); go_meet; exact ⟨by first | rfl | exact congrArg (Value.int .i64) ((w64 _ (by decide)).trans (by decide)), rfl⟩)
  case rest =>
  obtain ⟨rfl, hwc⟩ := hcut
  replace hwc := hwc.symm
  subst hwc
  obtain ⟨t, ht⟩ : ∃ t, t = tbits B1 B2 B4 := ⟨_, rfl⟩
  have ht8 : t < 8 := by rw [ht]; exact tbits_lt _ _ _
  have tu : u64 (t : Int) = t := u64_nat t (by omega)
  have vu : u64 (va : Int) = va := u64_nat va (by have := HV.out; omega)
  obtain ⟨s0, h0⟩ : ∃ s, s = bs (be (u64 md) 1) := ⟨_, rfl⟩
  obtain ⟨s1, h1⟩ : ∃ s, s = bs (be t 1) := ⟨_, rfl⟩
  obtain ⟨s2, h2⟩ : ∃ s, s = bs (be va 4) := ⟨_, rfl⟩
  obtain ⟨s3, h3⟩ : ∃ s, s = bs (be (u64 tl) 1) := ⟨_, rfl⟩
  obtain ⟨s4, h4⟩ : ∃ s, s = bs (be (u64 ts) 1) := ⟨_, rfl⟩
  have N0 : Hid (∀ V, Calls Try.prog 44 #[.int .i64 md, .int .i64 1] V fun e w' => e = .returned (.string s0) ∧ Below V.heap.size V w') := fun V => by rw [h0]; exact rnum_any md 1 V (by omega)
  have N1 : Hid (∀ V, Calls Try.prog 44 #[.int .i64 (t : Nat), .int .i64 1] V fun e w' => e = .returned (.string s1) ∧ Below V.heap.size V w') := fun V => by have h := rnum_any (t : Int) 1 V (by omega); rw [tu] at h; rw [h1]; exact h
  have N2 : Hid (∀ V, Calls Try.prog 44 #[.int .i64 (va : Nat), .int .i64 4] V fun e w' => e = .returned (.string s2) ∧ Below V.heap.size V w') := fun V => by have h := rnum_any (va : Int) 4 V (by omega); rw [vu] at h; rw [h2]; exact h
  have N3 : Hid (∀ V, Calls Try.prog 44 #[.int .i64 tl, .int .i64 1] V fun e w' => e = .returned (.string s3) ∧ Below V.heap.size V w') := fun V => by rw [h3]; exact rnum_any tl 1 V (by omega)
  have N4 : Hid (∀ V, Calls Try.prog 44 #[.int .i64 ts, .int .i64 1] V fun e w' => e = .returned (.string s4) ∧ Below V.heap.size V w') := fun V => by rw [h4]; exact rnum_any ts 1 V (by omega)
  have z0 : s0.size = 1 := by rw [h0, bs_size, be_length]
  have z1 : s1.size = 1 := by rw [h1, bs_size, be_length]
  have z2 : s2.size = 4 := by rw [h2, bs_size, be_length]
  have z3 : s3.size = 1 := by rw [h3, bs_size, be_length]
  have z4 : s4.size = 1 := by rw [h4, bs_size, be_length]
  obtain ⟨c1, k1⟩ : ∃ c, c = s0 ++ s1 := ⟨_, rfl⟩
  obtain ⟨c2, k2⟩ : ∃ c, c = c1 ++ s2 := ⟨_, rfl⟩
  obtain ⟨c3, k3⟩ : ∃ c, c = c2 ++ s3 := ⟨_, rfl⟩
  obtain ⟨c4, k4⟩ : ∃ c, c = c3 ++ s4 := ⟨_, rfl⟩
  have y1 : c1.size = 2 := by rw [k1, ByteArray.size_append, z0, z1]
  have y2 : c2.size = 6 := by rw [k2, ByteArray.size_append, y1, z2]
  have y3 : c3.size = 7 := by rw [k3, ByteArray.size_append, y2, z3]
  have r1 := cat_run s0 s1 c1 k1 (by omega)
  have r2 := cat_run c1 s2 c2 k2 (by omega)
  have r3 := cat_run c2 s3 c3 k3 (by omega)
  have r4 := cat_run c3 s4 c4 k4 (by omega)
  have HC : Hid (c4 = bs (tunB md B1 B2 va B4 tl ts)) := by
    show _ = _
    unfold tunB
    rw [k4, k3, k2, k1, h0, h1, h2, h3, h4, ← ht, bs_append, bs_append, bs_append, bs_append]
    simp only [List.append_assoc]
  obtain ⟨J0, hJ0⟩ : ∃ J, J = decide (0 ≤ md ∧ md ≤ 255) := ⟨_, rfl⟩
  obtain ⟨J1, hJ1⟩ : ∃ J, J = decide (0 ≤ tl ∧ tl ≤ 255) := ⟨_, rfl⟩
  obtain ⟨J2, hJ2⟩ : ∃ J, J = decide (0 ≤ ts ∧ ts ≤ 255) := ⟨_, rfl⟩
  have I0 : Hid (∀ V, Calls Try.prog 42 #[.int .i64 md, .int .i64 255] V fun e w' => e = .returned (.bool J0) ∧ w' = V) := fun V => by rw [hJ0]; exact rin_any md 255 V
  have I1 : Hid (∀ V, Calls Try.prog 42 #[.int .i64 tl, .int .i64 255] V fun e w' => e = .returned (.bool J1) ∧ w' = V) := fun V => by rw [hJ1]; exact rin_any tl 255 V
  have I2 : Hid (∀ V, Calls Try.prog 42 #[.int .i64 ts, .int .i64 255] V fun e w' => e = .returned (.bool J2) ∧ w' = V) := fun V => by rw [hJ2]; exact rin_any ts 255 V
  have HJ : Hid ((J0 && (J1 && J2)) = byte3 md tl ts) := by
    show _ = _
    rw [hJ0, hJ1, hJ2]; unfold byte3
    rw [Bool.eq_iff_iff]; simp only [Bool.and_eq_true, decide_eq_true_eq]
  have wv : IntKind.i64.wrap (va : Int) = (va : Int) := IntWalk.i64_in _ (by have := HV.out; omega)
  rw [← ht]
  clear ht ht8 tu vu h0 h1 h2 h3 h4 z0 z1 z2 z3 z4 k1 k2 k3 k4 y1 y2 y3 hJ0 hJ1 hJ2 a1 a2 a4
  go_upto_region 8 with (fail)
  cases J0 with
  | false =>
    skip
    refine wp_region_noPanic ?_
    refine wp_region_held_drew (S := XS X #[.int .i64 md, .bool B1, .bool B2, .int .u32 (va : Nat), .bool B4, .int .i64 tl, .int .i64 ts] 25 w) (by kernel_rfl) PS.out.drew (fun hHeld => ?_)
    refine wpAnyH_take (i := 0) (oi := { dst := some 17, op := Op.fieldAddr 25 (Operand.tmp 1) 0, type := 0, pos := "ref.go:37", after := #[], guard := none }) (v := ?_) rfl (by kernel_rfl) (by kernel_rfl) (by kernel_rfl) (fun _ _ _ h => h) (Or.inl ⟨by rfl, ?_⟩) (by assumption) ?_
    rotate_left 1
    · intro w hSw
      go_simp
      first | done | with_reducible rfl
    try simp only [Act.put, List.setIfInBounds_toArray, List.set_cons_zero, List.set_cons_succ]
    refine wpAnyH_take (i := 1) (oi := { dst := some 18, op := Op.load 3 (Operand.tmp 17), type := 3, pos := "ref.go:37", after := #[{ on := 0, ground := Ground.data }], guard := none }) (v := ?_) rfl (by kernel_rfl) (by kernel_rfl) (by kernel_rfl) (fun _ _ _ h => h) (Or.inl ⟨by rfl, ?_⟩) (by assumption) ?_
    rotate_left 1
    · intro w hSw
      have q0 := cellAt (i := 0) (v := .int .i64 md) hSw.hX rfl
      go_simp
      first | done | with_reducible rfl
    try simp only [Act.put, List.setIfInBounds_toArray, List.set_cons_zero, List.set_cons_succ]
    refine wpAnyH_take (i := 3) (oi := { dst := some 20, op := Op.move (Operand.tmp 4), type := 3, pos := "ref.go:37", after := #[], guard := none }) (v := ?_) rfl (by kernel_rfl) (by kernel_rfl) (by kernel_rfl) (fun _ _ _ h => h) (Or.inl ⟨by rfl, ?_⟩) (by assumption) ?_
    rotate_left 1
    · intro w hSw
      go_simp
      first | done | with_reducible rfl
    try simp only [Act.put, List.setIfInBounds_toArray, List.set_cons_zero, List.set_cons_succ]
    refine wpAnyH_take (i := 6) (oi := { dst := some 23, op := Op.fieldAddr 25 (Operand.tmp 1) 3, type := 0, pos := "ref.go:37", after := #[], guard := none }) (v := ?_) rfl (by kernel_rfl) (by kernel_rfl) (by kernel_rfl) (fun _ _ _ h => h) (Or.inl ⟨by rfl, ?_⟩) (by assumption) ?_
    rotate_left 1
    · intro w hSw
      go_simp
      first | done | with_reducible rfl
    try simp only [Act.put, List.setIfInBounds_toArray, List.set_cons_zero, List.set_cons_succ]
    refine wpAnyH_take (i := 7) (oi := { dst := some 24, op := Op.load 23 (Operand.tmp 23), type := 23, pos := "ref.go:37", after := #[{ on := 6, ground := Ground.data }], guard := none }) (v := ?_) rfl (by kernel_rfl) (by kernel_rfl) (by kernel_rfl) (fun _ _ _ h => h) (Or.inl ⟨by rfl, ?_⟩) (by assumption) ?_
    rotate_left 1
    · intro w hSw
      have q0 := cellAt (i := 3) (v := .int .u32 (va : Nat)) hSw.hX rfl
      go_simp
      first | done | with_reducible rfl
    try simp only [Act.put, List.setIfInBounds_toArray, List.set_cons_zero, List.set_cons_succ]
    refine wpAnyH_take (i := 8) (oi := { dst := some 25, op := Op.convert 23 3 (Operand.tmp 24), type := 3, pos := "ref.go:37", after := #[{ on := 7, ground := Ground.data }], guard := none }) (v := ?_) rfl (by kernel_rfl) (by kernel_rfl) (by kernel_rfl) (fun _ _ _ h => h) (Or.inl ⟨by rfl, ?_⟩) (by assumption) ?_
    rotate_left 1
    · intro w hSw
      go_simp
      first | done | with_reducible rfl
    try simp only [Act.put, List.setIfInBounds_toArray, List.set_cons_zero, List.set_cons_succ]
    refine wpAnyH_take (i := 11) (oi := { dst := some 28, op := Op.fieldAddr 25 (Operand.tmp 1) 5, type := 0, pos := "ref.go:37", after := #[], guard := none }) (v := ?_) rfl (by kernel_rfl) (by kernel_rfl) (by kernel_rfl) (fun _ _ _ h => h) (Or.inl ⟨by rfl, ?_⟩) (by assumption) ?_
    rotate_left 1
    · intro w hSw
      go_simp
      first | done | with_reducible rfl
    try simp only [Act.put, List.setIfInBounds_toArray, List.set_cons_zero, List.set_cons_succ]
    refine wpAnyH_take (i := 12) (oi := { dst := some 29, op := Op.load 3 (Operand.tmp 28), type := 3, pos := "ref.go:37", after := #[{ on := 11, ground := Ground.data }], guard := none }) (v := ?_) rfl (by kernel_rfl) (by kernel_rfl) (by kernel_rfl) (fun _ _ _ h => h) (Or.inl ⟨by rfl, ?_⟩) (by assumption) ?_
    rotate_left 1
    · intro w hSw
      have q0 := cellAt (i := 5) (v := .int .i64 tl) hSw.hX rfl
      go_simp
      first | done | with_reducible rfl
    try simp only [Act.put, List.setIfInBounds_toArray, List.set_cons_zero, List.set_cons_succ]
    refine wpAnyH_take (i := 15) (oi := { dst := some 32, op := Op.fieldAddr 25 (Operand.tmp 1) 6, type := 0, pos := "ref.go:37", after := #[], guard := none }) (v := ?_) rfl (by kernel_rfl) (by kernel_rfl) (by kernel_rfl) (fun _ _ _ h => h) (Or.inl ⟨by rfl, ?_⟩) (by assumption) ?_
    rotate_left 1
    · intro w hSw
      go_simp
      first | done | with_reducible rfl
    try simp only [Act.put, List.setIfInBounds_toArray, List.set_cons_zero, List.set_cons_succ]
    refine wpAnyH_take (i := 16) (oi := { dst := some 33, op := Op.load 3 (Operand.tmp 32), type := 3, pos := "ref.go:37", after := #[{ on := 15, ground := Ground.data }], guard := none }) (v := ?_) rfl (by kernel_rfl) (by kernel_rfl) (by kernel_rfl) (fun _ _ _ h => h) (Or.inl ⟨by rfl, ?_⟩) (by assumption) ?_
    rotate_left 1
    · intro w hSw
      have q0 := cellAt (i := 6) (v := .int .i64 ts) hSw.hX rfl
      go_simp
      first | done | with_reducible rfl
    try simp only [Act.put, List.setIfInBounds_toArray, List.set_cons_zero, List.set_cons_succ]
    refine wpAnyH_take (i := 19) (oi := { dst := some 36, op := Op.fieldAddr 25 (Operand.tmp 1) 0, type := 0, pos := "ref.go:37", after := #[], guard := none }) (v := ?_) rfl (by kernel_rfl) (by kernel_rfl) (by kernel_rfl) (fun _ _ _ h => h) (Or.inl ⟨by rfl, ?_⟩) (by assumption) ?_
    rotate_left 1
    · intro w hSw
      go_simp
      first | done | with_reducible rfl
    try simp only [Act.put, List.setIfInBounds_toArray, List.set_cons_zero, List.set_cons_succ]
    refine wpAnyH_take (i := 20) (oi := { dst := some 37, op := Op.load 3 (Operand.tmp 36), type := 3, pos := "ref.go:37", after := #[{ on := 19, ground := Ground.data }], guard := none }) (v := ?_) rfl (by kernel_rfl) (by kernel_rfl) (by kernel_rfl) (fun _ _ _ h => h) (Or.inl ⟨by rfl, ?_⟩) (by assumption) ?_
    rotate_left 1
    · intro w hSw
      have q0 := cellAt (i := 0) (v := .int .i64 md) hSw.hX rfl
      go_simp
      first | done | with_reducible rfl
    try simp only [Act.put, List.setIfInBounds_toArray, List.set_cons_zero, List.set_cons_succ]
    refine wpAnyH_ready (rs := [2]) (by kernel_rfl) (by simp) ?_
    refine AllReadyH.cons (o := { dst := some 19, op := Op.call { callee := Callee.value (Operand.func 44), args := #[Operand.tmp 18, Operand.const (Value.int IntKind.i64 1)], argTypes := #[3, 3] }, type := 9, pos := "ref.go:37", after := #[{ on := 1, ground := Ground.data }], guard := none }) rfl (fun K hK => ?_) AllReadyH.nil
    go_simp
    (go_at_call 44; (with_reducible refine (N0.out _).mono ?_); rintro e w5 ⟨rfl, hb5⟩)
    go_simp
    refine hK.out _ _ (hHeld.below hb5) (fun hHeld => ?_)
    clear hK K
    try simp only [Act.put, List.setIfInBounds_toArray, List.set_cons_zero, List.set_cons_succ]
    refine wpAnyH_ready (rs := [4]) (by kernel_rfl) (by simp) ?_
    refine AllReadyH.cons (o := { dst := some 21, op := Op.call { callee := Callee.value (Operand.func 44), args := #[Operand.tmp 20, Operand.const (Value.int IntKind.i64 1)], argTypes := #[3, 3] }, type := 9, pos := "ref.go:37", after := #[{ on := 3, ground := Ground.data }, { on := 2, ground := Ground.chain }], guard := none }) rfl (fun K hK => ?_) AllReadyH.nil
    go_simp
    (go_at_call 44; (with_reducible refine (N1.out _).mono ?_); rintro e w5 ⟨rfl, hb5⟩)
    go_simp
    refine hK.out _ _ (hHeld.below hb5) (fun hHeld => ?_)
    clear hK K
    try simp only [Act.put, List.setIfInBounds_toArray, List.set_cons_zero, List.set_cons_succ]
    refine wpAnyH_take (i := 5) (oi := { dst := some 22, op := Op.binOp BinOp.add 9 (Operand.tmp 19) (Operand.tmp 21) 9, type := 9, pos := "ref.go:37", after := #[{ on := 2, ground := Ground.data }, { on := 4, ground := Ground.data }], guard := none }) (v := ?_) rfl (by kernel_rfl) (by kernel_rfl) (by kernel_rfl) (fun _ _ _ h => h) (Or.inl ⟨by rfl, ?_⟩) (by assumption) ?_
    rotate_left 1
    · intro w hSw
      go_simp
      first | done | with_reducible rfl
    try simp only [Act.put, List.setIfInBounds_toArray, List.set_cons_zero, List.set_cons_succ]
    refine wpAnyH_ready (rs := [9]) (by kernel_rfl) (by simp) ?_
    refine AllReadyH.cons (o := { dst := some 26, op := Op.call { callee := Callee.value (Operand.func 44), args := #[Operand.tmp 25, Operand.const (Value.int IntKind.i64 4)], argTypes := #[3, 3] }, type := 9, pos := "ref.go:37", after := #[{ on := 8, ground := Ground.data }, { on := 4, ground := Ground.chain }], guard := none }) rfl (fun K hK => ?_) AllReadyH.nil
    go_simp
    (go_at_call 44; (with_reducible refine (N2.out _).mono ?_); rintro e w5 ⟨rfl, hb5⟩)
    go_simp
    refine hK.out _ _ (hHeld.below hb5) (fun hHeld => ?_)
    clear hK K
    try simp only [Act.put, List.setIfInBounds_toArray, List.set_cons_zero, List.set_cons_succ]
    refine wpAnyH_take (i := 10) (oi := { dst := some 27, op := Op.binOp BinOp.add 9 (Operand.tmp 22) (Operand.tmp 26) 9, type := 9, pos := "ref.go:37", after := #[{ on := 5, ground := Ground.data }, { on := 9, ground := Ground.data }], guard := none }) (v := ?_) rfl (by kernel_rfl) (by kernel_rfl) (by kernel_rfl) (fun _ _ _ h => h) (Or.inl ⟨by rfl, ?_⟩) (by assumption) ?_
    rotate_left 1
    · intro w hSw
      go_simp
      first | done | with_reducible rfl
    try simp only [Act.put, List.setIfInBounds_toArray, List.set_cons_zero, List.set_cons_succ]
    refine wpAnyH_ready (rs := [13]) (by kernel_rfl) (by simp) ?_
    refine AllReadyH.cons (o := { dst := some 30, op := Op.call { callee := Callee.value (Operand.func 44), args := #[Operand.tmp 29, Operand.const (Value.int IntKind.i64 1)], argTypes := #[3, 3] }, type := 9, pos := "ref.go:37", after := #[{ on := 12, ground := Ground.data }, { on := 9, ground := Ground.chain }], guard := none }) rfl (fun K hK => ?_) AllReadyH.nil
    go_simp
    (go_at_call 44; (with_reducible refine (N3.out _).mono ?_); rintro e w5 ⟨rfl, hb5⟩)
    go_simp
    refine hK.out _ _ (hHeld.below hb5) (fun hHeld => ?_)
    clear hK K
    try simp only [Act.put, List.setIfInBounds_toArray, List.set_cons_zero, List.set_cons_succ]
    refine wpAnyH_take (i := 14) (oi := { dst := some 31, op := Op.binOp BinOp.add 9 (Operand.tmp 27) (Operand.tmp 30) 9, type := 9, pos := "ref.go:37", after := #[{ on := 10, ground := Ground.data }, { on := 13, ground := Ground.data }], guard := none }) (v := ?_) rfl (by kernel_rfl) (by kernel_rfl) (by kernel_rfl) (fun _ _ _ h => h) (Or.inl ⟨by rfl, ?_⟩) (by assumption) ?_
    rotate_left 1
    · intro w hSw
      go_simp
      first | done | with_reducible rfl
    try simp only [Act.put, List.setIfInBounds_toArray, List.set_cons_zero, List.set_cons_succ]
    refine wpAnyH_ready (rs := [17]) (by kernel_rfl) (by simp) ?_
    refine AllReadyH.cons (o := { dst := some 34, op := Op.call { callee := Callee.value (Operand.func 44), args := #[Operand.tmp 33, Operand.const (Value.int IntKind.i64 1)], argTypes := #[3, 3] }, type := 9, pos := "ref.go:37", after := #[{ on := 16, ground := Ground.data }, { on := 13, ground := Ground.chain }], guard := none }) rfl (fun K hK => ?_) AllReadyH.nil
    go_simp
    (go_at_call 44; (with_reducible refine (N4.out _).mono ?_); rintro e w5 ⟨rfl, hb5⟩)
    go_simp
    refine hK.out _ _ (hHeld.below hb5) (fun hHeld => ?_)
    clear hK K
    try simp only [Act.put, List.setIfInBounds_toArray, List.set_cons_zero, List.set_cons_succ]
    refine wpAnyH_take (i := 18) (oi := { dst := some 35, op := Op.binOp BinOp.add 9 (Operand.tmp 31) (Operand.tmp 34) 9, type := 9, pos := "ref.go:37", after := #[{ on := 14, ground := Ground.data }, { on := 17, ground := Ground.data }], guard := none }) (v := ?_) rfl (by kernel_rfl) (by kernel_rfl) (by kernel_rfl) (fun _ _ _ h => h) (Or.inl ⟨by rfl, ?_⟩) (by assumption) ?_
    rotate_left 1
    · intro w hSw
      go_simp
      first | done | with_reducible rfl
    try simp only [Act.put, List.setIfInBounds_toArray, List.set_cons_zero, List.set_cons_succ]
    refine wpAnyH_ready (rs := [21]) (by kernel_rfl) (by simp) ?_
    refine AllReadyH.cons (o := { dst := some 38, op := Op.call { callee := Callee.value (Operand.func 42), args := #[Operand.tmp 37, Operand.const (Value.int IntKind.i64 255)], argTypes := #[3, 3] }, type := 4, pos := "ref.go:37", after := #[{ on := 20, ground := Ground.data }, { on := 17, ground := Ground.chain }], guard := none }) rfl (fun K hK => ?_) AllReadyH.nil
    go_simp
    (go_at_call 42; (with_reducible refine (I0.out _).mono ?_); rintro e w5 ⟨rfl, hw5⟩; replace hw5 := hw5.symm; subst hw5)
    go_simp
    refine hK.out _ _ hHeld (fun hHeld => ?_)
    clear hK K
    try simp only [Act.put, List.setIfInBounds_toArray, List.set_cons_zero, List.set_cons_succ]
    refine wpAnyH_take (i := 22) (oi := { dst := some 39, op := Op.move (Operand.tmp 38), type := 4, pos := "ref.go:37", after := #[{ on := 21, ground := Ground.data }, { on := 21, ground := Ground.chain }], guard := none }) (v := ?_) rfl (by kernel_rfl) (by kernel_rfl) (by kernel_rfl) (fun _ _ _ h => h) (Or.inl ⟨by rfl, ?_⟩) (by assumption) ?_
    rotate_left 1
    · intro w hSw
      go_simp
      first | done | with_reducible rfl
    try simp only [Act.put, List.setIfInBounds_toArray, List.set_cons_zero, List.set_cons_succ]
    refine wpAnyH_take (i := 23) (oi := { dst := some 40, op := Op.fieldAddr 25 (Operand.tmp 1) 5, type := 0, pos := "ref.go:37", after := #[{ on := 22, ground := Ground.guard }], guard := some (22, true) }) (v := undef) rfl (by kernel_rfl) (by kernel_rfl) (by kernel_rfl) (fun _ _ _ h => h) (Or.inr ⟨by rfl, rfl⟩) (by assumption) ?_
    try simp only [Act.put, List.setIfInBounds_toArray, List.set_cons_zero, List.set_cons_succ]
    refine wpAnyH_take (i := 24) (oi := { dst := some 41, op := Op.load 3 (Operand.tmp 40), type := 3, pos := "ref.go:37", after := #[{ on := 23, ground := Ground.data }, { on := 22, ground := Ground.guard }], guard := some (22, true) }) (v := undef) rfl (by kernel_rfl) (by kernel_rfl) (by kernel_rfl) (fun _ _ _ h => h) (Or.inr ⟨by rfl, rfl⟩) (by assumption) ?_
    try simp only [Act.put, List.setIfInBounds_toArray, List.set_cons_zero, List.set_cons_succ]
    refine wpAnyH_ready (rs := [25]) (by kernel_rfl) (by simp) ?_
    refine AllReadyH.cons (o := { dst := some 42, op := Op.call { callee := Callee.value (Operand.func 42), args := #[Operand.tmp 41, Operand.const (Value.int IntKind.i64 255)], argTypes := #[3, 3] }, type := 4, pos := "ref.go:37", after := #[{ on := 24, ground := Ground.data }, { on := 22, ground := Ground.chain }, { on := 22, ground := Ground.guard }], guard := some (22, true) }) rfl (fun K hK => ?_) AllReadyH.nil
    go_simp
    refine hK.out _ _ hHeld (fun hHeld => ?_)
    clear hK K
    try simp only [Act.put, List.setIfInBounds_toArray, List.set_cons_zero, List.set_cons_succ]
    refine wpAnyH_take (i := 26) (oi := { dst := some 43, op := Op.pick (Operand.tmp 39) (Operand.tmp 42) (Operand.const (Value.bool false)), type := 4, pos := "ref.go:37", after := #[{ on := 22, ground := Ground.data }, { on := 25, ground := Ground.data }], guard := none }) (v := ?_) rfl (by kernel_rfl) (by kernel_rfl) (by kernel_rfl) (fun _ _ _ h => h) (Or.inl ⟨by rfl, ?_⟩) (by assumption) ?_
    rotate_left 1
    · intro w hSw
      go_simp
      first | done | with_reducible rfl
    try simp only [Act.put, List.setIfInBounds_toArray, List.set_cons_zero, List.set_cons_succ]
    refine wpAnyH_take (i := 27) (oi := { dst := some 44, op := Op.move (Operand.tmp 43), type := 4, pos := "ref.go:37", after := #[{ on := 26, ground := Ground.data }, { on := 25, ground := Ground.chain }], guard := none }) (v := ?_) rfl (by kernel_rfl) (by kernel_rfl) (by kernel_rfl) (fun _ _ _ h => h) (Or.inl ⟨by rfl, ?_⟩) (by assumption) ?_
    rotate_left 1
    · intro w hSw
      go_simp
      first | done | with_reducible rfl
    try simp only [Act.put, List.setIfInBounds_toArray, List.set_cons_zero, List.set_cons_succ]
    refine wpAnyH_take (i := 28) (oi := { dst := some 45, op := Op.fieldAddr 25 (Operand.tmp 1) 6, type := 0, pos := "ref.go:37", after := #[{ on := 27, ground := Ground.guard }], guard := some (27, true) }) (v := undef) rfl (by kernel_rfl) (by kernel_rfl) (by kernel_rfl) (fun _ _ _ h => h) (Or.inr ⟨by rfl, rfl⟩) (by assumption) ?_
    try simp only [Act.put, List.setIfInBounds_toArray, List.set_cons_zero, List.set_cons_succ]
    refine wpAnyH_take (i := 29) (oi := { dst := some 46, op := Op.load 3 (Operand.tmp 45), type := 3, pos := "ref.go:37", after := #[{ on := 28, ground := Ground.data }, { on := 27, ground := Ground.guard }], guard := some (27, true) }) (v := undef) rfl (by kernel_rfl) (by kernel_rfl) (by kernel_rfl) (fun _ _ _ h => h) (Or.inr ⟨by rfl, rfl⟩) (by assumption) ?_
    try simp only [Act.put, List.setIfInBounds_toArray, List.set_cons_zero, List.set_cons_succ]
    refine wpAnyH_ready (rs := [30]) (by kernel_rfl) (by simp) ?_
    refine AllReadyH.cons (o := { dst := some 47, op := Op.call { callee := Callee.value (Operand.func 42), args := #[Operand.tmp 46, Operand.const (Value.int IntKind.i64 255)], argTypes := #[3, 3] }, type := 4, pos := "ref.go:37", after := #[{ on := 29, ground := Ground.data }, { on := 27, ground := Ground.chain }, { on := 27, ground := Ground.guard }], guard := some (27, true) }) rfl (fun K hK => ?_) AllReadyH.nil
    go_simp
    refine hK.out _ _ hHeld (fun hHeld => ?_)
    clear hK K
    try simp only [Act.put, List.setIfInBounds_toArray, List.set_cons_zero, List.set_cons_succ]
    refine wpAnyH_take (i := 31) (oi := { dst := some 48, op := Op.pick (Operand.tmp 44) (Operand.tmp 47) (Operand.const (Value.bool false)), type := 4, pos := "ref.go:37", after := #[{ on := 27, ground := Ground.data }, { on := 30, ground := Ground.data }, { on := 32, ground := Ground.gcOnly Departure.lateStores }], guard := none }) (v := ?_) rfl (by kernel_rfl) (by kernel_rfl) (by kernel_rfl) (fun _ _ _ h => h) (Or.inl ⟨by rfl, ?_⟩) (by assumption) ?_
    rotate_left 1
    · intro w hSw
      go_simp
      first | done | with_reducible rfl
    try simp only [Act.put, List.setIfInBounds_toArray, List.set_cons_zero, List.set_cons_succ]
    refine wpAnyH_ready (rs := [32]) (by kernel_rfl) (by simp) ?_
    refine AllReadyH.cons (o := { dst := some 2, op := Op.assign (Operand.tmp 35), type := 9, pos := "ref.go:37", after := #[{ on := 18, ground := Ground.data }, { on := 30, ground := Ground.chain }, { on := 0, ground := Ground.phase }, { on := 1, ground := Ground.phase }, { on := 2, ground := Ground.phase }, { on := 3, ground := Ground.phase }, { on := 4, ground := Ground.phase }, { on := 5, ground := Ground.phase }, { on := 6, ground := Ground.phase }, { on := 7, ground := Ground.phase }, { on := 8, ground := Ground.phase }, { on := 9, ground := Ground.phase }, { on := 10, ground := Ground.phase }, { on := 11, ground := Ground.phase }, { on := 12, ground := Ground.phase }, { on := 13, ground := Ground.phase }, { on := 14, ground := Ground.phase }, { on := 15, ground := Ground.phase }, { on := 16, ground := Ground.phase }, { on := 17, ground := Ground.phase }, { on := 18, ground := Ground.phase }, { on := 19, ground := Ground.textOnly Departure.lateStores }, { on := 20, ground := Ground.textOnly Departure.lateStores }, { on := 21, ground := Ground.textOnly Departure.lateStoresUnsure }, { on := 22, ground := Ground.textOnly Departure.lateStores }, { on := 23, ground := Ground.textOnly Departure.lateStores }, { on := 24, ground := Ground.textOnly Departure.lateStores }, { on := 25, ground := Ground.textOnly Departure.lateStoresUnsure }, { on := 26, ground := Ground.textOnly Departure.lateStores }, { on := 27, ground := Ground.textOnly Departure.lateStores }, { on := 28, ground := Ground.textOnly Departure.lateStores }, { on := 29, ground := Ground.textOnly Departure.lateStores }, { on := 30, ground := Ground.textOnly Departure.lateStoresUnsure }, { on := 31, ground := Ground.textOnly Departure.lateStores }], guard := none }) rfl (fun K hK => ?_) AllReadyH.nil
    go_simp
    refine hK.out _ _ hHeld (fun hHeld => ?_)
    clear hK K
    try simp only [Act.put, List.setIfInBounds_toArray, List.set_cons_zero, List.set_cons_succ]
    refine wpAnyH_ready (rs := [33]) (by kernel_rfl) (by simp) ?_
    refine AllReadyH.cons (o := { dst := some 3, op := Op.assign (Operand.tmp 48), type := 4, pos := "ref.go:37", after := #[{ on := 31, ground := Ground.data }, { on := 32, ground := Ground.chain }, { on := 0, ground := Ground.phase }, { on := 1, ground := Ground.phase }, { on := 2, ground := Ground.phase }, { on := 3, ground := Ground.phase }, { on := 4, ground := Ground.phase }, { on := 5, ground := Ground.phase }, { on := 6, ground := Ground.phase }, { on := 7, ground := Ground.phase }, { on := 8, ground := Ground.phase }, { on := 9, ground := Ground.phase }, { on := 10, ground := Ground.phase }, { on := 11, ground := Ground.phase }, { on := 12, ground := Ground.phase }, { on := 13, ground := Ground.phase }, { on := 14, ground := Ground.phase }, { on := 15, ground := Ground.phase }, { on := 16, ground := Ground.phase }, { on := 17, ground := Ground.phase }, { on := 18, ground := Ground.phase }, { on := 19, ground := Ground.phase }, { on := 20, ground := Ground.phase }, { on := 21, ground := Ground.phase }, { on := 22, ground := Ground.phase }, { on := 23, ground := Ground.phase }, { on := 24, ground := Ground.phase }, { on := 25, ground := Ground.phase }, { on := 26, ground := Ground.phase }, { on := 27, ground := Ground.phase }, { on := 28, ground := Ground.phase }, { on := 29, ground := Ground.phase }, { on := 30, ground := Ground.phase }, { on := 31, ground := Ground.phase }, { on := 32, ground := Ground.phase }], guard := none }) rfl (fun K hK => ?_) AllReadyH.nil
    go_simp
    refine hK.out _ _ hHeld (fun hHeld => ?_)
    clear hK K
    try simp only [Act.put, List.setIfInBounds_toArray, List.set_cons_zero, List.set_cons_succ]
    refine wpAnyH_done (by kernel_rfl) ?_ _
    refine NoPanic.normal ?_
    try simp only [Exit.then]
    go_wp2_with (fail)
    go_ret2
    exact ⟨by rw [← HC.out, ← HJ.out]; rfl, hHeld.bl⟩
  | true =>
    cases J1 with
    | false =>
      skip
      refine wp_region_noPanic ?_
      refine wp_region_held_drew (S := XS X #[.int .i64 md, .bool B1, .bool B2, .int .u32 (va : Nat), .bool B4, .int .i64 tl, .int .i64 ts] 25 w) (by kernel_rfl) PS.out.drew (fun hHeld => ?_)
      refine wpAnyH_take (i := 0) (oi := { dst := some 17, op := Op.fieldAddr 25 (Operand.tmp 1) 0, type := 0, pos := "ref.go:37", after := #[], guard := none }) (v := ?_) rfl (by kernel_rfl) (by kernel_rfl) (by kernel_rfl) (fun _ _ _ h => h) (Or.inl ⟨by rfl, ?_⟩) (by assumption) ?_
      rotate_left 1
      · intro w hSw
        go_simp
        first | done | with_reducible rfl
      try simp only [Act.put, List.setIfInBounds_toArray, List.set_cons_zero, List.set_cons_succ]
      refine wpAnyH_take (i := 1) (oi := { dst := some 18, op := Op.load 3 (Operand.tmp 17), type := 3, pos := "ref.go:37", after := #[{ on := 0, ground := Ground.data }], guard := none }) (v := ?_) rfl (by kernel_rfl) (by kernel_rfl) (by kernel_rfl) (fun _ _ _ h => h) (Or.inl ⟨by rfl, ?_⟩) (by assumption) ?_
      rotate_left 1
      · intro w hSw
        have q0 := cellAt (i := 0) (v := .int .i64 md) hSw.hX rfl
        go_simp
        first | done | with_reducible rfl
      try simp only [Act.put, List.setIfInBounds_toArray, List.set_cons_zero, List.set_cons_succ]
      refine wpAnyH_take (i := 3) (oi := { dst := some 20, op := Op.move (Operand.tmp 4), type := 3, pos := "ref.go:37", after := #[], guard := none }) (v := ?_) rfl (by kernel_rfl) (by kernel_rfl) (by kernel_rfl) (fun _ _ _ h => h) (Or.inl ⟨by rfl, ?_⟩) (by assumption) ?_
      rotate_left 1
      · intro w hSw
        go_simp
        first | done | with_reducible rfl
      try simp only [Act.put, List.setIfInBounds_toArray, List.set_cons_zero, List.set_cons_succ]
      refine wpAnyH_take (i := 6) (oi := { dst := some 23, op := Op.fieldAddr 25 (Operand.tmp 1) 3, type := 0, pos := "ref.go:37", after := #[], guard := none }) (v := ?_) rfl (by kernel_rfl) (by kernel_rfl) (by kernel_rfl) (fun _ _ _ h => h) (Or.inl ⟨by rfl, ?_⟩) (by assumption) ?_
      rotate_left 1
      · intro w hSw
        go_simp
        first | done | with_reducible rfl
      try simp only [Act.put, List.setIfInBounds_toArray, List.set_cons_zero, List.set_cons_succ]
      refine wpAnyH_take (i := 7) (oi := { dst := some 24, op := Op.load 23 (Operand.tmp 23), type := 23, pos := "ref.go:37", after := #[{ on := 6, ground := Ground.data }], guard := none }) (v := ?_) rfl (by kernel_rfl) (by kernel_rfl) (by kernel_rfl) (fun _ _ _ h => h) (Or.inl ⟨by rfl, ?_⟩) (by assumption) ?_
      rotate_left 1
      · intro w hSw
        have q0 := cellAt (i := 3) (v := .int .u32 (va : Nat)) hSw.hX rfl
        go_simp
        first | done | with_reducible rfl
      try simp only [Act.put, List.setIfInBounds_toArray, List.set_cons_zero, List.set_cons_succ]
      refine wpAnyH_take (i := 8) (oi := { dst := some 25, op := Op.convert 23 3 (Operand.tmp 24), type := 3, pos := "ref.go:37", after := #[{ on := 7, ground := Ground.data }], guard := none }) (v := ?_) rfl (by kernel_rfl) (by kernel_rfl) (by kernel_rfl) (fun _ _ _ h => h) (Or.inl ⟨by rfl, ?_⟩) (by assumption) ?_
      rotate_left 1
      · intro w hSw
        go_simp
        first | done | with_reducible rfl
      try simp only [Act.put, List.setIfInBounds_toArray, List.set_cons_zero, List.set_cons_succ]
      refine wpAnyH_take (i := 11) (oi := { dst := some 28, op := Op.fieldAddr 25 (Operand.tmp 1) 5, type := 0, pos := "ref.go:37", after := #[], guard := none }) (v := ?_) rfl (by kernel_rfl) (by kernel_rfl) (by kernel_rfl) (fun _ _ _ h => h) (Or.inl ⟨by rfl, ?_⟩) (by assumption) ?_
      rotate_left 1
      · intro w hSw
        go_simp
        first | done | with_reducible rfl
      try simp only [Act.put, List.setIfInBounds_toArray, List.set_cons_zero, List.set_cons_succ]
      refine wpAnyH_take (i := 12) (oi := { dst := some 29, op := Op.load 3 (Operand.tmp 28), type := 3, pos := "ref.go:37", after := #[{ on := 11, ground := Ground.data }], guard := none }) (v := ?_) rfl (by kernel_rfl) (by kernel_rfl) (by kernel_rfl) (fun _ _ _ h => h) (Or.inl ⟨by rfl, ?_⟩) (by assumption) ?_
      rotate_left 1
      · intro w hSw
        have q0 := cellAt (i := 5) (v := .int .i64 tl) hSw.hX rfl
        go_simp
        first | done | with_reducible rfl
      try simp only [Act.put, List.setIfInBounds_toArray, List.set_cons_zero, List.set_cons_succ]
      refine wpAnyH_take (i := 15) (oi := { dst := some 32, op := Op.fieldAddr 25 (Operand.tmp 1) 6, type := 0, pos := "ref.go:37", after := #[], guard := none }) (v := ?_) rfl (by kernel_rfl) (by kernel_rfl) (by kernel_rfl) (fun _ _ _ h => h) (Or.inl ⟨by rfl, ?_⟩) (by assumption) ?_
      rotate_left 1
      · intro w hSw
        go_simp
        first | done | with_reducible rfl
      try simp only [Act.put, List.setIfInBounds_toArray, List.set_cons_zero, List.set_cons_succ]
      refine wpAnyH_take (i := 16) (oi := { dst := some 33, op := Op.load 3 (Operand.tmp 32), type := 3, pos := "ref.go:37", after := #[{ on := 15, ground := Ground.data }], guard := none }) (v := ?_) rfl (by kernel_rfl) (by kernel_rfl) (by kernel_rfl) (fun _ _ _ h => h) (Or.inl ⟨by rfl, ?_⟩) (by assumption) ?_
      rotate_left 1
      · intro w hSw
        have q0 := cellAt (i := 6) (v := .int .i64 ts) hSw.hX rfl
        go_simp
        first | done | with_reducible rfl
      try simp only [Act.put, List.setIfInBounds_toArray, List.set_cons_zero, List.set_cons_succ]
      refine wpAnyH_take (i := 19) (oi := { dst := some 36, op := Op.fieldAddr 25 (Operand.tmp 1) 0, type := 0, pos := "ref.go:37", after := #[], guard := none }) (v := ?_) rfl (by kernel_rfl) (by kernel_rfl) (by kernel_rfl) (fun _ _ _ h => h) (Or.inl ⟨by rfl, ?_⟩) (by assumption) ?_
      rotate_left 1
      · intro w hSw
        go_simp
        first | done | with_reducible rfl
      try simp only [Act.put, List.setIfInBounds_toArray, List.set_cons_zero, List.set_cons_succ]
      refine wpAnyH_take (i := 20) (oi := { dst := some 37, op := Op.load 3 (Operand.tmp 36), type := 3, pos := "ref.go:37", after := #[{ on := 19, ground := Ground.data }], guard := none }) (v := ?_) rfl (by kernel_rfl) (by kernel_rfl) (by kernel_rfl) (fun _ _ _ h => h) (Or.inl ⟨by rfl, ?_⟩) (by assumption) ?_
      rotate_left 1
      · intro w hSw
        have q0 := cellAt (i := 0) (v := .int .i64 md) hSw.hX rfl
        go_simp
        first | done | with_reducible rfl
      try simp only [Act.put, List.setIfInBounds_toArray, List.set_cons_zero, List.set_cons_succ]
      refine wpAnyH_ready (rs := [2]) (by kernel_rfl) (by simp) ?_
      refine AllReadyH.cons (o := { dst := some 19, op := Op.call { callee := Callee.value (Operand.func 44), args := #[Operand.tmp 18, Operand.const (Value.int IntKind.i64 1)], argTypes := #[3, 3] }, type := 9, pos := "ref.go:37", after := #[{ on := 1, ground := Ground.data }], guard := none }) rfl (fun K hK => ?_) AllReadyH.nil
      go_simp
      (go_at_call 44; (with_reducible refine (N0.out _).mono ?_); rintro e w5 ⟨rfl, hb5⟩)
      go_simp
      refine hK.out _ _ (hHeld.below hb5) (fun hHeld => ?_)
      clear hK K
      try simp only [Act.put, List.setIfInBounds_toArray, List.set_cons_zero, List.set_cons_succ]
      refine wpAnyH_ready (rs := [4]) (by kernel_rfl) (by simp) ?_
      refine AllReadyH.cons (o := { dst := some 21, op := Op.call { callee := Callee.value (Operand.func 44), args := #[Operand.tmp 20, Operand.const (Value.int IntKind.i64 1)], argTypes := #[3, 3] }, type := 9, pos := "ref.go:37", after := #[{ on := 3, ground := Ground.data }, { on := 2, ground := Ground.chain }], guard := none }) rfl (fun K hK => ?_) AllReadyH.nil
      go_simp
      (go_at_call 44; (with_reducible refine (N1.out _).mono ?_); rintro e w5 ⟨rfl, hb5⟩)
      go_simp
      refine hK.out _ _ (hHeld.below hb5) (fun hHeld => ?_)
      clear hK K
      try simp only [Act.put, List.setIfInBounds_toArray, List.set_cons_zero, List.set_cons_succ]
      refine wpAnyH_take (i := 5) (oi := { dst := some 22, op := Op.binOp BinOp.add 9 (Operand.tmp 19) (Operand.tmp 21) 9, type := 9, pos := "ref.go:37", after := #[{ on := 2, ground := Ground.data }, { on := 4, ground := Ground.data }], guard := none }) (v := ?_) rfl (by kernel_rfl) (by kernel_rfl) (by kernel_rfl) (fun _ _ _ h => h) (Or.inl ⟨by rfl, ?_⟩) (by assumption) ?_
      rotate_left 1
      · intro w hSw
        go_simp
        first | done | with_reducible rfl
      try simp only [Act.put, List.setIfInBounds_toArray, List.set_cons_zero, List.set_cons_succ]
      refine wpAnyH_ready (rs := [9]) (by kernel_rfl) (by simp) ?_
      refine AllReadyH.cons (o := { dst := some 26, op := Op.call { callee := Callee.value (Operand.func 44), args := #[Operand.tmp 25, Operand.const (Value.int IntKind.i64 4)], argTypes := #[3, 3] }, type := 9, pos := "ref.go:37", after := #[{ on := 8, ground := Ground.data }, { on := 4, ground := Ground.chain }], guard := none }) rfl (fun K hK => ?_) AllReadyH.nil
      go_simp
      (go_at_call 44; (with_reducible refine (N2.out _).mono ?_); rintro e w5 ⟨rfl, hb5⟩)
      go_simp
      refine hK.out _ _ (hHeld.below hb5) (fun hHeld => ?_)
      clear hK K
      try simp only [Act.put, List.setIfInBounds_toArray, List.set_cons_zero, List.set_cons_succ]
      refine wpAnyH_take (i := 10) (oi := { dst := some 27, op := Op.binOp BinOp.add 9 (Operand.tmp 22) (Operand.tmp 26) 9, type := 9, pos := "ref.go:37", after := #[{ on := 5, ground := Ground.data }, { on := 9, ground := Ground.data }], guard := none }) (v := ?_) rfl (by kernel_rfl) (by kernel_rfl) (by kernel_rfl) (fun _ _ _ h => h) (Or.inl ⟨by rfl, ?_⟩) (by assumption) ?_
      rotate_left 1
      · intro w hSw
        go_simp
        first | done | with_reducible rfl
      try simp only [Act.put, List.setIfInBounds_toArray, List.set_cons_zero, List.set_cons_succ]
      refine wpAnyH_ready (rs := [13]) (by kernel_rfl) (by simp) ?_
      refine AllReadyH.cons (o := { dst := some 30, op := Op.call { callee := Callee.value (Operand.func 44), args := #[Operand.tmp 29, Operand.const (Value.int IntKind.i64 1)], argTypes := #[3, 3] }, type := 9, pos := "ref.go:37", after := #[{ on := 12, ground := Ground.data }, { on := 9, ground := Ground.chain }], guard := none }) rfl (fun K hK => ?_) AllReadyH.nil
      go_simp
      (go_at_call 44; (with_reducible refine (N3.out _).mono ?_); rintro e w5 ⟨rfl, hb5⟩)
      go_simp
      refine hK.out _ _ (hHeld.below hb5) (fun hHeld => ?_)
      clear hK K
      try simp only [Act.put, List.setIfInBounds_toArray, List.set_cons_zero, List.set_cons_succ]
      refine wpAnyH_take (i := 14) (oi := { dst := some 31, op := Op.binOp BinOp.add 9 (Operand.tmp 27) (Operand.tmp 30) 9, type := 9, pos := "ref.go:37", after := #[{ on := 10, ground := Ground.data }, { on := 13, ground := Ground.data }], guard := none }) (v := ?_) rfl (by kernel_rfl) (by kernel_rfl) (by kernel_rfl) (fun _ _ _ h => h) (Or.inl ⟨by rfl, ?_⟩) (by assumption) ?_
      rotate_left 1
      · intro w hSw
        go_simp
        first | done | with_reducible rfl
      try simp only [Act.put, List.setIfInBounds_toArray, List.set_cons_zero, List.set_cons_succ]
      refine wpAnyH_ready (rs := [17]) (by kernel_rfl) (by simp) ?_
      refine AllReadyH.cons (o := { dst := some 34, op := Op.call { callee := Callee.value (Operand.func 44), args := #[Operand.tmp 33, Operand.const (Value.int IntKind.i64 1)], argTypes := #[3, 3] }, type := 9, pos := "ref.go:37", after := #[{ on := 16, ground := Ground.data }, { on := 13, ground := Ground.chain }], guard := none }) rfl (fun K hK => ?_) AllReadyH.nil
      go_simp
      (go_at_call 44; (with_reducible refine (N4.out _).mono ?_); rintro e w5 ⟨rfl, hb5⟩)
      go_simp
      refine hK.out _ _ (hHeld.below hb5) (fun hHeld => ?_)
      clear hK K
      try simp only [Act.put, List.setIfInBounds_toArray, List.set_cons_zero, List.set_cons_succ]
      refine wpAnyH_take (i := 18) (oi := { dst := some 35, op := Op.binOp BinOp.add 9 (Operand.tmp 31) (Operand.tmp 34) 9, type := 9, pos := "ref.go:37", after := #[{ on := 14, ground := Ground.data }, { on := 17, ground := Ground.data }], guard := none }) (v := ?_) rfl (by kernel_rfl) (by kernel_rfl) (by kernel_rfl) (fun _ _ _ h => h) (Or.inl ⟨by rfl, ?_⟩) (by assumption) ?_
      rotate_left 1
      · intro w hSw
        go_simp
        first | done | with_reducible rfl
      try simp only [Act.put, List.setIfInBounds_toArray, List.set_cons_zero, List.set_cons_succ]
      refine wpAnyH_ready (rs := [21]) (by kernel_rfl) (by simp) ?_
      refine AllReadyH.cons (o := { dst := some 38, op := Op.call { callee := Callee.value (Operand.func 42), args := #[Operand.tmp 37, Operand.const (Value.int IntKind.i64 255)], argTypes := #[3, 3] }, type := 4, pos := "ref.go:37", after := #[{ on := 20, ground := Ground.data }, { on := 17, ground := Ground.chain }], guard := none }) rfl (fun K hK => ?_) AllReadyH.nil
      go_simp
      (go_at_call 42; (with_reducible refine (I0.out _).mono ?_); rintro e w5 ⟨rfl, hw5⟩; replace hw5 := hw5.symm; subst hw5)
      go_simp
      refine hK.out _ _ hHeld (fun hHeld => ?_)
      clear hK K
      try simp only [Act.put, List.setIfInBounds_toArray, List.set_cons_zero, List.set_cons_succ]
      refine wpAnyH_take (i := 22) (oi := { dst := some 39, op := Op.move (Operand.tmp 38), type := 4, pos := "ref.go:37", after := #[{ on := 21, ground := Ground.data }, { on := 21, ground := Ground.chain }], guard := none }) (v := ?_) rfl (by kernel_rfl) (by kernel_rfl) (by kernel_rfl) (fun _ _ _ h => h) (Or.inl ⟨by rfl, ?_⟩) (by assumption) ?_
      rotate_left 1
      · intro w hSw
        go_simp
        first | done | with_reducible rfl
      try simp only [Act.put, List.setIfInBounds_toArray, List.set_cons_zero, List.set_cons_succ]
      refine wpAnyH_take (i := 23) (oi := { dst := some 40, op := Op.fieldAddr 25 (Operand.tmp 1) 5, type := 0, pos := "ref.go:37", after := #[{ on := 22, ground := Ground.guard }], guard := some (22, true) }) (v := ?_) rfl (by kernel_rfl) (by kernel_rfl) (by kernel_rfl) (fun _ _ _ h => h) (Or.inl ⟨by rfl, ?_⟩) (by assumption) ?_
      rotate_left 1
      · intro w hSw
        go_simp
        first | done | with_reducible rfl
      try simp only [Act.put, List.setIfInBounds_toArray, List.set_cons_zero, List.set_cons_succ]
      refine wpAnyH_take (i := 24) (oi := { dst := some 41, op := Op.load 3 (Operand.tmp 40), type := 3, pos := "ref.go:37", after := #[{ on := 23, ground := Ground.data }, { on := 22, ground := Ground.guard }], guard := some (22, true) }) (v := ?_) rfl (by kernel_rfl) (by kernel_rfl) (by kernel_rfl) (fun _ _ _ h => h) (Or.inl ⟨by rfl, ?_⟩) (by assumption) ?_
      rotate_left 1
      · intro w hSw
        have q0 := cellAt (i := 5) (v := .int .i64 tl) hSw.hX rfl
        go_simp
        first | done | with_reducible rfl
      try simp only [Act.put, List.setIfInBounds_toArray, List.set_cons_zero, List.set_cons_succ]
      refine wpAnyH_ready (rs := [25]) (by kernel_rfl) (by simp) ?_
      refine AllReadyH.cons (o := { dst := some 42, op := Op.call { callee := Callee.value (Operand.func 42), args := #[Operand.tmp 41, Operand.const (Value.int IntKind.i64 255)], argTypes := #[3, 3] }, type := 4, pos := "ref.go:37", after := #[{ on := 24, ground := Ground.data }, { on := 22, ground := Ground.chain }, { on := 22, ground := Ground.guard }], guard := some (22, true) }) rfl (fun K hK => ?_) AllReadyH.nil
      go_simp
      (go_at_call 42; (with_reducible refine (I1.out _).mono ?_); rintro e w5 ⟨rfl, hw5⟩; replace hw5 := hw5.symm; subst hw5)
      go_simp
      refine hK.out _ _ hHeld (fun hHeld => ?_)
      clear hK K
      try simp only [Act.put, List.setIfInBounds_toArray, List.set_cons_zero, List.set_cons_succ]
      refine wpAnyH_take (i := 26) (oi := { dst := some 43, op := Op.pick (Operand.tmp 39) (Operand.tmp 42) (Operand.const (Value.bool false)), type := 4, pos := "ref.go:37", after := #[{ on := 22, ground := Ground.data }, { on := 25, ground := Ground.data }], guard := none }) (v := ?_) rfl (by kernel_rfl) (by kernel_rfl) (by kernel_rfl) (fun _ _ _ h => h) (Or.inl ⟨by rfl, ?_⟩) (by assumption) ?_
      rotate_left 1
      · intro w hSw
        go_simp
        first | done | with_reducible rfl
      try simp only [Act.put, List.setIfInBounds_toArray, List.set_cons_zero, List.set_cons_succ]
      refine wpAnyH_take (i := 27) (oi := { dst := some 44, op := Op.move (Operand.tmp 43), type := 4, pos := "ref.go:37", after := #[{ on := 26, ground := Ground.data }, { on := 25, ground := Ground.chain }], guard := none }) (v := ?_) rfl (by kernel_rfl) (by kernel_rfl) (by kernel_rfl) (fun _ _ _ h => h) (Or.inl ⟨by rfl, ?_⟩) (by assumption) ?_
      rotate_left 1
      · intro w hSw
        go_simp
        first | done | with_reducible rfl
      try simp only [Act.put, List.setIfInBounds_toArray, List.set_cons_zero, List.set_cons_succ]
      refine wpAnyH_take (i := 28) (oi := { dst := some 45, op := Op.fieldAddr 25 (Operand.tmp 1) 6, type := 0, pos := "ref.go:37", after := #[{ on := 27, ground := Ground.guard }], guard := some (27, true) }) (v := undef) rfl (by kernel_rfl) (by kernel_rfl) (by kernel_rfl) (fun _ _ _ h => h) (Or.inr ⟨by rfl, rfl⟩) (by assumption) ?_
      try simp only [Act.put, List.setIfInBounds_toArray, List.set_cons_zero, List.set_cons_succ]
      refine wpAnyH_take (i := 29) (oi := { dst := some 46, op := Op.load 3 (Operand.tmp 45), type := 3, pos := "ref.go:37", after := #[{ on := 28, ground := Ground.data }, { on := 27, ground := Ground.guard }], guard := some (27, true) }) (v := undef) rfl (by kernel_rfl) (by kernel_rfl) (by kernel_rfl) (fun _ _ _ h => h) (Or.inr ⟨by rfl, rfl⟩) (by assumption) ?_
      try simp only [Act.put, List.setIfInBounds_toArray, List.set_cons_zero, List.set_cons_succ]
      refine wpAnyH_ready (rs := [30]) (by kernel_rfl) (by simp) ?_
      refine AllReadyH.cons (o := { dst := some 47, op := Op.call { callee := Callee.value (Operand.func 42), args := #[Operand.tmp 46, Operand.const (Value.int IntKind.i64 255)], argTypes := #[3, 3] }, type := 4, pos := "ref.go:37", after := #[{ on := 29, ground := Ground.data }, { on := 27, ground := Ground.chain }, { on := 27, ground := Ground.guard }], guard := some (27, true) }) rfl (fun K hK => ?_) AllReadyH.nil
      go_simp
      refine hK.out _ _ hHeld (fun hHeld => ?_)
      clear hK K
      try simp only [Act.put, List.setIfInBounds_toArray, List.set_cons_zero, List.set_cons_succ]
      refine wpAnyH_take (i := 31) (oi := { dst := some 48, op := Op.pick (Operand.tmp 44) (Operand.tmp 47) (Operand.const (Value.bool false)), type := 4, pos := "ref.go:37", after := #[{ on := 27, ground := Ground.data }, { on := 30, ground := Ground.data }, { on := 32, ground := Ground.gcOnly Departure.lateStores }], guard := none }) (v := ?_) rfl (by kernel_rfl) (by kernel_rfl) (by kernel_rfl) (fun _ _ _ h => h) (Or.inl ⟨by rfl, ?_⟩) (by assumption) ?_
      rotate_left 1
      · intro w hSw
        go_simp
        first | done | with_reducible rfl
      try simp only [Act.put, List.setIfInBounds_toArray, List.set_cons_zero, List.set_cons_succ]
      refine wpAnyH_ready (rs := [32]) (by kernel_rfl) (by simp) ?_
      refine AllReadyH.cons (o := { dst := some 2, op := Op.assign (Operand.tmp 35), type := 9, pos := "ref.go:37", after := #[{ on := 18, ground := Ground.data }, { on := 30, ground := Ground.chain }, { on := 0, ground := Ground.phase }, { on := 1, ground := Ground.phase }, { on := 2, ground := Ground.phase }, { on := 3, ground := Ground.phase }, { on := 4, ground := Ground.phase }, { on := 5, ground := Ground.phase }, { on := 6, ground := Ground.phase }, { on := 7, ground := Ground.phase }, { on := 8, ground := Ground.phase }, { on := 9, ground := Ground.phase }, { on := 10, ground := Ground.phase }, { on := 11, ground := Ground.phase }, { on := 12, ground := Ground.phase }, { on := 13, ground := Ground.phase }, { on := 14, ground := Ground.phase }, { on := 15, ground := Ground.phase }, { on := 16, ground := Ground.phase }, { on := 17, ground := Ground.phase }, { on := 18, ground := Ground.phase }, { on := 19, ground := Ground.textOnly Departure.lateStores }, { on := 20, ground := Ground.textOnly Departure.lateStores }, { on := 21, ground := Ground.textOnly Departure.lateStoresUnsure }, { on := 22, ground := Ground.textOnly Departure.lateStores }, { on := 23, ground := Ground.textOnly Departure.lateStores }, { on := 24, ground := Ground.textOnly Departure.lateStores }, { on := 25, ground := Ground.textOnly Departure.lateStoresUnsure }, { on := 26, ground := Ground.textOnly Departure.lateStores }, { on := 27, ground := Ground.textOnly Departure.lateStores }, { on := 28, ground := Ground.textOnly Departure.lateStores }, { on := 29, ground := Ground.textOnly Departure.lateStores }, { on := 30, ground := Ground.textOnly Departure.lateStoresUnsure }, { on := 31, ground := Ground.textOnly Departure.lateStores }], guard := none }) rfl (fun K hK => ?_) AllReadyH.nil
      go_simp
      refine hK.out _ _ hHeld (fun hHeld => ?_)
      clear hK K
      try simp only [Act.put, List.setIfInBounds_toArray, List.set_cons_zero, List.set_cons_succ]
      refine wpAnyH_ready (rs := [33]) (by kernel_rfl) (by simp) ?_
      refine AllReadyH.cons (o := { dst := some 3, op := Op.assign (Operand.tmp 48), type := 4, pos := "ref.go:37", after := #[{ on := 31, ground := Ground.data }, { on := 32, ground := Ground.chain }, { on := 0, ground := Ground.phase }, { on := 1, ground := Ground.phase }, { on := 2, ground := Ground.phase }, { on := 3, ground := Ground.phase }, { on := 4, ground := Ground.phase }, { on := 5, ground := Ground.phase }, { on := 6, ground := Ground.phase }, { on := 7, ground := Ground.phase }, { on := 8, ground := Ground.phase }, { on := 9, ground := Ground.phase }, { on := 10, ground := Ground.phase }, { on := 11, ground := Ground.phase }, { on := 12, ground := Ground.phase }, { on := 13, ground := Ground.phase }, { on := 14, ground := Ground.phase }, { on := 15, ground := Ground.phase }, { on := 16, ground := Ground.phase }, { on := 17, ground := Ground.phase }, { on := 18, ground := Ground.phase }, { on := 19, ground := Ground.phase }, { on := 20, ground := Ground.phase }, { on := 21, ground := Ground.phase }, { on := 22, ground := Ground.phase }, { on := 23, ground := Ground.phase }, { on := 24, ground := Ground.phase }, { on := 25, ground := Ground.phase }, { on := 26, ground := Ground.phase }, { on := 27, ground := Ground.phase }, { on := 28, ground := Ground.phase }, { on := 29, ground := Ground.phase }, { on := 30, ground := Ground.phase }, { on := 31, ground := Ground.phase }, { on := 32, ground := Ground.phase }], guard := none }) rfl (fun K hK => ?_) AllReadyH.nil
      go_simp
      refine hK.out _ _ hHeld (fun hHeld => ?_)
      clear hK K
      try simp only [Act.put, List.setIfInBounds_toArray, List.set_cons_zero, List.set_cons_succ]
      refine wpAnyH_done (by kernel_rfl) ?_ _
      refine NoPanic.normal ?_
      try simp only [Exit.then]
      go_wp2_with (fail)
      go_ret2
      exact ⟨by rw [← HC.out, ← HJ.out]; rfl, hHeld.bl⟩
    | true =>
      skip
      refine wp_region_noPanic ?_
      refine wp_region_held_drew (S := XS X #[.int .i64 md, .bool B1, .bool B2, .int .u32 (va : Nat), .bool B4, .int .i64 tl, .int .i64 ts] 25 w) (by kernel_rfl) PS.out.drew (fun hHeld => ?_)
      refine wpAnyH_take (i := 0) (oi := { dst := some 17, op := Op.fieldAddr 25 (Operand.tmp 1) 0, type := 0, pos := "ref.go:37", after := #[], guard := none }) (v := ?_) rfl (by kernel_rfl) (by kernel_rfl) (by kernel_rfl) (fun _ _ _ h => h) (Or.inl ⟨by rfl, ?_⟩) (by assumption) ?_
      rotate_left 1
      · intro w hSw
        go_simp
        first | done | with_reducible rfl
      try simp only [Act.put, List.setIfInBounds_toArray, List.set_cons_zero, List.set_cons_succ]
      refine wpAnyH_take (i := 1) (oi := { dst := some 18, op := Op.load 3 (Operand.tmp 17), type := 3, pos := "ref.go:37", after := #[{ on := 0, ground := Ground.data }], guard := none }) (v := ?_) rfl (by kernel_rfl) (by kernel_rfl) (by kernel_rfl) (fun _ _ _ h => h) (Or.inl ⟨by rfl, ?_⟩) (by assumption) ?_
      rotate_left 1
      · intro w hSw
        have q0 := cellAt (i := 0) (v := .int .i64 md) hSw.hX rfl
        go_simp
        first | done | with_reducible rfl
      try simp only [Act.put, List.setIfInBounds_toArray, List.set_cons_zero, List.set_cons_succ]
      refine wpAnyH_take (i := 3) (oi := { dst := some 20, op := Op.move (Operand.tmp 4), type := 3, pos := "ref.go:37", after := #[], guard := none }) (v := ?_) rfl (by kernel_rfl) (by kernel_rfl) (by kernel_rfl) (fun _ _ _ h => h) (Or.inl ⟨by rfl, ?_⟩) (by assumption) ?_
      rotate_left 1
      · intro w hSw
        go_simp
        first | done | with_reducible rfl
      try simp only [Act.put, List.setIfInBounds_toArray, List.set_cons_zero, List.set_cons_succ]
      refine wpAnyH_take (i := 6) (oi := { dst := some 23, op := Op.fieldAddr 25 (Operand.tmp 1) 3, type := 0, pos := "ref.go:37", after := #[], guard := none }) (v := ?_) rfl (by kernel_rfl) (by kernel_rfl) (by kernel_rfl) (fun _ _ _ h => h) (Or.inl ⟨by rfl, ?_⟩) (by assumption) ?_
      rotate_left 1
      · intro w hSw
        go_simp
        first | done | with_reducible rfl
      try simp only [Act.put, List.setIfInBounds_toArray, List.set_cons_zero, List.set_cons_succ]
      refine wpAnyH_take (i := 7) (oi := { dst := some 24, op := Op.load 23 (Operand.tmp 23), type := 23, pos := "ref.go:37", after := #[{ on := 6, ground := Ground.data }], guard := none }) (v := ?_) rfl (by kernel_rfl) (by kernel_rfl) (by kernel_rfl) (fun _ _ _ h => h) (Or.inl ⟨by rfl, ?_⟩) (by assumption) ?_
      rotate_left 1
      · intro w hSw
        have q0 := cellAt (i := 3) (v := .int .u32 (va : Nat)) hSw.hX rfl
        go_simp
        first | done | with_reducible rfl
      try simp only [Act.put, List.setIfInBounds_toArray, List.set_cons_zero, List.set_cons_succ]
      refine wpAnyH_take (i := 8) (oi := { dst := some 25, op := Op.convert 23 3 (Operand.tmp 24), type := 3, pos := "ref.go:37", after := #[{ on := 7, ground := Ground.data }], guard := none }) (v := ?_) rfl (by kernel_rfl) (by kernel_rfl) (by kernel_rfl) (fun _ _ _ h => h) (Or.inl ⟨by rfl, ?_⟩) (by assumption) ?_
      rotate_left 1
      · intro w hSw
        go_simp
        first | done | with_reducible rfl
      try simp only [Act.put, List.setIfInBounds_toArray, List.set_cons_zero, List.set_cons_succ]
      refine wpAnyH_take (i := 11) (oi := { dst := some 28, op := Op.fieldAddr 25 (Operand.tmp 1) 5, type := 0, pos := "ref.go:37", after := #[], guard := none }) (v := ?_) rfl (by kernel_rfl) (by kernel_rfl) (by kernel_rfl) (fun _ _ _ h => h) (Or.inl ⟨by rfl, ?_⟩) (by assumption) ?_
      rotate_left 1
      · intro w hSw
        go_simp
        first | done | with_reducible rfl
      try simp only [Act.put, List.setIfInBounds_toArray, List.set_cons_zero, List.set_cons_succ]
      refine wpAnyH_take (i := 12) (oi := { dst := some 29, op := Op.load 3 (Operand.tmp 28), type := 3, pos := "ref.go:37", after := #[{ on := 11, ground := Ground.data }], guard := none }) (v := ?_) rfl (by kernel_rfl) (by kernel_rfl) (by kernel_rfl) (fun _ _ _ h => h) (Or.inl ⟨by rfl, ?_⟩) (by assumption) ?_
      rotate_left 1
      · intro w hSw
        have q0 := cellAt (i := 5) (v := .int .i64 tl) hSw.hX rfl
        go_simp
        first | done | with_reducible rfl
      try simp only [Act.put, List.setIfInBounds_toArray, List.set_cons_zero, List.set_cons_succ]
      refine wpAnyH_take (i := 15) (oi := { dst := some 32, op := Op.fieldAddr 25 (Operand.tmp 1) 6, type := 0, pos := "ref.go:37", after := #[], guard := none }) (v := ?_) rfl (by kernel_rfl) (by kernel_rfl) (by kernel_rfl) (fun _ _ _ h => h) (Or.inl ⟨by rfl, ?_⟩) (by assumption) ?_
      rotate_left 1
      · intro w hSw
        go_simp
        first | done | with_reducible rfl
      try simp only [Act.put, List.setIfInBounds_toArray, List.set_cons_zero, List.set_cons_succ]
      refine wpAnyH_take (i := 16) (oi := { dst := some 33, op := Op.load 3 (Operand.tmp 32), type := 3, pos := "ref.go:37", after := #[{ on := 15, ground := Ground.data }], guard := none }) (v := ?_) rfl (by kernel_rfl) (by kernel_rfl) (by kernel_rfl) (fun _ _ _ h => h) (Or.inl ⟨by rfl, ?_⟩) (by assumption) ?_
      rotate_left 1
      · intro w hSw
        have q0 := cellAt (i := 6) (v := .int .i64 ts) hSw.hX rfl
        go_simp
        first | done | with_reducible rfl
      try simp only [Act.put, List.setIfInBounds_toArray, List.set_cons_zero, List.set_cons_succ]
      refine wpAnyH_take (i := 19) (oi := { dst := some 36, op := Op.fieldAddr 25 (Operand.tmp 1) 0, type := 0, pos := "ref.go:37", after := #[], guard := none }) (v := ?_) rfl (by kernel_rfl) (by kernel_rfl) (by kernel_rfl) (fun _ _ _ h => h) (Or.inl ⟨by rfl, ?_⟩) (by assumption) ?_
      rotate_left 1
      · intro w hSw
        go_simp
        first | done | with_reducible rfl
      try simp only [Act.put, List.setIfInBounds_toArray, List.set_cons_zero, List.set_cons_succ]
      refine wpAnyH_take (i := 20) (oi := { dst := some 37, op := Op.load 3 (Operand.tmp 36), type := 3, pos := "ref.go:37", after := #[{ on := 19, ground := Ground.data }], guard := none }) (v := ?_) rfl (by kernel_rfl) (by kernel_rfl) (by kernel_rfl) (fun _ _ _ h => h) (Or.inl ⟨by rfl, ?_⟩) (by assumption) ?_
      rotate_left 1
      · intro w hSw
        have q0 := cellAt (i := 0) (v := .int .i64 md) hSw.hX rfl
        go_simp
        first | done | with_reducible rfl
      try simp only [Act.put, List.setIfInBounds_toArray, List.set_cons_zero, List.set_cons_succ]
      refine wpAnyH_ready (rs := [2]) (by kernel_rfl) (by simp) ?_
      refine AllReadyH.cons (o := { dst := some 19, op := Op.call { callee := Callee.value (Operand.func 44), args := #[Operand.tmp 18, Operand.const (Value.int IntKind.i64 1)], argTypes := #[3, 3] }, type := 9, pos := "ref.go:37", after := #[{ on := 1, ground := Ground.data }], guard := none }) rfl (fun K hK => ?_) AllReadyH.nil
      go_simp
      (go_at_call 44; (with_reducible refine (N0.out _).mono ?_); rintro e w5 ⟨rfl, hb5⟩)
      go_simp
      refine hK.out _ _ (hHeld.below hb5) (fun hHeld => ?_)
      clear hK K
      try simp only [Act.put, List.setIfInBounds_toArray, List.set_cons_zero, List.set_cons_succ]
      refine wpAnyH_ready (rs := [4]) (by kernel_rfl) (by simp) ?_
      refine AllReadyH.cons (o := { dst := some 21, op := Op.call { callee := Callee.value (Operand.func 44), args := #[Operand.tmp 20, Operand.const (Value.int IntKind.i64 1)], argTypes := #[3, 3] }, type := 9, pos := "ref.go:37", after := #[{ on := 3, ground := Ground.data }, { on := 2, ground := Ground.chain }], guard := none }) rfl (fun K hK => ?_) AllReadyH.nil
      go_simp
      (go_at_call 44; (with_reducible refine (N1.out _).mono ?_); rintro e w5 ⟨rfl, hb5⟩)
      go_simp
      refine hK.out _ _ (hHeld.below hb5) (fun hHeld => ?_)
      clear hK K
      try simp only [Act.put, List.setIfInBounds_toArray, List.set_cons_zero, List.set_cons_succ]
      refine wpAnyH_take (i := 5) (oi := { dst := some 22, op := Op.binOp BinOp.add 9 (Operand.tmp 19) (Operand.tmp 21) 9, type := 9, pos := "ref.go:37", after := #[{ on := 2, ground := Ground.data }, { on := 4, ground := Ground.data }], guard := none }) (v := ?_) rfl (by kernel_rfl) (by kernel_rfl) (by kernel_rfl) (fun _ _ _ h => h) (Or.inl ⟨by rfl, ?_⟩) (by assumption) ?_
      rotate_left 1
      · intro w hSw
        go_simp
        first | done | with_reducible rfl
      try simp only [Act.put, List.setIfInBounds_toArray, List.set_cons_zero, List.set_cons_succ]
      refine wpAnyH_ready (rs := [9]) (by kernel_rfl) (by simp) ?_
      refine AllReadyH.cons (o := { dst := some 26, op := Op.call { callee := Callee.value (Operand.func 44), args := #[Operand.tmp 25, Operand.const (Value.int IntKind.i64 4)], argTypes := #[3, 3] }, type := 9, pos := "ref.go:37", after := #[{ on := 8, ground := Ground.data }, { on := 4, ground := Ground.chain }], guard := none }) rfl (fun K hK => ?_) AllReadyH.nil
      go_simp
      (go_at_call 44; (with_reducible refine (N2.out _).mono ?_); rintro e w5 ⟨rfl, hb5⟩)
      go_simp
      refine hK.out _ _ (hHeld.below hb5) (fun hHeld => ?_)
      clear hK K
      try simp only [Act.put, List.setIfInBounds_toArray, List.set_cons_zero, List.set_cons_succ]
      refine wpAnyH_take (i := 10) (oi := { dst := some 27, op := Op.binOp BinOp.add 9 (Operand.tmp 22) (Operand.tmp 26) 9, type := 9, pos := "ref.go:37", after := #[{ on := 5, ground := Ground.data }, { on := 9, ground := Ground.data }], guard := none }) (v := ?_) rfl (by kernel_rfl) (by kernel_rfl) (by kernel_rfl) (fun _ _ _ h => h) (Or.inl ⟨by rfl, ?_⟩) (by assumption) ?_
      rotate_left 1
      · intro w hSw
        go_simp
        first | done | with_reducible rfl
      try simp only [Act.put, List.setIfInBounds_toArray, List.set_cons_zero, List.set_cons_succ]
      refine wpAnyH_ready (rs := [13]) (by kernel_rfl) (by simp) ?_
      refine AllReadyH.cons (o := { dst := some 30, op := Op.call { callee := Callee.value (Operand.func 44), args := #[Operand.tmp 29, Operand.const (Value.int IntKind.i64 1)], argTypes := #[3, 3] }, type := 9, pos := "ref.go:37", after := #[{ on := 12, ground := Ground.data }, { on := 9, ground := Ground.chain }], guard := none }) rfl (fun K hK => ?_) AllReadyH.nil
      go_simp
      (go_at_call 44; (with_reducible refine (N3.out _).mono ?_); rintro e w5 ⟨rfl, hb5⟩)
      go_simp
      refine hK.out _ _ (hHeld.below hb5) (fun hHeld => ?_)
      clear hK K
      try simp only [Act.put, List.setIfInBounds_toArray, List.set_cons_zero, List.set_cons_succ]
      refine wpAnyH_take (i := 14) (oi := { dst := some 31, op := Op.binOp BinOp.add 9 (Operand.tmp 27) (Operand.tmp 30) 9, type := 9, pos := "ref.go:37", after := #[{ on := 10, ground := Ground.data }, { on := 13, ground := Ground.data }], guard := none }) (v := ?_) rfl (by kernel_rfl) (by kernel_rfl) (by kernel_rfl) (fun _ _ _ h => h) (Or.inl ⟨by rfl, ?_⟩) (by assumption) ?_
      rotate_left 1
      · intro w hSw
        go_simp
        first | done | with_reducible rfl
      try simp only [Act.put, List.setIfInBounds_toArray, List.set_cons_zero, List.set_cons_succ]
      refine wpAnyH_ready (rs := [17]) (by kernel_rfl) (by simp) ?_
      refine AllReadyH.cons (o := { dst := some 34, op := Op.call { callee := Callee.value (Operand.func 44), args := #[Operand.tmp 33, Operand.const (Value.int IntKind.i64 1)], argTypes := #[3, 3] }, type := 9, pos := "ref.go:37", after := #[{ on := 16, ground := Ground.data }, { on := 13, ground := Ground.chain }], guard := none }) rfl (fun K hK => ?_) AllReadyH.nil
      go_simp
      (go_at_call 44; (with_reducible refine (N4.out _).mono ?_); rintro e w5 ⟨rfl, hb5⟩)
      go_simp
      refine hK.out _ _ (hHeld.below hb5) (fun hHeld => ?_)
      clear hK K
      try simp only [Act.put, List.setIfInBounds_toArray, List.set_cons_zero, List.set_cons_succ]
      refine wpAnyH_take (i := 18) (oi := { dst := some 35, op := Op.binOp BinOp.add 9 (Operand.tmp 31) (Operand.tmp 34) 9, type := 9, pos := "ref.go:37", after := #[{ on := 14, ground := Ground.data }, { on := 17, ground := Ground.data }], guard := none }) (v := ?_) rfl (by kernel_rfl) (by kernel_rfl) (by kernel_rfl) (fun _ _ _ h => h) (Or.inl ⟨by rfl, ?_⟩) (by assumption) ?_
      rotate_left 1
      · intro w hSw
        go_simp
        first | done | with_reducible rfl
      try simp only [Act.put, List.setIfInBounds_toArray, List.set_cons_zero, List.set_cons_succ]
      refine wpAnyH_ready (rs := [21]) (by kernel_rfl) (by simp) ?_
      refine AllReadyH.cons (o := { dst := some 38, op := Op.call { callee := Callee.value (Operand.func 42), args := #[Operand.tmp 37, Operand.const (Value.int IntKind.i64 255)], argTypes := #[3, 3] }, type := 4, pos := "ref.go:37", after := #[{ on := 20, ground := Ground.data }, { on := 17, ground := Ground.chain }], guard := none }) rfl (fun K hK => ?_) AllReadyH.nil
      go_simp
      (go_at_call 42; (with_reducible refine (I0.out _).mono ?_); rintro e w5 ⟨rfl, hw5⟩; replace hw5 := hw5.symm; subst hw5)
      go_simp
      refine hK.out _ _ hHeld (fun hHeld => ?_)
      clear hK K
      try simp only [Act.put, List.setIfInBounds_toArray, List.set_cons_zero, List.set_cons_succ]
      refine wpAnyH_take (i := 22) (oi := { dst := some 39, op := Op.move (Operand.tmp 38), type := 4, pos := "ref.go:37", after := #[{ on := 21, ground := Ground.data }, { on := 21, ground := Ground.chain }], guard := none }) (v := ?_) rfl (by kernel_rfl) (by kernel_rfl) (by kernel_rfl) (fun _ _ _ h => h) (Or.inl ⟨by rfl, ?_⟩) (by assumption) ?_
      rotate_left 1
      · intro w hSw
        go_simp
        first | done | with_reducible rfl
      try simp only [Act.put, List.setIfInBounds_toArray, List.set_cons_zero, List.set_cons_succ]
      refine wpAnyH_take (i := 23) (oi := { dst := some 40, op := Op.fieldAddr 25 (Operand.tmp 1) 5, type := 0, pos := "ref.go:37", after := #[{ on := 22, ground := Ground.guard }], guard := some (22, true) }) (v := ?_) rfl (by kernel_rfl) (by kernel_rfl) (by kernel_rfl) (fun _ _ _ h => h) (Or.inl ⟨by rfl, ?_⟩) (by assumption) ?_
      rotate_left 1
      · intro w hSw
        go_simp
        first | done | with_reducible rfl
      try simp only [Act.put, List.setIfInBounds_toArray, List.set_cons_zero, List.set_cons_succ]
      refine wpAnyH_take (i := 24) (oi := { dst := some 41, op := Op.load 3 (Operand.tmp 40), type := 3, pos := "ref.go:37", after := #[{ on := 23, ground := Ground.data }, { on := 22, ground := Ground.guard }], guard := some (22, true) }) (v := ?_) rfl (by kernel_rfl) (by kernel_rfl) (by kernel_rfl) (fun _ _ _ h => h) (Or.inl ⟨by rfl, ?_⟩) (by assumption) ?_
      rotate_left 1
      · intro w hSw
        have q0 := cellAt (i := 5) (v := .int .i64 tl) hSw.hX rfl
        go_simp
        first | done | with_reducible rfl
      try simp only [Act.put, List.setIfInBounds_toArray, List.set_cons_zero, List.set_cons_succ]
      refine wpAnyH_ready (rs := [25]) (by kernel_rfl) (by simp) ?_
      refine AllReadyH.cons (o := { dst := some 42, op := Op.call { callee := Callee.value (Operand.func 42), args := #[Operand.tmp 41, Operand.const (Value.int IntKind.i64 255)], argTypes := #[3, 3] }, type := 4, pos := "ref.go:37", after := #[{ on := 24, ground := Ground.data }, { on := 22, ground := Ground.chain }, { on := 22, ground := Ground.guard }], guard := some (22, true) }) rfl (fun K hK => ?_) AllReadyH.nil
      go_simp
      (go_at_call 42; (with_reducible refine (I1.out _).mono ?_); rintro e w5 ⟨rfl, hw5⟩; replace hw5 := hw5.symm; subst hw5)
      go_simp
      refine hK.out _ _ hHeld (fun hHeld => ?_)
      clear hK K
      try simp only [Act.put, List.setIfInBounds_toArray, List.set_cons_zero, List.set_cons_succ]
      refine wpAnyH_take (i := 26) (oi := { dst := some 43, op := Op.pick (Operand.tmp 39) (Operand.tmp 42) (Operand.const (Value.bool false)), type := 4, pos := "ref.go:37", after := #[{ on := 22, ground := Ground.data }, { on := 25, ground := Ground.data }], guard := none }) (v := ?_) rfl (by kernel_rfl) (by kernel_rfl) (by kernel_rfl) (fun _ _ _ h => h) (Or.inl ⟨by rfl, ?_⟩) (by assumption) ?_
      rotate_left 1
      · intro w hSw
        go_simp
        first | done | with_reducible rfl
      try simp only [Act.put, List.setIfInBounds_toArray, List.set_cons_zero, List.set_cons_succ]
      refine wpAnyH_take (i := 27) (oi := { dst := some 44, op := Op.move (Operand.tmp 43), type := 4, pos := "ref.go:37", after := #[{ on := 26, ground := Ground.data }, { on := 25, ground := Ground.chain }], guard := none }) (v := ?_) rfl (by kernel_rfl) (by kernel_rfl) (by kernel_rfl) (fun _ _ _ h => h) (Or.inl ⟨by rfl, ?_⟩) (by assumption) ?_
      rotate_left 1
      · intro w hSw
        go_simp
        first | done | with_reducible rfl
      try simp only [Act.put, List.setIfInBounds_toArray, List.set_cons_zero, List.set_cons_succ]
      refine wpAnyH_take (i := 28) (oi := { dst := some 45, op := Op.fieldAddr 25 (Operand.tmp 1) 6, type := 0, pos := "ref.go:37", after := #[{ on := 27, ground := Ground.guard }], guard := some (27, true) }) (v := ?_) rfl (by kernel_rfl) (by kernel_rfl) (by kernel_rfl) (fun _ _ _ h => h) (Or.inl ⟨by rfl, ?_⟩) (by assumption) ?_
      rotate_left 1
      · intro w hSw
        go_simp
        first | done | with_reducible rfl
      try simp only [Act.put, List.setIfInBounds_toArray, List.set_cons_zero, List.set_cons_succ]
      refine wpAnyH_take (i := 29) (oi := { dst := some 46, op := Op.load 3 (Operand.tmp 45), type := 3, pos := "ref.go:37", after := #[{ on := 28, ground := Ground.data }, { on := 27, ground := Ground.guard }], guard := some (27, true) }) (v := ?_) rfl (by kernel_rfl) (by kernel_rfl) (by kernel_rfl) (fun _ _ _ h => h) (Or.inl ⟨by rfl, ?_⟩) (by assumption) ?_
      rotate_left 1
      · intro w hSw
        have q0 := cellAt (i := 6) (v := .int .i64 ts) hSw.hX rfl
        go_simp
        first | done | with_reducible rfl
      try simp only [Act.put, List.setIfInBounds_toArray, List.set_cons_zero, List.set_cons_succ]
      refine wpAnyH_ready (rs := [30]) (by kernel_rfl) (by simp) ?_
      refine AllReadyH.cons (o := { dst := some 47, op := Op.call { callee := Callee.value (Operand.func 42), args := #[Operand.tmp 46, Operand.const (Value.int IntKind.i64 255)], argTypes := #[3, 3] }, type := 4, pos := "ref.go:37", after := #[{ on := 29, ground := Ground.data }, { on := 27, ground := Ground.chain }, { on := 27, ground := Ground.guard }], guard := some (27, true) }) rfl (fun K hK => ?_) AllReadyH.nil
      go_simp
      (go_at_call 42; (with_reducible refine (I2.out _).mono ?_); rintro e w5 ⟨rfl, hw5⟩; replace hw5 := hw5.symm; subst hw5)
      go_simp
      refine hK.out _ _ hHeld (fun hHeld => ?_)
      clear hK K
      try simp only [Act.put, List.setIfInBounds_toArray, List.set_cons_zero, List.set_cons_succ]
      refine wpAnyH_take (i := 31) (oi := { dst := some 48, op := Op.pick (Operand.tmp 44) (Operand.tmp 47) (Operand.const (Value.bool false)), type := 4, pos := "ref.go:37", after := #[{ on := 27, ground := Ground.data }, { on := 30, ground := Ground.data }, { on := 32, ground := Ground.gcOnly Departure.lateStores }], guard := none }) (v := ?_) rfl (by kernel_rfl) (by kernel_rfl) (by kernel_rfl) (fun _ _ _ h => h) (Or.inl ⟨by rfl, ?_⟩) (by assumption) ?_
      rotate_left 1
      · intro w hSw
        go_simp
        first | done | with_reducible rfl
      try simp only [Act.put, List.setIfInBounds_toArray, List.set_cons_zero, List.set_cons_succ]
      refine wpAnyH_ready (rs := [32]) (by kernel_rfl) (by simp) ?_
      refine AllReadyH.cons (o := { dst := some 2, op := Op.assign (Operand.tmp 35), type := 9, pos := "ref.go:37", after := #[{ on := 18, ground := Ground.data }, { on := 30, ground := Ground.chain }, { on := 0, ground := Ground.phase }, { on := 1, ground := Ground.phase }, { on := 2, ground := Ground.phase }, { on := 3, ground := Ground.phase }, { on := 4, ground := Ground.phase }, { on := 5, ground := Ground.phase }, { on := 6, ground := Ground.phase }, { on := 7, ground := Ground.phase }, { on := 8, ground := Ground.phase }, { on := 9, ground := Ground.phase }, { on := 10, ground := Ground.phase }, { on := 11, ground := Ground.phase }, { on := 12, ground := Ground.phase }, { on := 13, ground := Ground.phase }, { on := 14, ground := Ground.phase }, { on := 15, ground := Ground.phase }, { on := 16, ground := Ground.phase }, { on := 17, ground := Ground.phase }, { on := 18, ground := Ground.phase }, { on := 19, ground := Ground.textOnly Departure.lateStores }, { on := 20, ground := Ground.textOnly Departure.lateStores }, { on := 21, ground := Ground.textOnly Departure.lateStoresUnsure }, { on := 22, ground := Ground.textOnly Departure.lateStores }, { on := 23, ground := Ground.textOnly Departure.lateStores }, { on := 24, ground := Ground.textOnly Departure.lateStores }, { on := 25, ground := Ground.textOnly Departure.lateStoresUnsure }, { on := 26, ground := Ground.textOnly Departure.lateStores }, { on := 27, ground := Ground.textOnly Departure.lateStores }, { on := 28, ground := Ground.textOnly Departure.lateStores }, { on := 29, ground := Ground.textOnly Departure.lateStores }, { on := 30, ground := Ground.textOnly Departure.lateStoresUnsure }, { on := 31, ground := Ground.textOnly Departure.lateStores }], guard := none }) rfl (fun K hK => ?_) AllReadyH.nil
      go_simp
      refine hK.out _ _ hHeld (fun hHeld => ?_)
      clear hK K
      try simp only [Act.put, List.setIfInBounds_toArray, List.set_cons_zero, List.set_cons_succ]
      refine wpAnyH_ready (rs := [33]) (by kernel_rfl) (by simp) ?_
      refine AllReadyH.cons (o := { dst := some 3, op := Op.assign (Operand.tmp 48), type := 4, pos := "ref.go:37", after := #[{ on := 31, ground := Ground.data }, { on := 32, ground := Ground.chain }, { on := 0, ground := Ground.phase }, { on := 1, ground := Ground.phase }, { on := 2, ground := Ground.phase }, { on := 3, ground := Ground.phase }, { on := 4, ground := Ground.phase }, { on := 5, ground := Ground.phase }, { on := 6, ground := Ground.phase }, { on := 7, ground := Ground.phase }, { on := 8, ground := Ground.phase }, { on := 9, ground := Ground.phase }, { on := 10, ground := Ground.phase }, { on := 11, ground := Ground.phase }, { on := 12, ground := Ground.phase }, { on := 13, ground := Ground.phase }, { on := 14, ground := Ground.phase }, { on := 15, ground := Ground.phase }, { on := 16, ground := Ground.phase }, { on := 17, ground := Ground.phase }, { on := 18, ground := Ground.phase }, { on := 19, ground := Ground.phase }, { on := 20, ground := Ground.phase }, { on := 21, ground := Ground.phase }, { on := 22, ground := Ground.phase }, { on := 23, ground := Ground.phase }, { on := 24, ground := Ground.phase }, { on := 25, ground := Ground.phase }, { on := 26, ground := Ground.phase }, { on := 27, ground := Ground.phase }, { on := 28, ground := Ground.phase }, { on := 29, ground := Ground.phase }, { on := 30, ground := Ground.phase }, { on := 31, ground := Ground.phase }, { on := 32, ground := Ground.phase }], guard := none }) rfl (fun K hK => ?_) AllReadyH.nil
      go_simp
      refine hK.out _ _ hHeld (fun hHeld => ?_)
      clear hK K
      try simp only [Act.put, List.setIfInBounds_toArray, List.set_cons_zero, List.set_cons_succ]
      refine wpAnyH_done (by kernel_rfl) ?_ _
      refine NoPanic.normal ?_
      try simp only [Exit.then]
      go_wp2_with (fail)
      go_ret2
      exact ⟨by rw [← HC.out, ← HJ.out]; rfl, hHeld.bl⟩
end Go.Proofs.Ytmijfhfjhbckdaa
