import Derived.Test.YtmijfhfjhbckdaaRPut
/- The document's PutConfig. -/
namespace Go.Proofs.Ytmijfhfjhbckdaa
set_option maxRecDepth 100000
open Go.RowKit
set_option maxHeartbeats 16000000 in
theorem rputcfg_any (y0 : ByteArray) (y1 : Int) (y2 y3 : Bool) (y4 : Nat) (y5 : Bool) (y6 y7 y8 : Int) (z0 z1 z2 : Int) (w : World) (hs : y0.size ≤ 1000000) (h4 : y4 < 4294967296) :
    Calls Try.prog 16 #[.agg #[.string y0, .int .i64 y1, .bool y2, .bool y3, .int .u32 (y4 : Nat), .bool y5, .int .i64 y6, .int .i64 y7, .int .i64 y8], .agg #[.int .i64 z0, .int .i64 z1, .int .i64 z2]] w fun e w' => e = .returned (cfgR (cfgOk y0 y1 y2 y3 y4 y5 y6 y7 y8 z0 z1 z2) (cfgB y0 y1 y2 y3 y4 y5 y6 y7 y8 z0 z1 z2)) ∧ Below w.heap.size w w' := by
  obtain ⟨W, hW⟩ : ∃ W, W = (w.alloc (.cells #[.string y0, .int .i64 y1, .bool y2, .bool y3, .int .u32 (y4 : Nat), .bool y5, .int .i64 y6, .int .i64 y7, .int .i64 y8] 27)).alloc (.cells #[.int .i64 z0, .int .i64 z1, .int .i64 z2] 29) := ⟨_, rfl⟩
  obtain ⟨A, hA⟩ : ∃ x, x = w.heap.size := ⟨_, rfl⟩
  obtain ⟨B, hB⟩ : ∃ x, x = w.heap.size + 1 := ⟨_, rfl⟩
  have T0 := Two.lay (C := #[.string y0, .int .i64 y1, .bool y2, .bool y3, .int .u32 (y4 : Nat), .bool y5, .int .i64 y6, .int .i64 y7, .int .i64 y8]) (S := #[.int .i64 z0, .int .i64 z1, .int .i64 z2]) (Below.refl w.heap.size w)
  rw [← hB, ← hA, ← hW] at T0
  have a1 := cellAt (i := 1) (v := .int .i64 y1) T0.hA rfl
  have a2 := cellAt (i := 2) (v := .bool y2) T0.hA rfl
  have a3 := cellAt (i := 3) (v := .bool y3) T0.hA rfl
  have a4 := cellAt (i := 4) (v := .int .u32 (y4 : Nat)) T0.hA rfl
  have a5 := cellAt (i := 5) (v := .bool y5) T0.hA rfl
  have a6 := cellAt (i := 6) (v := .int .i64 y6) T0.hA rfl
  have a7 := cellAt (i := 7) (v := .int .i64 y7) T0.hA rfl
  have T0' := Lib.hid T0
  obtain ⟨T, hT⟩ : ∃ T, T = byte3 y1 y6 y7 := ⟨_, rfl⟩
  obtain ⟨L4, hL4⟩ : ∃ L, L = (y0.size == 4) := ⟨_, rfl⟩
  have l4 : ((y0.size : Int) != 4) = !L4 := by rw [hL4, Bool.eq_iff_iff]; simp; omega
  obtain ⟨F, hF⟩ : ∃ F, F = fits y8 := ⟨_, rfl⟩
  obtain ⟨E, hE⟩ : ∃ F, F = decide (0 ≤ z0 ∧ z0 ≤ 255) := ⟨_, rfl⟩
  obtain ⟨M, hM⟩ : ∃ F, F = decide (0 ≤ z1 ∧ z1 ≤ 4294967295) := ⟨_, rfl⟩
  obtain ⟨L, hL⟩ : ∃ F, F = decide (0 ≤ z2 ∧ z2 ≤ 255) := ⟨_, rfl⟩
  have HOK2 : Hid (cfgOk y0 y1 y2 y3 y4 y5 y6 y7 y8 z0 z1 z2 = (T && (L4 && (F && (E && (M && L)))))) := by
    show _ = _
    unfold cfgOk byte2
    rw [← hT, ← hL4, ← hF, hE, hM, hL, Bool.eq_iff_iff]
    simp only [Bool.and_eq_true, decide_eq_true_eq]
    constructor
    · rintro ⟨h1, h2, h3, ⟨h5, h6⟩, h7⟩; exact ⟨h1, h2, h3, h5, h7, h6⟩
    · rintro ⟨h1, h2, h3, h5, h7, h6⟩; exact ⟨h1, h2, h3, ⟨h5, h6⟩, h7⟩
  have I1 : Hid (∀ V, Calls Try.prog 42 #[.int .i64 y8, .int .i64 65535] V fun e w' => e = .returned (.bool F) ∧ w' = V) := fun V => by rw [hF]; exact rin_any y8 65535 V
  have I2 : Hid (∀ V, Calls Try.prog 42 #[.int .i64 z0, .int .i64 255] V fun e w' => e = .returned (.bool E) ∧ w' = V) := fun V => by rw [hE]; exact rin_any z0 255 V
  have I3 : Hid (∀ V, Calls Try.prog 42 #[.int .i64 z1, .int .i64 4294967295] V fun e w' => e = .returned (.bool M) ∧ w' = V) := fun V => by rw [hM]; exact rin_any z1 4294967295 V
  have I4 : Hid (∀ V, Calls Try.prog 42 #[.int .i64 z2, .int .i64 255] V fun e w' => e = .returned (.bool L) ∧ w' = V) := fun V => by rw [hL]; exact rin_any z2 255 V
  have HM : Hid (M = true → u64 z1 = u32 z1) := fun h => by
    rw [hM] at h
    have := of_decide_eq_true h
    unfold u64 u32; omega
  obtain ⟨s0, hs0⟩ : ∃ s, s = bs (tunB y1 y2 y3 y4 y5 y6 y7) := ⟨_, rfl⟩
  have zs0 : s0.size = 8 := by rw [hs0, bs_size, tunB_length]
  have TN : Hid (∀ V, Calls Try.prog 47 #[.agg #[.int .i64 y1, .bool y2, .bool y3, .int .u32 (y4 : Nat), .bool y5, .int .i64 y6, .int .i64 y7]] V fun e w' => e = .returned (.tuple #[.string s0, .bool T]) ∧ Below V.heap.size V w') := fun V => by rw [hs0, hT]; exact rtun_any y1 y2 y3 y4 y5 y6 y7 V h4
  obtain ⟨s1, hs1⟩ : ∃ s, s = bs (be (u64 y8) 2) := ⟨_, rfl⟩
  obtain ⟨s2, hs2⟩ : ∃ s, s = bs (be (u64 z0) 1) := ⟨_, rfl⟩
  obtain ⟨s3, hs3⟩ : ∃ s, s = bs (be (u64 z1) 4) := ⟨_, rfl⟩
  obtain ⟨s4, hs4⟩ : ∃ s, s = bs (be (u64 z2) 1) := ⟨_, rfl⟩
  have zs1 : s1.size = 2 := by rw [hs1, bs_size, be_length]
  have zs2 : s2.size = 1 := by rw [hs2, bs_size, be_length]
  have zs3 : s3.size = 4 := by rw [hs3, bs_size, be_length]
  have zs4 : s4.size = 1 := by rw [hs4, bs_size, be_length]
  have N1 : Hid (∀ V, Calls Try.prog 44 #[.int .i64 y8, .int .i64 2] V fun e w' => e = .returned (.string s1) ∧ Below V.heap.size V w') := fun V => by rw [hs1]; exact rnum_any y8 2 V (by omega)
  have N2 : Hid (∀ V, Calls Try.prog 44 #[.int .i64 z0, .int .i64 1] V fun e w' => e = .returned (.string s2) ∧ Below V.heap.size V w') := fun V => by rw [hs2]; exact rnum_any z0 1 V (by omega)
  have N3 : Hid (∀ V, Calls Try.prog 44 #[.int .i64 z1, .int .i64 4] V fun e w' => e = .returned (.string s3) ∧ Below V.heap.size V w') := fun V => by rw [hs3]; exact rnum_any z1 4 V (by omega)
  have N4 : Hid (∀ V, Calls Try.prog 44 #[.int .i64 z2, .int .i64 1] V fun e w' => e = .returned (.string s4) ∧ Below V.heap.size V w') := fun V => by rw [hs4]; exact rnum_any z2 1 V (by omega)
  obtain ⟨c1, k1⟩ : ∃ c, c = s0 ++ y0 := ⟨_, rfl⟩
  obtain ⟨c2, k2⟩ : ∃ c, c = c1 ++ s1 := ⟨_, rfl⟩
  obtain ⟨c3, k3⟩ : ∃ c, c = c2 ++ s2 := ⟨_, rfl⟩
  obtain ⟨c4, k4⟩ : ∃ c, c = c3 ++ s3 := ⟨_, rfl⟩
  obtain ⟨c5, k5⟩ : ∃ c, c = c4 ++ s4 := ⟨_, rfl⟩
  have x1 : c1.size = 8 + y0.size := by rw [k1, ByteArray.size_append, zs0]
  have x2 : c2.size = 10 + y0.size := by rw [k2, ByteArray.size_append, x1, zs1]; omega
  have x3 : c3.size = 11 + y0.size := by rw [k3, ByteArray.size_append, x2, zs2]; omega
  have x4 : c4.size = 15 + y0.size := by rw [k4, ByteArray.size_append, x3, zs3]; omega
  have r1 := cat_run s0 y0 c1 k1 (by omega)
  have r2 := cat_run c1 s1 c2 k2 (by omega)
  have r3 := cat_run c2 s2 c3 k3 (by omega)
  have r4 := cat_run c3 s3 c4 k4 (by omega)
  have r5 := cat_run c4 s4 c5 k5 (by omega)
  have HC0 : Hid (u64 z1 = u32 z1 → bs (cfgB y0 y1 y2 y3 y4 y5 y6 y7 y8 z0 z1 z2) = c5) := fun hu => by
    unfold cfgB
    rw [k5, k4, k3, k2, k1, hs0, hs1, hs2, hs3, hs4, hu, ← bs_of y0, bs_append, bs_append, bs_append, bs_append, bs_append, bs_of]
    simp only [List.append_assoc]
  clear hT hL4 hF hE hM hL hs0 hs1 hs2 hs3 hs4 zs0 zs1 zs2 zs3 zs4 k1 k2 k3 k4 k5 x1 x2 x3 x4 hs h4 T0
  go_enter Try.func16, Try.ntmps16
  go_upto_region 1 with (fail)
  rw [← hW, ← hB, ← hA]
  clear hW hB hA
  go_wp2_with (fail)
  (with_reducible refine (TN.out _).mono ?_)
  rintro e w1 ⟨rfl, hb1⟩
  have T1 := Lib.hid (T0'.out.below hb1)
  clear TN hb1 T0' a1 a2 a3 a4 a5 a6 a7
  have a0 := cellAt (i := 0) (v := .string y0) T1.out.hA rfl
  have a8 := cellAt (i := 8) (v := .int .i64 y8) T1.out.hA rfl
  have b0 := cellAt (i := 0) (v := .int .i64 z0) T1.out.hB rfl
  have b1 := cellAt (i := 1) (v := .int .i64 z1) T1.out.hB rfl
  have b2 := cellAt (i := 2) (v := .int .i64 z2) T1.out.hB rfl
  cases T with
  | false =>
    go_wp2_with (first | (go_at_call 42; (with_reducible refine (I1.out _).mono ?_); rintro e w5 ⟨rfl, hw5⟩; replace hw5 := hw5.symm; subst hw5) | (go_at_call 42; (with_reducible refine (I2.out _).mono ?_); rintro e w5 ⟨rfl, hw5⟩; replace hw5 := hw5.symm; subst hw5) | (go_at_call 42; (with_reducible refine (I3.out _).mono ?_); rintro e w5 ⟨rfl, hw5⟩; replace hw5 := hw5.symm; subst hw5) | (go_at_call 42; (with_reducible refine (I4.out _).mono ?_); rintro e w5 ⟨rfl, hw5⟩; replace hw5 := hw5.symm; subst hw5))
    go_ret2
    exact ⟨by rw [HOK2.out]; rfl, T1.out.bl⟩
  | true =>
    cases L4 with
    | false =>
      go_wp2_with (first | (go_at_call 42; (with_reducible refine (I1.out _).mono ?_); rintro e w5 ⟨rfl, hw5⟩; replace hw5 := hw5.symm; subst hw5) | (go_at_call 42; (with_reducible refine (I2.out _).mono ?_); rintro e w5 ⟨rfl, hw5⟩; replace hw5 := hw5.symm; subst hw5) | (go_at_call 42; (with_reducible refine (I3.out _).mono ?_); rintro e w5 ⟨rfl, hw5⟩; replace hw5 := hw5.symm; subst hw5) | (go_at_call 42; (with_reducible refine (I4.out _).mono ?_); rintro e w5 ⟨rfl, hw5⟩; replace hw5 := hw5.symm; subst hw5))
      go_ret2
      exact ⟨by rw [HOK2.out]; rfl, T1.out.bl⟩
    | true =>
      cases F with
      | false =>
        go_wp2_with (first | (go_at_call 42; (with_reducible refine (I1.out _).mono ?_); rintro e w5 ⟨rfl, hw5⟩; replace hw5 := hw5.symm; subst hw5) | (go_at_call 42; (with_reducible refine (I2.out _).mono ?_); rintro e w5 ⟨rfl, hw5⟩; replace hw5 := hw5.symm; subst hw5) | (go_at_call 42; (with_reducible refine (I3.out _).mono ?_); rintro e w5 ⟨rfl, hw5⟩; replace hw5 := hw5.symm; subst hw5) | (go_at_call 42; (with_reducible refine (I4.out _).mono ?_); rintro e w5 ⟨rfl, hw5⟩; replace hw5 := hw5.symm; subst hw5))
        go_ret2
        exact ⟨by rw [HOK2.out]; rfl, T1.out.bl⟩
      | true =>
        cases E with
        | false =>
          go_wp2_with (first | (go_at_call 42; (with_reducible refine (I1.out _).mono ?_); rintro e w5 ⟨rfl, hw5⟩; replace hw5 := hw5.symm; subst hw5) | (go_at_call 42; (with_reducible refine (I2.out _).mono ?_); rintro e w5 ⟨rfl, hw5⟩; replace hw5 := hw5.symm; subst hw5) | (go_at_call 42; (with_reducible refine (I3.out _).mono ?_); rintro e w5 ⟨rfl, hw5⟩; replace hw5 := hw5.symm; subst hw5) | (go_at_call 42; (with_reducible refine (I4.out _).mono ?_); rintro e w5 ⟨rfl, hw5⟩; replace hw5 := hw5.symm; subst hw5))
          go_ret2
          exact ⟨by rw [HOK2.out]; rfl, T1.out.bl⟩
        | true =>
          cases M with
          | false =>
            go_wp2_with (first | (go_at_call 42; (with_reducible refine (I1.out _).mono ?_); rintro e w5 ⟨rfl, hw5⟩; replace hw5 := hw5.symm; subst hw5) | (go_at_call 42; (with_reducible refine (I2.out _).mono ?_); rintro e w5 ⟨rfl, hw5⟩; replace hw5 := hw5.symm; subst hw5) | (go_at_call 42; (with_reducible refine (I3.out _).mono ?_); rintro e w5 ⟨rfl, hw5⟩; replace hw5 := hw5.symm; subst hw5) | (go_at_call 42; (with_reducible refine (I4.out _).mono ?_); rintro e w5 ⟨rfl, hw5⟩; replace hw5 := hw5.symm; subst hw5))
            go_ret2
            exact ⟨by rw [HOK2.out]; rfl, T1.out.bl⟩
          | true =>
            cases L with
            | false =>
              go_wp2_with (first | (go_at_call 42; (with_reducible refine (I1.out _).mono ?_); rintro e w5 ⟨rfl, hw5⟩; replace hw5 := hw5.symm; subst hw5) | (go_at_call 42; (with_reducible refine (I2.out _).mono ?_); rintro e w5 ⟨rfl, hw5⟩; replace hw5 := hw5.symm; subst hw5) | (go_at_call 42; (with_reducible refine (I3.out _).mono ?_); rintro e w5 ⟨rfl, hw5⟩; replace hw5 := hw5.symm; subst hw5) | (go_at_call 42; (with_reducible refine (I4.out _).mono ?_); rintro e w5 ⟨rfl, hw5⟩; replace hw5 := hw5.symm; subst hw5))
              go_ret2
              exact ⟨by rw [HOK2.out]; rfl, T1.out.bl⟩
            | true =>
              go_upto_region 4 with (first | (go_at_call 42; (with_reducible refine (I1.out _).mono ?_); rintro e w5 ⟨rfl, hw5⟩; replace hw5 := hw5.symm; subst hw5) | (go_at_call 42; (with_reducible refine (I2.out _).mono ?_); rintro e w5 ⟨rfl, hw5⟩; replace hw5 := hw5.symm; subst hw5) | (go_at_call 42; (with_reducible refine (I3.out _).mono ?_); rintro e w5 ⟨rfl, hw5⟩; replace hw5 := hw5.symm; subst hw5) | (go_at_call 42; (with_reducible refine (I4.out _).mono ?_); rintro e w5 ⟨rfl, hw5⟩; replace hw5 := hw5.symm; subst hw5))
              have HC : Hid (cfgB y0 y1 y2 y3 y4 y5 y6 y7 y8 z0 z1 z2 = c5.data.toList) := by show _ = _; rw [← HC0.out (HM.out (by trivial))]; rfl
              refine wp_region_noPanic ?_
              refine wp_region_held_drew (S := Two A B #[.string y0, .int .i64 y1, .bool y2, .bool y3, .int .u32 (y4 : Nat), .bool y5, .int .i64 y6, .int .i64 y7, .int .i64 y8] #[.int .i64 z0, .int .i64 z1, .int .i64 z2] w) (by kernel_rfl) (T1.out.below (Below.refl _ _).drew) (fun hHeld => ?_)
              refine wpAnyH_take (i := 0) (oi := { dst := some 46, op := Op.move (Operand.tmp 6), type := 9, pos := "ref.go:164", after := #[], guard := none }) (v := ?_) rfl (by kernel_rfl) (by kernel_rfl) (by kernel_rfl) (fun _ _ _ h => h) (Or.inl ⟨by rfl, ?_⟩) (by assumption) ?_
              rotate_left 1
              · intro w hSw
                go_simp
                first | done | with_reducible rfl
              try simp only [Act.put, List.setIfInBounds_toArray, List.set_cons_zero, List.set_cons_succ]
              refine wpAnyH_take (i := 1) (oi := { dst := some 47, op := Op.fieldAddr 27 (Operand.tmp 2) 0, type := 0, pos := "ref.go:164", after := #[], guard := none }) (v := ?_) rfl (by kernel_rfl) (by kernel_rfl) (by kernel_rfl) (fun _ _ _ h => h) (Or.inl ⟨by rfl, ?_⟩) (by assumption) ?_
              rotate_left 1
              · intro w hSw
                go_simp
                first | done | with_reducible rfl
              try simp only [Act.put, List.setIfInBounds_toArray, List.set_cons_zero, List.set_cons_succ]
              refine wpAnyH_take (i := 2) (oi := { dst := some 48, op := Op.load 9 (Operand.tmp 47), type := 9, pos := "ref.go:164", after := #[{ on := 1, ground := Ground.data }], guard := none }) (v := ?_) rfl (by kernel_rfl) (by kernel_rfl) (by kernel_rfl) (fun _ _ _ h => h) (Or.inl ⟨by rfl, ?_⟩) (by assumption) ?_
              rotate_left 1
              · intro w hSw
                have q0 := cellAt (i := 0) (v := .string y0) hSw.hA rfl
                go_simp
                first | done | with_reducible rfl
              try simp only [Act.put, List.setIfInBounds_toArray, List.set_cons_zero, List.set_cons_succ]
              refine wpAnyH_take (i := 3) (oi := { dst := some 49, op := Op.binOp BinOp.add 9 (Operand.tmp 46) (Operand.tmp 48) 9, type := 9, pos := "ref.go:164", after := #[{ on := 0, ground := Ground.data }, { on := 2, ground := Ground.data }], guard := none }) (v := ?_) rfl (by kernel_rfl) (by kernel_rfl) (by kernel_rfl) (fun _ _ _ h => h) (Or.inl ⟨by rfl, ?_⟩) (by assumption) ?_
              rotate_left 1
              · intro w hSw
                go_simp
                first | done | with_reducible rfl
              try simp only [Act.put, List.setIfInBounds_toArray, List.set_cons_zero, List.set_cons_succ]
              refine wpAnyH_take (i := 4) (oi := { dst := some 50, op := Op.fieldAddr 27 (Operand.tmp 2) 2, type := 0, pos := "ref.go:164", after := #[], guard := none }) (v := ?_) rfl (by kernel_rfl) (by kernel_rfl) (by kernel_rfl) (fun _ _ _ h => h) (Or.inl ⟨by rfl, ?_⟩) (by assumption) ?_
              rotate_left 1
              · intro w hSw
                go_simp
                first | done | with_reducible rfl
              try simp only [Act.put, List.setIfInBounds_toArray, List.set_cons_zero, List.set_cons_succ]
              refine wpAnyH_take (i := 5) (oi := { dst := some 51, op := Op.load 3 (Operand.tmp 50), type := 3, pos := "ref.go:164", after := #[{ on := 4, ground := Ground.data }], guard := none }) (v := ?_) rfl (by kernel_rfl) (by kernel_rfl) (by kernel_rfl) (fun _ _ _ h => h) (Or.inl ⟨by rfl, ?_⟩) (by assumption) ?_
              rotate_left 1
              · intro w hSw
                have q0 := cellAt (i := 8) (v := .int .i64 y8) hSw.hA rfl
                go_simp
                first | done | with_reducible rfl
              try simp only [Act.put, List.setIfInBounds_toArray, List.set_cons_zero, List.set_cons_succ]
              refine wpAnyH_take (i := 8) (oi := { dst := some 54, op := Op.fieldAddr 29 (Operand.tmp 3) 0, type := 0, pos := "ref.go:164", after := #[], guard := none }) (v := ?_) rfl (by kernel_rfl) (by kernel_rfl) (by kernel_rfl) (fun _ _ _ h => h) (Or.inl ⟨by rfl, ?_⟩) (by assumption) ?_
              rotate_left 1
              · intro w hSw
                go_simp
                first | done | with_reducible rfl
              try simp only [Act.put, List.setIfInBounds_toArray, List.set_cons_zero, List.set_cons_succ]
              refine wpAnyH_take (i := 9) (oi := { dst := some 55, op := Op.load 3 (Operand.tmp 54), type := 3, pos := "ref.go:164", after := #[{ on := 8, ground := Ground.data }], guard := none }) (v := ?_) rfl (by kernel_rfl) (by kernel_rfl) (by kernel_rfl) (fun _ _ _ h => h) (Or.inl ⟨by rfl, ?_⟩) (by assumption) ?_
              rotate_left 1
              · intro w hSw
                have q0 := cellAt (i := 0) (v := .int .i64 z0) hSw.hB rfl
                go_simp
                first | done | with_reducible rfl
              try simp only [Act.put, List.setIfInBounds_toArray, List.set_cons_zero, List.set_cons_succ]
              refine wpAnyH_take (i := 12) (oi := { dst := some 58, op := Op.fieldAddr 29 (Operand.tmp 3) 1, type := 0, pos := "ref.go:164", after := #[], guard := none }) (v := ?_) rfl (by kernel_rfl) (by kernel_rfl) (by kernel_rfl) (fun _ _ _ h => h) (Or.inl ⟨by rfl, ?_⟩) (by assumption) ?_
              rotate_left 1
              · intro w hSw
                go_simp
                first | done | with_reducible rfl
              try simp only [Act.put, List.setIfInBounds_toArray, List.set_cons_zero, List.set_cons_succ]
              refine wpAnyH_take (i := 13) (oi := { dst := some 59, op := Op.load 3 (Operand.tmp 58), type := 3, pos := "ref.go:164", after := #[{ on := 12, ground := Ground.data }], guard := none }) (v := ?_) rfl (by kernel_rfl) (by kernel_rfl) (by kernel_rfl) (fun _ _ _ h => h) (Or.inl ⟨by rfl, ?_⟩) (by assumption) ?_
              rotate_left 1
              · intro w hSw
                have q0 := cellAt (i := 1) (v := .int .i64 z1) hSw.hB rfl
                go_simp
                first | done | with_reducible rfl
              try simp only [Act.put, List.setIfInBounds_toArray, List.set_cons_zero, List.set_cons_succ]
              refine wpAnyH_take (i := 16) (oi := { dst := some 62, op := Op.fieldAddr 29 (Operand.tmp 3) 2, type := 0, pos := "ref.go:164", after := #[], guard := none }) (v := ?_) rfl (by kernel_rfl) (by kernel_rfl) (by kernel_rfl) (fun _ _ _ h => h) (Or.inl ⟨by rfl, ?_⟩) (by assumption) ?_
              rotate_left 1
              · intro w hSw
                go_simp
                first | done | with_reducible rfl
              try simp only [Act.put, List.setIfInBounds_toArray, List.set_cons_zero, List.set_cons_succ]
              refine wpAnyH_take (i := 17) (oi := { dst := some 63, op := Op.load 3 (Operand.tmp 62), type := 3, pos := "ref.go:164", after := #[{ on := 16, ground := Ground.data }], guard := none }) (v := ?_) rfl (by kernel_rfl) (by kernel_rfl) (by kernel_rfl) (fun _ _ _ h => h) (Or.inl ⟨by rfl, ?_⟩) (by assumption) ?_
              rotate_left 1
              · intro w hSw
                have q0 := cellAt (i := 2) (v := .int .i64 z2) hSw.hB rfl
                go_simp
                first | done | with_reducible rfl
              try simp only [Act.put, List.setIfInBounds_toArray, List.set_cons_zero, List.set_cons_succ]
              refine wpAnyH_ready (rs := [6]) (by kernel_rfl) (by simp) ?_
              refine AllReadyH.cons (o := { dst := some 52, op := Op.call { callee := Callee.value (Operand.func 44), args := #[Operand.tmp 51, Operand.const (Value.int IntKind.i64 2)], argTypes := #[3, 3] }, type := 9, pos := "ref.go:164", after := #[{ on := 5, ground := Ground.data }], guard := none }) rfl (fun K hK => ?_) AllReadyH.nil
              go_simp
              (go_at_call 44; (with_reducible refine (N1.out _).mono ?_); rintro e w5 ⟨rfl, hb5⟩)
              go_simp
              refine hK.out _ _ (hHeld.below hb5) (fun hHeld => ?_)
              clear hK K
              try simp only [Act.put, List.setIfInBounds_toArray, List.set_cons_zero, List.set_cons_succ]
              refine wpAnyH_take (i := 7) (oi := { dst := some 53, op := Op.binOp BinOp.add 9 (Operand.tmp 49) (Operand.tmp 52) 9, type := 9, pos := "ref.go:164", after := #[{ on := 3, ground := Ground.data }, { on := 6, ground := Ground.data }], guard := none }) (v := ?_) rfl (by kernel_rfl) (by kernel_rfl) (by kernel_rfl) (fun _ _ _ h => h) (Or.inl ⟨by rfl, ?_⟩) (by assumption) ?_
              rotate_left 1
              · intro w hSw
                go_simp
                first | done | with_reducible rfl
              try simp only [Act.put, List.setIfInBounds_toArray, List.set_cons_zero, List.set_cons_succ]
              refine wpAnyH_ready (rs := [10]) (by kernel_rfl) (by simp) ?_
              refine AllReadyH.cons (o := { dst := some 56, op := Op.call { callee := Callee.value (Operand.func 44), args := #[Operand.tmp 55, Operand.const (Value.int IntKind.i64 1)], argTypes := #[3, 3] }, type := 9, pos := "ref.go:164", after := #[{ on := 9, ground := Ground.data }, { on := 6, ground := Ground.chain }], guard := none }) rfl (fun K hK => ?_) AllReadyH.nil
              go_simp
              (go_at_call 44; (with_reducible refine (N2.out _).mono ?_); rintro e w5 ⟨rfl, hb5⟩)
              go_simp
              refine hK.out _ _ (hHeld.below hb5) (fun hHeld => ?_)
              clear hK K
              try simp only [Act.put, List.setIfInBounds_toArray, List.set_cons_zero, List.set_cons_succ]
              refine wpAnyH_take (i := 11) (oi := { dst := some 57, op := Op.binOp BinOp.add 9 (Operand.tmp 53) (Operand.tmp 56) 9, type := 9, pos := "ref.go:164", after := #[{ on := 7, ground := Ground.data }, { on := 10, ground := Ground.data }], guard := none }) (v := ?_) rfl (by kernel_rfl) (by kernel_rfl) (by kernel_rfl) (fun _ _ _ h => h) (Or.inl ⟨by rfl, ?_⟩) (by assumption) ?_
              rotate_left 1
              · intro w hSw
                go_simp
                first | done | with_reducible rfl
              try simp only [Act.put, List.setIfInBounds_toArray, List.set_cons_zero, List.set_cons_succ]
              refine wpAnyH_ready (rs := [14]) (by kernel_rfl) (by simp) ?_
              refine AllReadyH.cons (o := { dst := some 60, op := Op.call { callee := Callee.value (Operand.func 44), args := #[Operand.tmp 59, Operand.const (Value.int IntKind.i64 4)], argTypes := #[3, 3] }, type := 9, pos := "ref.go:164", after := #[{ on := 13, ground := Ground.data }, { on := 10, ground := Ground.chain }], guard := none }) rfl (fun K hK => ?_) AllReadyH.nil
              go_simp
              (go_at_call 44; (with_reducible refine (N3.out _).mono ?_); rintro e w5 ⟨rfl, hb5⟩)
              go_simp
              refine hK.out _ _ (hHeld.below hb5) (fun hHeld => ?_)
              clear hK K
              try simp only [Act.put, List.setIfInBounds_toArray, List.set_cons_zero, List.set_cons_succ]
              refine wpAnyH_take (i := 15) (oi := { dst := some 61, op := Op.binOp BinOp.add 9 (Operand.tmp 57) (Operand.tmp 60) 9, type := 9, pos := "ref.go:164", after := #[{ on := 11, ground := Ground.data }, { on := 14, ground := Ground.data }], guard := none }) (v := ?_) rfl (by kernel_rfl) (by kernel_rfl) (by kernel_rfl) (fun _ _ _ h => h) (Or.inl ⟨by rfl, ?_⟩) (by assumption) ?_
              rotate_left 1
              · intro w hSw
                go_simp
                first | done | with_reducible rfl
              try simp only [Act.put, List.setIfInBounds_toArray, List.set_cons_zero, List.set_cons_succ]
              refine wpAnyH_ready (rs := [18]) (by kernel_rfl) (by simp) ?_
              refine AllReadyH.cons (o := { dst := some 64, op := Op.call { callee := Callee.value (Operand.func 44), args := #[Operand.tmp 63, Operand.const (Value.int IntKind.i64 1)], argTypes := #[3, 3] }, type := 9, pos := "ref.go:164", after := #[{ on := 17, ground := Ground.data }, { on := 14, ground := Ground.chain }], guard := none }) rfl (fun K hK => ?_) AllReadyH.nil
              go_simp
              (go_at_call 44; (with_reducible refine (N4.out _).mono ?_); rintro e w5 ⟨rfl, hb5⟩)
              go_simp
              refine hK.out _ _ (hHeld.below hb5) (fun hHeld => ?_)
              clear hK K
              try simp only [Act.put, List.setIfInBounds_toArray, List.set_cons_zero, List.set_cons_succ]
              refine wpAnyH_take (i := 19) (oi := { dst := some 65, op := Op.binOp BinOp.add 9 (Operand.tmp 61) (Operand.tmp 64) 9, type := 9, pos := "ref.go:164", after := #[{ on := 15, ground := Ground.data }, { on := 18, ground := Ground.data }], guard := none }) (v := ?_) rfl (by kernel_rfl) (by kernel_rfl) (by kernel_rfl) (fun _ _ _ h => h) (Or.inl ⟨by rfl, ?_⟩) (by assumption) ?_
              rotate_left 1
              · intro w hSw
                go_simp
                first | done | with_reducible rfl
              try simp only [Act.put, List.setIfInBounds_toArray, List.set_cons_zero, List.set_cons_succ]
              refine wpAnyH_ready (rs := [20]) (by kernel_rfl) (by simp) ?_
              refine AllReadyH.cons (o := { dst := some 4, op := Op.assign (Operand.tmp 65), type := 9, pos := "ref.go:164", after := #[{ on := 19, ground := Ground.data }, { on := 18, ground := Ground.chain }, { on := 0, ground := Ground.phase }, { on := 1, ground := Ground.phase }, { on := 2, ground := Ground.phase }, { on := 3, ground := Ground.phase }, { on := 4, ground := Ground.phase }, { on := 5, ground := Ground.phase }, { on := 6, ground := Ground.phase }, { on := 7, ground := Ground.phase }, { on := 8, ground := Ground.phase }, { on := 9, ground := Ground.phase }, { on := 10, ground := Ground.phase }, { on := 11, ground := Ground.phase }, { on := 12, ground := Ground.phase }, { on := 13, ground := Ground.phase }, { on := 14, ground := Ground.phase }, { on := 15, ground := Ground.phase }, { on := 16, ground := Ground.phase }, { on := 17, ground := Ground.phase }, { on := 18, ground := Ground.phase }, { on := 19, ground := Ground.phase }], guard := none }) rfl (fun K hK => ?_) AllReadyH.nil
              go_simp
              refine hK.out _ _ hHeld (fun hHeld => ?_)
              clear hK K
              try simp only [Act.put, List.setIfInBounds_toArray, List.set_cons_zero, List.set_cons_succ]
              refine wpAnyH_ready (rs := [21]) (by kernel_rfl) (by simp) ?_
              refine AllReadyH.cons (o := { dst := some 5, op := Op.assign (Operand.const (Value.int IntKind.i64 0)), type := 3, pos := "ref.go:164", after := #[{ on := 20, ground := Ground.chain }, { on := 0, ground := Ground.phase }, { on := 1, ground := Ground.phase }, { on := 2, ground := Ground.phase }, { on := 3, ground := Ground.phase }, { on := 4, ground := Ground.phase }, { on := 5, ground := Ground.phase }, { on := 6, ground := Ground.phase }, { on := 7, ground := Ground.phase }, { on := 8, ground := Ground.phase }, { on := 9, ground := Ground.phase }, { on := 10, ground := Ground.phase }, { on := 11, ground := Ground.phase }, { on := 12, ground := Ground.phase }, { on := 13, ground := Ground.phase }, { on := 14, ground := Ground.phase }, { on := 15, ground := Ground.phase }, { on := 16, ground := Ground.phase }, { on := 17, ground := Ground.phase }, { on := 18, ground := Ground.phase }, { on := 19, ground := Ground.phase }, { on := 20, ground := Ground.phase }], guard := none }) rfl (fun K hK => ?_) AllReadyH.nil
              go_simp
              refine hK.out _ _ hHeld (fun hHeld => ?_)
              clear hK K
              try simp only [Act.put, List.setIfInBounds_toArray, List.set_cons_zero, List.set_cons_succ]
              refine wpAnyH_done (by kernel_rfl) ?_ _
              refine NoPanic.normal ?_
              try simp only [Exit.then]
              go_wp2_with (fail)
              go_ret2
              exact ⟨by rw [HOK2.out, HC.out]; rfl, hHeld.bl⟩
end Go.Proofs.Ytmijfhfjhbckdaa
