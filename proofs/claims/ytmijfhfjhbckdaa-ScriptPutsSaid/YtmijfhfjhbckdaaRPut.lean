import Derived.Test.YtmijfhfjhbckdaaRRest
/- The document's Put. -/
namespace Go.Proofs.Ytmijfhfjhbckdaa
set_option maxRecDepth 100000
open Go.RowKit
set_option maxHeartbeats 16000000 in
theorem rput_any (a : ActL) (h : a.ok) (w : World) : Calls Try.prog 15 #[.agg a.C] w fun e w' => e = .returned a.put ∧ Below w.heap.size w w' := by
  have hok := h
  have RR := Lib.hid (fun V => rrest_any a V)
  obtain ⟨rs, hrs⟩ : ∃ r, r = a.rest := ⟨_, rfl⟩
  rw [← hrs] at RR
  obtain ⟨ft, hft⟩ : ∃ r, r = a.fit := ⟨_, rfl⟩
  obtain ⟨res, hres⟩ : ∃ r, r = bs (be (u64 a.k) 1 ++ a.body) := ⟨_, rfl⟩
  have hput : a.put = if a.k < 0 ∨ 11 ≤ a.k then .tuple #[.string ⟨#[]⟩, .int .i64 9] else if rs then (if ft then .tuple #[.string res, .int .i64 0] else .tuple #[.string ⟨#[]⟩, .int .i64 1]) else .tuple #[.string ⟨#[]⟩, .int .i64 9] := by
    unfold ActL.put putR
    rw [← hrs, ← hft, ← hres]
  rw [hput]
  clear hput hrs
  have hok2 : (a.p.size ≤ 1000000 ∧ a.ad.size ≤ 1000000 ∧ a.wt < 18446744073709551616) ∧ a.va < 4294967296 := ⟨⟨h.p, h.ad, h.wt⟩, h.va⟩
  clear h hok
  obtain ⟨k, p, id, ad, wt, md, sm, ky, va, df, tl, ts, n, d⟩ := a
  have S0 := XS.lay w (ActL.C ⟨k, p, id, ad, wt, md, sm, ky, va, df, tl, ts, n, d⟩) 47
  unfold ActL.C
  unfold ActL.C at S0 RR
  simp only at S0 RR hok2 ⊢
  have HOK := Lib.hid hok2
  clear hok2
  obtain ⟨X, hX⟩ : ∃ X, X = w.heap.size := ⟨_, rfl⟩
  obtain ⟨W, hW⟩ : ∃ W, W = w.alloc (.cells #[.int .i64 k, .string p, .int .i64 id, .string ad, .float .f64 wt, .int .i64 md, .bool sm, .bool ky, .int .u32 (va : Nat), .bool df, .int .i64 tl, .int .i64 ts, .int .i64 n, .int .i64 d] 47) := ⟨_, rfl⟩
  rw [← hX, ← hW] at S0
  have a0 := cellAt (i := 0) (v := .int .i64 k) S0.hX rfl
  have a1 := cellAt (i := 1) (v := .string p) S0.hX rfl
  have a2 := cellAt (i := 2) (v := .int .i64 id) S0.hX rfl
  have a3 := cellAt (i := 3) (v := .string ad) S0.hX rfl
  have a4 := cellAt (i := 4) (v := .float .f64 wt) S0.hX rfl
  have a5 := cellAt (i := 5) (v := .int .i64 md) S0.hX rfl
  have a6 := cellAt (i := 6) (v := .bool sm) S0.hX rfl
  have a7 := cellAt (i := 7) (v := .bool ky) S0.hX rfl
  have a8 := cellAt (i := 8) (v := .int .u32 (va : Nat)) S0.hX rfl
  have a9 := cellAt (i := 9) (v := .bool df) S0.hX rfl
  have a10 := cellAt (i := 10) (v := .int .i64 tl) S0.hX rfl
  have a11 := cellAt (i := 11) (v := .int .i64 ts) S0.hX rfl
  have a12 := cellAt (i := 12) (v := .int .i64 n) S0.hX rfl
  have a13 := cellAt (i := 13) (v := .int .i64 d) S0.hX rfl
  have PS := Lib.hid S0
  have br := bits_run
  have I10 : Hid (∀ V, Calls Try.prog 42 #[.int .i64 k, .int .i64 10] V fun e w' => e = .returned (.bool (decide (0 ≤ k ∧ k ≤ 10))) ∧ w' = V) := fun V => rin_any k 10 V
  by_cases hk : k < 0 ∨ 11 ≤ k
  · rw [if_pos hk]
    have hd : decide (0 ≤ k ∧ k ≤ 10) = false := decide_eq_false (by omega)
    rw [hd] at I10
    clear S0 hk hd RR hft hres
    go_enter Try.func15, Try.ntmps15
    go_upto_region 1 with (fail)
    rw [← hW, ← hX]
    clear hW hX
    go_wp2_with (go_at_call 42; (with_reducible refine (I10.out _).mono ?_); rintro e w5 ⟨rfl, hw5⟩; replace hw5 := hw5.symm; subst hw5)
    go_ret2
    exact ⟨rfl, PS.out.bl⟩
  · rw [if_neg hk]
    have hd : decide (0 ≤ k ∧ k ≤ 10) = true := decide_eq_true (by omega)
    rw [hd] at I10
    have RT : Hid (∀ V, Calls Try.prog 43 #[.agg #[.int .i64 k, .string p, .int .i64 id, .string ad, .float .f64 wt, .int .i64 md, .bool sm, .bool ky, .int .u32 (va : Nat), .bool df, .int .i64 tl, .int .i64 ts, .int .i64 n, .int .i64 d]] V fun e w' => e = .returned (.bool rs) ∧ Below V.heap.size V w') := fun V => RR.out V (by omega)
    have HK : Hid (0 ≤ k ∧ k ≤ 10) := by show _ ∧ _; omega
    have HFT := Lib.hid hft
    have HRES := Lib.hid hres
    obtain ⟨s0, hs0⟩ : ∃ s, s = bs (be (u64 k) 1) := ⟨_, rfl⟩
    have zs0 : s0.size = 1 := by rw [hs0, bs_size, be_length]
    have N0 : Hid (∀ V, Calls Try.prog 44 #[.int .i64 k, .int .i64 1] V fun e w' => e = .returned (.string s0) ∧ Below V.heap.size V w') := fun V => by rw [hs0]; exact rnum_any k 1 V (by omega)
    have HS0 := Lib.hid hs0
    clear S0 hk hd RR hft hres hs0
    go_enter Try.func15, Try.ntmps15
    go_upto_region 1 with (fail)
    rw [← hW, ← hX]
    clear hW hX
    go_wp2_with (go_at_call 42; (with_reducible refine (I10.out _).mono ?_); rintro e w5 ⟨rfl, hw5⟩; replace hw5 := hw5.symm; subst hw5)
    (with_reducible refine (RT.out _).mono ?_)
    rintro e w1 ⟨rfl, hb1⟩
    have PS1 := Lib.hid (PS.out.below hb1)
    clear hb1 PS RT I10 a0 a1 a2 a3 a4 a5 a6 a7 a8 a9 a10 a11 a12 a13
    cases rs with
    | false =>
      go_wp2_with (fail)
      go_ret2
      exact ⟨rfl, PS1.out.bl⟩
    | true =>
      have b0 := cellAt (i := 0) (v := .int .i64 k) PS1.out.hX rfl
      go_wp2_with (fail)
      (with_reducible refine (N0.out _).mono ?_)
      rintro e W ⟨rfl, hb2⟩
      have PS := Lib.hid (PS1.out.below hb2)
      clear hb2 PS1 N0 b0
      have b0 := cellAt (i := 0) (v := .int .i64 k) PS.out.hX rfl
      go_upto_block 0 with (fail)
      clear b0
      go_cut [4, 5] (fun s4 s5 wx => s4 = .string res ∧ s5 = .bool ft ∧ Below w.heap.size w wx)
      case first =>
        have : k = 0 ∨ k = 1 ∨ k = 2 ∨ k = 3 ∨ k = 4 ∨ k = 5 ∨ k = 6 ∨ k = 7 ∨ k = 8 ∨ k = 9 ∨ k = 10 := by have := HK.out; omega
        rcases this with rfl | rfl | rfl | rfl | rfl | rfl | rfl | rfl | rfl | rfl | rfl
        · skip
          have a1 := cellAt (i := 1) (v := .string p) PS.out.hX rfl
          obtain ⟨s1, hs1⟩ : ∃ s, s = bs (be (u64 (p.size : Int)) 2) := ⟨_, rfl⟩
          have zs1 : s1.size = 2 := by rw [hs1, bs_size, be_length]
          have Ns1 : Hid (∀ V, Calls Try.prog 44 #[.int .i64 (p.size : Nat), .int .i64 2] V fun e w' => e = .returned (.string s1) ∧ Below V.heap.size V w') := fun V => by rw [hs1]; exact rnum_any (p.size : Int) 2 V (by omega)
          have hp9 := HOK.out.1.1
          obtain ⟨c1, kc1⟩ : ∃ c, c = s0 ++ s1 := ⟨_, rfl⟩
          have yc1 : c1.size = s0.size + s1.size := by rw [kc1, ByteArray.size_append]
          have rc1 := cat_run s0 s1 c1 kc1 (by omega)
          obtain ⟨c2, kc2⟩ : ∃ c, c = c1 ++ p := ⟨_, rfl⟩
          have yc2 : c2.size = c1.size + p.size := by rw [kc2, ByteArray.size_append]
          have rc2 := cat_run c1 p c2 kc2 (by omega)
          have HB : Hid (c2 = bs (be (u64 0) 1 ++ (be (u64 (p.size : Int)) 2 ++ p.data.toList))) := by
            show _ = _
            rw [kc2, kc1, HS0.out, hs1, bs_append, ← bs_of p, bs_append, bs_of, List.append_assoc]
          obtain ⟨F, hF⟩ : ∃ F, F = fits (p.size : Int) := ⟨_, rfl⟩
          have hF1 : decide ((p.size : Int) ≤ 65535) = F := by rw [hF]; unfold fits; simp only [decide_eq_decide]; omega
          have hF2 : decide (p.size ≤ 65535) = F := by rw [hF]; unfold fits; simp only [decide_eq_decide]; omega
          have HF : Hid (ActL.fit ⟨0, p, id, ad, wt, md, sm, ky, va, df, tl, ts, n, d⟩ = F) := hF.symm
          clear kc1 kc2 hs1 zs1 yc1 yc2 hF hp9
          go_upto_region 9 with (fail)
          refine wp_region_noPanic ?_
          refine wp_region_held_drew (S := XS X #[.int .i64 0, .string p, .int .i64 id, .string ad, .float .f64 wt, .int .i64 md, .bool sm, .bool ky, .int .u32 (va : Nat), .bool df, .int .i64 tl, .int .i64 ts, .int .i64 n, .int .i64 d] 47 w) (by kernel_rfl) PS.out.drew (fun hHeld => ?_)
          refine wpAnyH_take (i := 0) (oi := { dst := some 29, op := Op.move (Operand.tmp 4), type := 9, pos := "ref.go:73", after := #[], guard := none }) (v := ?_) rfl (by kernel_rfl) (by kernel_rfl) (by kernel_rfl) (fun _ _ _ h => h) (Or.inl ⟨by rfl, ?_⟩) (by assumption) ?_
          rotate_left 1
          · intro w hSw
            go_simp
            first | done | with_reducible rfl
          try simp only [Act.put, List.setIfInBounds_toArray, List.set_cons_zero, List.set_cons_succ]
          refine wpAnyH_take (i := 1) (oi := { dst := some 30, op := Op.fieldAddr 47 (Operand.tmp 1) 1, type := 0, pos := "ref.go:73", after := #[], guard := none }) (v := ?_) rfl (by kernel_rfl) (by kernel_rfl) (by kernel_rfl) (fun _ _ _ h => h) (Or.inl ⟨by rfl, ?_⟩) (by assumption) ?_
          rotate_left 1
          · intro w hSw
            go_simp
            first | done | with_reducible rfl
          try simp only [Act.put, List.setIfInBounds_toArray, List.set_cons_zero, List.set_cons_succ]
          refine wpAnyH_take (i := 2) (oi := { dst := some 31, op := Op.load 9 (Operand.tmp 30), type := 9, pos := "ref.go:73", after := #[{ on := 1, ground := Ground.data }], guard := none }) (v := ?_) rfl (by kernel_rfl) (by kernel_rfl) (by kernel_rfl) (fun _ _ _ h => h) (Or.inl ⟨by rfl, ?_⟩) (by assumption) ?_
          rotate_left 1
          · intro w hSw
            have q0 := cellAt (i := 1) (v := .string p) hSw.hX rfl
            go_simp
            first | done | with_reducible rfl
          try simp only [Act.put, List.setIfInBounds_toArray, List.set_cons_zero, List.set_cons_succ]
          refine wpAnyH_take (i := 6) (oi := { dst := some 35, op := Op.fieldAddr 47 (Operand.tmp 1) 1, type := 0, pos := "ref.go:73", after := #[], guard := none }) (v := ?_) rfl (by kernel_rfl) (by kernel_rfl) (by kernel_rfl) (fun _ _ _ h => h) (Or.inl ⟨by rfl, ?_⟩) (by assumption) ?_
          rotate_left 1
          · intro w hSw
            go_simp
            first | done | with_reducible rfl
          try simp only [Act.put, List.setIfInBounds_toArray, List.set_cons_zero, List.set_cons_succ]
          refine wpAnyH_take (i := 7) (oi := { dst := some 36, op := Op.load 9 (Operand.tmp 35), type := 9, pos := "ref.go:73", after := #[{ on := 6, ground := Ground.data }], guard := none }) (v := ?_) rfl (by kernel_rfl) (by kernel_rfl) (by kernel_rfl) (fun _ _ _ h => h) (Or.inl ⟨by rfl, ?_⟩) (by assumption) ?_
          rotate_left 1
          · intro w hSw
            have q0 := cellAt (i := 1) (v := .string p) hSw.hX rfl
            go_simp
            first | done | with_reducible rfl
          try simp only [Act.put, List.setIfInBounds_toArray, List.set_cons_zero, List.set_cons_succ]
          refine wpAnyH_ready (rs := [3]) (by kernel_rfl) (by simp) ?_
          refine AllReadyH.cons (o := { dst := some 32, op := Op.call { callee := Callee.builtin Builtin.len, args := #[Operand.tmp 31], argTypes := #[9] }, type := 3, pos := "ref.go:73", after := #[{ on := 2, ground := Ground.data }], guard := none }) rfl (fun K hK => ?_) AllReadyH.nil
          go_simp
          refine hK.out _ _ hHeld (fun hHeld => ?_)
          clear hK K
          try simp only [Act.put, List.setIfInBounds_toArray, List.set_cons_zero, List.set_cons_succ]
          refine wpAnyH_ready (rs := [4]) (by kernel_rfl) (by simp) ?_
          refine AllReadyH.cons (o := { dst := some 33, op := Op.call { callee := Callee.value (Operand.func 44), args := #[Operand.tmp 32, Operand.const (Value.int IntKind.i64 2)], argTypes := #[3, 3] }, type := 9, pos := "ref.go:73", after := #[{ on := 3, ground := Ground.data }], guard := none }) rfl (fun K hK => ?_) AllReadyH.nil
          go_simp
          (go_at_call 44; (with_reducible refine (Ns1.out _).mono ?_); rintro e w5 ⟨rfl, hb5⟩)
          go_simp
          refine hK.out _ _ (hHeld.below hb5) (fun hHeld => ?_)
          clear hK K
          try simp only [Act.put, List.setIfInBounds_toArray, List.set_cons_zero, List.set_cons_succ]
          refine wpAnyH_take (i := 5) (oi := { dst := some 34, op := Op.binOp BinOp.add 9 (Operand.tmp 29) (Operand.tmp 33) 9, type := 9, pos := "ref.go:73", after := #[{ on := 0, ground := Ground.data }, { on := 4, ground := Ground.data }], guard := none }) (v := ?_) rfl (by kernel_rfl) (by kernel_rfl) (by kernel_rfl) (fun _ _ _ h => h) (Or.inl ⟨by rfl, ?_⟩) (by assumption) ?_
          rotate_left 1
          · intro w hSw
            go_simp
            first | done | with_reducible rfl
          try simp only [Act.put, List.setIfInBounds_toArray, List.set_cons_zero, List.set_cons_succ]
          refine wpAnyH_take (i := 8) (oi := { dst := some 37, op := Op.binOp BinOp.add 9 (Operand.tmp 34) (Operand.tmp 36) 9, type := 9, pos := "ref.go:73", after := #[{ on := 5, ground := Ground.data }, { on := 7, ground := Ground.data }], guard := none }) (v := ?_) rfl (by kernel_rfl) (by kernel_rfl) (by kernel_rfl) (fun _ _ _ h => h) (Or.inl ⟨by rfl, ?_⟩) (by assumption) ?_
          rotate_left 1
          · intro w hSw
            go_simp
            first | done | with_reducible rfl
          try simp only [Act.put, List.setIfInBounds_toArray, List.set_cons_zero, List.set_cons_succ]
          refine wpAnyH_ready (rs := [9]) (by kernel_rfl) (by simp) ?_
          refine AllReadyH.cons (o := { dst := some 4, op := Op.assign (Operand.tmp 37), type := 9, pos := "ref.go:73", after := #[{ on := 8, ground := Ground.data }, { on := 4, ground := Ground.chain }, { on := 0, ground := Ground.phase }, { on := 1, ground := Ground.phase }, { on := 2, ground := Ground.phase }, { on := 3, ground := Ground.phase }, { on := 4, ground := Ground.phase }, { on := 5, ground := Ground.phase }, { on := 6, ground := Ground.phase }, { on := 7, ground := Ground.phase }, { on := 8, ground := Ground.phase }], guard := none }) rfl (fun K hK => ?_) AllReadyH.nil
          go_simp
          refine hK.out _ _ hHeld (fun hHeld => ?_)
          clear hK K
          try simp only [Act.put, List.setIfInBounds_toArray, List.set_cons_zero, List.set_cons_succ]
          refine wpAnyH_done (by kernel_rfl) ?_ _
          refine NoPanic.normal ?_
          try simp only [Exit.then]
          go_wp2_with (fail)
          go_meet
          exact ⟨by rw [HRES.out, HB.out]; rfl, by rw [HFT.out, HF.out], hHeld.bl⟩
        · skip
          have a2 := cellAt (i := 2) (v := .int .i64 id) PS.out.hX rfl
          have a3 := cellAt (i := 3) (v := .string ad) PS.out.hX rfl
          obtain ⟨s1, hs1⟩ : ∃ s, s = bs (be (u64 id) 2) := ⟨_, rfl⟩
          have zs1 : s1.size = 2 := by rw [hs1, bs_size, be_length]
          have Ns1 : Hid (∀ V, Calls Try.prog 44 #[.int .i64 id, .int .i64 2] V fun e w' => e = .returned (.string s1) ∧ Below V.heap.size V w') := fun V => by rw [hs1]; exact rnum_any id 2 V (by omega)
          obtain ⟨s2, hs2⟩ : ∃ s, s = bs (be wt 8) := ⟨_, rfl⟩
          have zs2 : s2.size = 8 := by rw [hs2, bs_size, be_length]
          have Ns2 : Hid (∀ V, Calls Try.prog 45 #[.int .u64 (wt : Nat), .int .i64 8] V fun e w' => e = .returned (.string s2) ∧ Below V.heap.size V w') := fun V => by rw [hs2]; exact rbytes_any wt 8 V HOK.out.1.2.2 (by omega)
          have ha9 := HOK.out.1.2.1
          obtain ⟨c1, kc1⟩ : ∃ c, c = s0 ++ s1 := ⟨_, rfl⟩
          have yc1 : c1.size = s0.size + s1.size := by rw [kc1, ByteArray.size_append]
          have rc1 := cat_run s0 s1 c1 kc1 (by omega)
          obtain ⟨c2, kc2⟩ : ∃ c, c = c1 ++ ad := ⟨_, rfl⟩
          have yc2 : c2.size = c1.size + ad.size := by rw [kc2, ByteArray.size_append]
          have rc2 := cat_run c1 ad c2 kc2 (by omega)
          obtain ⟨c3, kc3⟩ : ∃ c, c = c2 ++ s2 := ⟨_, rfl⟩
          have yc3 : c3.size = c2.size + s2.size := by rw [kc3, ByteArray.size_append]
          have rc3 := cat_run c2 s2 c3 kc3 (by omega)
          have HB : Hid (c3 = bs (be (u64 1) 1 ++ (be (u64 id) 2 ++ (ad.data.toList ++ be wt 8)))) := by
            show _ = _
            rw [kc3, kc2, kc1, HS0.out, hs1, hs2, bs_append, ← bs_of ad, bs_append, bs_append, bs_of, List.append_assoc, List.append_assoc]
          obtain ⟨F, hF⟩ : ∃ F, F = fits id := ⟨_, rfl⟩
          obtain ⟨G, hG⟩ : ∃ F, F = (ad.size == 4) := ⟨_, rfl⟩
          have hG2 : ((ad.size : Int) == 4) = G := by rw [hG, Bool.eq_iff_iff]; simp; omega
          have I0 : Hid (∀ V, Calls Try.prog 42 #[.int .i64 id, .int .i64 65535] V fun e w' => e = .returned (.bool F) ∧ w' = V) := fun V => by rw [hF]; exact rin_any id 65535 V
          have HF : Hid (ActL.fit ⟨1, p, id, ad, wt, md, sm, ky, va, df, tl, ts, n, d⟩ = (F && G)) := by show _ = _; rw [hF, hG]; rfl
          clear kc1 kc2 kc3 hs1 hs2 zs1 zs2 yc1 yc2 yc3 hF hG ha9
          go_upto_region 11 with (fail)
          go_cut [5] (fun s5 wx => s5 = .bool (F && G) ∧ wx = W)
          case first =>
            cases F with
            | false =>
              go_wp2_with (first | (go_at_call 42; (with_reducible refine (I0.out _).mono ?_); rintro e w5 ⟨rfl, hw5⟩; replace hw5 := hw5.symm; subst hw5))
              go_meet
              exact ⟨rfl, rfl⟩
            | true =>
              go_wp2_with (first | (go_at_call 42; (with_reducible refine (I0.out _).mono ?_); rintro e w5 ⟨rfl, hw5⟩; replace hw5 := hw5.symm; subst hw5))
              go_meet
              exact ⟨by cases G <;> rfl, rfl⟩
          case rest =>
          obtain ⟨rfl, hwc⟩ := hcut
          replace hwc := hwc.symm
          subst hwc
          go_upto_region 12 with (fail)
          refine wp_region_noPanic ?_
          refine wp_region_held_drew (S := XS X #[.int .i64 1, .string p, .int .i64 id, .string ad, .float .f64 wt, .int .i64 md, .bool sm, .bool ky, .int .u32 (va : Nat), .bool df, .int .i64 tl, .int .i64 ts, .int .i64 n, .int .i64 d] 47 w) (by kernel_rfl) PS.out.drew (fun hHeld => ?_)
          refine wpAnyH_take (i := 0) (oi := { dst := some 51, op := Op.move (Operand.tmp 4), type := 9, pos := "ref.go:76", after := #[], guard := none }) (v := ?_) rfl (by kernel_rfl) (by kernel_rfl) (by kernel_rfl) (fun _ _ _ h => h) (Or.inl ⟨by rfl, ?_⟩) (by assumption) ?_
          rotate_left 1
          · intro w hSw
            go_simp
            first | done | with_reducible rfl
          try simp only [Act.put, List.setIfInBounds_toArray, List.set_cons_zero, List.set_cons_succ]
          refine wpAnyH_take (i := 1) (oi := { dst := some 52, op := Op.fieldAddr 47 (Operand.tmp 1) 2, type := 0, pos := "ref.go:76", after := #[], guard := none }) (v := ?_) rfl (by kernel_rfl) (by kernel_rfl) (by kernel_rfl) (fun _ _ _ h => h) (Or.inl ⟨by rfl, ?_⟩) (by assumption) ?_
          rotate_left 1
          · intro w hSw
            go_simp
            first | done | with_reducible rfl
          try simp only [Act.put, List.setIfInBounds_toArray, List.set_cons_zero, List.set_cons_succ]
          refine wpAnyH_take (i := 2) (oi := { dst := some 53, op := Op.fieldAddr 45 (Operand.tmp 52) 0, type := 0, pos := "ref.go:76", after := #[{ on := 1, ground := Ground.data }], guard := none }) (v := ?_) rfl (by kernel_rfl) (by kernel_rfl) (by kernel_rfl) (fun _ _ _ h => h) (Or.inl ⟨by rfl, ?_⟩) (by assumption) ?_
          rotate_left 1
          · intro w hSw
            go_simp
            first | done | with_reducible rfl
          try simp only [Act.put, List.setIfInBounds_toArray, List.set_cons_zero, List.set_cons_succ]
          refine wpAnyH_take (i := 3) (oi := { dst := some 54, op := Op.load 3 (Operand.tmp 53), type := 3, pos := "ref.go:76", after := #[{ on := 2, ground := Ground.data }], guard := none }) (v := ?_) rfl (by kernel_rfl) (by kernel_rfl) (by kernel_rfl) (fun _ _ _ h => h) (Or.inl ⟨by rfl, ?_⟩) (by assumption) ?_
          rotate_left 1
          · intro w hSw
            have q0 := cellAt (i := 2) (v := .int .i64 id) hSw.hX rfl
            go_simp
            first | done | with_reducible rfl
          try simp only [Act.put, List.setIfInBounds_toArray, List.set_cons_zero, List.set_cons_succ]
          refine wpAnyH_take (i := 6) (oi := { dst := some 57, op := Op.fieldAddr 47 (Operand.tmp 1) 2, type := 0, pos := "ref.go:76", after := #[], guard := none }) (v := ?_) rfl (by kernel_rfl) (by kernel_rfl) (by kernel_rfl) (fun _ _ _ h => h) (Or.inl ⟨by rfl, ?_⟩) (by assumption) ?_
          rotate_left 1
          · intro w hSw
            go_simp
            first | done | with_reducible rfl
          try simp only [Act.put, List.setIfInBounds_toArray, List.set_cons_zero, List.set_cons_succ]
          refine wpAnyH_take (i := 7) (oi := { dst := some 58, op := Op.fieldAddr 45 (Operand.tmp 57) 1, type := 0, pos := "ref.go:76", after := #[{ on := 6, ground := Ground.data }], guard := none }) (v := ?_) rfl (by kernel_rfl) (by kernel_rfl) (by kernel_rfl) (fun _ _ _ h => h) (Or.inl ⟨by rfl, ?_⟩) (by assumption) ?_
          rotate_left 1
          · intro w hSw
            go_simp
            first | done | with_reducible rfl
          try simp only [Act.put, List.setIfInBounds_toArray, List.set_cons_zero, List.set_cons_succ]
          refine wpAnyH_take (i := 8) (oi := { dst := some 59, op := Op.load 9 (Operand.tmp 58), type := 9, pos := "ref.go:76", after := #[{ on := 7, ground := Ground.data }], guard := none }) (v := ?_) rfl (by kernel_rfl) (by kernel_rfl) (by kernel_rfl) (fun _ _ _ h => h) (Or.inl ⟨by rfl, ?_⟩) (by assumption) ?_
          rotate_left 1
          · intro w hSw
            have q0 := cellAt (i := 3) (v := .string ad) hSw.hX rfl
            go_simp
            first | done | with_reducible rfl
          try simp only [Act.put, List.setIfInBounds_toArray, List.set_cons_zero, List.set_cons_succ]
          refine wpAnyH_take (i := 10) (oi := { dst := some 61, op := Op.fieldAddr 47 (Operand.tmp 1) 2, type := 0, pos := "ref.go:76", after := #[], guard := none }) (v := ?_) rfl (by kernel_rfl) (by kernel_rfl) (by kernel_rfl) (fun _ _ _ h => h) (Or.inl ⟨by rfl, ?_⟩) (by assumption) ?_
          rotate_left 1
          · intro w hSw
            go_simp
            first | done | with_reducible rfl
          try simp only [Act.put, List.setIfInBounds_toArray, List.set_cons_zero, List.set_cons_succ]
          refine wpAnyH_take (i := 11) (oi := { dst := some 62, op := Op.fieldAddr 45 (Operand.tmp 61) 2, type := 0, pos := "ref.go:76", after := #[{ on := 10, ground := Ground.data }], guard := none }) (v := ?_) rfl (by kernel_rfl) (by kernel_rfl) (by kernel_rfl) (fun _ _ _ h => h) (Or.inl ⟨by rfl, ?_⟩) (by assumption) ?_
          rotate_left 1
          · intro w hSw
            go_simp
            first | done | with_reducible rfl
          try simp only [Act.put, List.setIfInBounds_toArray, List.set_cons_zero, List.set_cons_succ]
          refine wpAnyH_take (i := 12) (oi := { dst := some 63, op := Op.load 43 (Operand.tmp 62), type := 43, pos := "ref.go:76", after := #[{ on := 11, ground := Ground.data }], guard := none }) (v := ?_) rfl (by kernel_rfl) (by kernel_rfl) (by kernel_rfl) (fun _ _ _ h => h) (Or.inl ⟨by rfl, ?_⟩) (by assumption) ?_
          rotate_left 1
          · intro w hSw
            have q0 := cellAt (i := 4) (v := .float .f64 wt) hSw.hX rfl
            go_simp
            first | done | with_reducible rfl
          try simp only [Act.put, List.setIfInBounds_toArray, List.set_cons_zero, List.set_cons_succ]
          refine wpAnyH_ready (rs := [4]) (by kernel_rfl) (by simp) ?_
          refine AllReadyH.cons (o := { dst := some 55, op := Op.call { callee := Callee.value (Operand.func 44), args := #[Operand.tmp 54, Operand.const (Value.int IntKind.i64 2)], argTypes := #[3, 3] }, type := 9, pos := "ref.go:76", after := #[{ on := 3, ground := Ground.data }], guard := none }) rfl (fun K hK => ?_) AllReadyH.nil
          go_simp
          (go_at_call 44; (with_reducible refine (Ns1.out _).mono ?_); rintro e w5 ⟨rfl, hb5⟩)
          go_simp
          refine hK.out _ _ (hHeld.below hb5) (fun hHeld => ?_)
          clear hK K
          try simp only [Act.put, List.setIfInBounds_toArray, List.set_cons_zero, List.set_cons_succ]
          refine wpAnyH_take (i := 5) (oi := { dst := some 56, op := Op.binOp BinOp.add 9 (Operand.tmp 51) (Operand.tmp 55) 9, type := 9, pos := "ref.go:76", after := #[{ on := 0, ground := Ground.data }, { on := 4, ground := Ground.data }], guard := none }) (v := ?_) rfl (by kernel_rfl) (by kernel_rfl) (by kernel_rfl) (fun _ _ _ h => h) (Or.inl ⟨by rfl, ?_⟩) (by assumption) ?_
          rotate_left 1
          · intro w hSw
            go_simp
            first | done | with_reducible rfl
          try simp only [Act.put, List.setIfInBounds_toArray, List.set_cons_zero, List.set_cons_succ]
          refine wpAnyH_take (i := 9) (oi := { dst := some 60, op := Op.binOp BinOp.add 9 (Operand.tmp 56) (Operand.tmp 59) 9, type := 9, pos := "ref.go:76", after := #[{ on := 5, ground := Ground.data }, { on := 8, ground := Ground.data }], guard := none }) (v := ?_) rfl (by kernel_rfl) (by kernel_rfl) (by kernel_rfl) (fun _ _ _ h => h) (Or.inl ⟨by rfl, ?_⟩) (by assumption) ?_
          rotate_left 1
          · intro w hSw
            go_simp
            first | done | with_reducible rfl
          try simp only [Act.put, List.setIfInBounds_toArray, List.set_cons_zero, List.set_cons_succ]
          refine wpAnyH_ready (rs := [13]) (by kernel_rfl) (by simp) ?_
          refine AllReadyH.cons (o := { dst := some 64, op := Op.call { callee := Callee.value (Operand.func 46), args := #[Operand.tmp 63], argTypes := #[43] }, type := 76, pos := "ref.go:76", after := #[{ on := 12, ground := Ground.data }, { on := 4, ground := Ground.chain }], guard := none }) rfl (fun K hK => ?_) AllReadyH.nil
          go_simp
          refine hK.out _ _ hHeld (fun hHeld => ?_)
          clear hK K
          try simp only [Act.put, List.setIfInBounds_toArray, List.set_cons_zero, List.set_cons_succ]
          refine wpAnyH_ready (rs := [14]) (by kernel_rfl) (by simp) ?_
          refine AllReadyH.cons (o := { dst := some 65, op := Op.call { callee := Callee.value (Operand.func 45), args := #[Operand.tmp 64, Operand.const (Value.int IntKind.i64 8)], argTypes := #[76, 3] }, type := 9, pos := "ref.go:76", after := #[{ on := 13, ground := Ground.data }, { on := 13, ground := Ground.chain }], guard := none }) rfl (fun K hK => ?_) AllReadyH.nil
          go_simp
          (go_at_call 45; (with_reducible refine (Ns2.out _).mono ?_); rintro e w5 ⟨rfl, hb5⟩)
          go_simp
          refine hK.out _ _ (hHeld.below hb5) (fun hHeld => ?_)
          clear hK K
          try simp only [Act.put, List.setIfInBounds_toArray, List.set_cons_zero, List.set_cons_succ]
          refine wpAnyH_take (i := 15) (oi := { dst := some 66, op := Op.binOp BinOp.add 9 (Operand.tmp 60) (Operand.tmp 65) 9, type := 9, pos := "ref.go:76", after := #[{ on := 9, ground := Ground.data }, { on := 14, ground := Ground.data }], guard := none }) (v := ?_) rfl (by kernel_rfl) (by kernel_rfl) (by kernel_rfl) (fun _ _ _ h => h) (Or.inl ⟨by rfl, ?_⟩) (by assumption) ?_
          rotate_left 1
          · intro w hSw
            go_simp
            first | done | with_reducible rfl
          try simp only [Act.put, List.setIfInBounds_toArray, List.set_cons_zero, List.set_cons_succ]
          refine wpAnyH_ready (rs := [16]) (by kernel_rfl) (by simp) ?_
          refine AllReadyH.cons (o := { dst := some 4, op := Op.assign (Operand.tmp 66), type := 9, pos := "ref.go:76", after := #[{ on := 15, ground := Ground.data }, { on := 14, ground := Ground.chain }, { on := 0, ground := Ground.phase }, { on := 1, ground := Ground.phase }, { on := 2, ground := Ground.phase }, { on := 3, ground := Ground.phase }, { on := 4, ground := Ground.phase }, { on := 5, ground := Ground.phase }, { on := 6, ground := Ground.phase }, { on := 7, ground := Ground.phase }, { on := 8, ground := Ground.phase }, { on := 9, ground := Ground.phase }, { on := 10, ground := Ground.phase }, { on := 11, ground := Ground.phase }, { on := 12, ground := Ground.phase }, { on := 13, ground := Ground.phase }, { on := 14, ground := Ground.phase }, { on := 15, ground := Ground.phase }], guard := none }) rfl (fun K hK => ?_) AllReadyH.nil
          go_simp
          refine hK.out _ _ hHeld (fun hHeld => ?_)
          clear hK K
          try simp only [Act.put, List.setIfInBounds_toArray, List.set_cons_zero, List.set_cons_succ]
          refine wpAnyH_done (by kernel_rfl) ?_ _
          refine NoPanic.normal ?_
          try simp only [Exit.then]
          go_wp2_with (fail)
          go_meet
          exact ⟨by rw [HRES.out, HB.out]; rfl, by rw [HFT.out, HF.out], hHeld.bl⟩
        · skip
          have a12 := cellAt (i := 12) (v := .int .i64 n) PS.out.hX rfl
          obtain ⟨s1, hs1⟩ : ∃ s, s = bs (be (u64 n) 2) := ⟨_, rfl⟩
          have zs1 : s1.size = 2 := by rw [hs1, bs_size, be_length]
          have Ns1 : Hid (∀ V, Calls Try.prog 44 #[.int .i64 n, .int .i64 2] V fun e w' => e = .returned (.string s1) ∧ Below V.heap.size V w') := fun V => by rw [hs1]; exact rnum_any n 2 V (by omega)
          obtain ⟨c1, kc1⟩ : ∃ c, c = s0 ++ s1 := ⟨_, rfl⟩
          have yc1 : c1.size = s0.size + s1.size := by rw [kc1, ByteArray.size_append]
          have rc1 := cat_run s0 s1 c1 kc1 (by omega)
          have HB : Hid (c1 = bs (be (u64 2) 1 ++ be (u64 n) 2)) := by show _ = _; rw [kc1, HS0.out, hs1, bs_append]
          have I0 := Lib.hid (fun V => rin_any n 65535 V)
          clear kc1 hs1 zs1 yc1
          go_wp2_with (first | (go_at_call 42; (with_reducible refine (I0.out _).mono ?_); rintro e w5 ⟨rfl, hw5⟩; replace hw5 := hw5.symm; subst hw5; have a12 := cellAt (i := 12) (v := .int .i64 n) PS.out.hX rfl) | (go_at_call 44; (with_reducible refine (Ns1.out _).mono ?_); rintro e w6 ⟨rfl, hb6⟩))
          go_meet
          exact ⟨by rw [HRES.out, HB.out]; rfl, by rw [HFT.out]; show Value.bool _ = Value.bool (fits n); unfold fits; congr 1; rw [Bool.eq_iff_iff]; simp, PS.out.bl.trans (hb6.mono PS.out.bl.size)⟩
        · skip
          have a12 := cellAt (i := 12) (v := .int .i64 n) PS.out.hX rfl
          obtain ⟨s1, hs1⟩ : ∃ s, s = bs (be (u64 n) 2) := ⟨_, rfl⟩
          have zs1 : s1.size = 2 := by rw [hs1, bs_size, be_length]
          have Ns1 : Hid (∀ V, Calls Try.prog 44 #[.int .i64 n, .int .i64 2] V fun e w' => e = .returned (.string s1) ∧ Below V.heap.size V w') := fun V => by rw [hs1]; exact rnum_any n 2 V (by omega)
          obtain ⟨c1, kc1⟩ : ∃ c, c = s0 ++ s1 := ⟨_, rfl⟩
          have yc1 : c1.size = s0.size + s1.size := by rw [kc1, ByteArray.size_append]
          have rc1 := cat_run s0 s1 c1 kc1 (by omega)
          have HB : Hid (c1 = bs (be (u64 3) 1 ++ be (u64 n) 2)) := by show _ = _; rw [kc1, HS0.out, hs1, bs_append]
          have I0 := Lib.hid (fun V => rin_any n 65535 V)
          clear kc1 hs1 zs1 yc1
          go_wp2_with (first | (go_at_call 42; (with_reducible refine (I0.out _).mono ?_); rintro e w5 ⟨rfl, hw5⟩; replace hw5 := hw5.symm; subst hw5; have a12 := cellAt (i := 12) (v := .int .i64 n) PS.out.hX rfl) | (go_at_call 44; (with_reducible refine (Ns1.out _).mono ?_); rintro e w6 ⟨rfl, hb6⟩))
          go_meet
          exact ⟨by rw [HRES.out, HB.out]; rfl, by rw [HFT.out]; show Value.bool _ = Value.bool (fits n); unfold fits; congr 1; rw [Bool.eq_iff_iff]; simp, PS.out.bl.trans (hb6.mono PS.out.bl.size)⟩
        · skip
          have a5 := cellAt (i := 5) (v := .int .i64 md) PS.out.hX rfl
          have a6 := cellAt (i := 6) (v := .bool sm) PS.out.hX rfl
          have a7 := cellAt (i := 7) (v := .bool ky) PS.out.hX rfl
          have a8 := cellAt (i := 8) (v := .int .u32 (va : Nat)) PS.out.hX rfl
          have a9 := cellAt (i := 9) (v := .bool df) PS.out.hX rfl
          have a10 := cellAt (i := 10) (v := .int .i64 tl) PS.out.hX rfl
          have a11 := cellAt (i := 11) (v := .int .i64 ts) PS.out.hX rfl
          obtain ⟨s1, hs1⟩ : ∃ s, s = bs (tunB md sm ky va df tl ts) := ⟨_, rfl⟩
          have zs1 : s1.size = 8 := by rw [hs1, bs_size, tunB_length]
          obtain ⟨c1, kc1⟩ : ∃ c, c = s0 ++ s1 := ⟨_, rfl⟩
          have yc1 : c1.size = s0.size + s1.size := by rw [kc1, ByteArray.size_append]
          have rc1 := cat_run s0 s1 c1 kc1 (by omega)
          have TN : Hid (∀ V, Calls Try.prog 47 #[.agg #[.int .i64 md, .bool sm, .bool ky, .int .u32 (va : Nat), .bool df, .int .i64 tl, .int .i64 ts]] V fun e w' => e = .returned (.tuple #[.string s1, .bool (byte3 md tl ts)]) ∧ Below V.heap.size V w') := fun V => by rw [hs1]; exact rtun_any md sm ky va df tl ts V HOK.out.2
          have HB : Hid (c1 = bs (be (u64 4) 1 ++ tunB md sm ky va df tl ts)) := by show _ = _; rw [kc1, HS0.out, hs1, bs_append]
          clear kc1 hs1 zs1 yc1
          go_wp2_with (go_at_call 47; (with_reducible refine (TN.out _).mono ?_); rintro e w6 ⟨rfl, hb6⟩)
          go_meet
          exact ⟨by rw [HRES.out, HB.out]; rfl, by rw [HFT.out]; rfl, PS.out.bl.trans (hb6.mono PS.out.bl.size)⟩
        · skip
          have a12 := cellAt (i := 12) (v := .int .i64 n) PS.out.hX rfl
          obtain ⟨s1, hs1⟩ : ∃ s, s = bs (be (u64 n) 2) := ⟨_, rfl⟩
          have zs1 : s1.size = 2 := by rw [hs1, bs_size, be_length]
          have Ns1 : Hid (∀ V, Calls Try.prog 44 #[.int .i64 n, .int .i64 2] V fun e w' => e = .returned (.string s1) ∧ Below V.heap.size V w') := fun V => by rw [hs1]; exact rnum_any n 2 V (by omega)
          obtain ⟨c1, kc1⟩ : ∃ c, c = s0 ++ s1 := ⟨_, rfl⟩
          have yc1 : c1.size = s0.size + s1.size := by rw [kc1, ByteArray.size_append]
          have rc1 := cat_run s0 s1 c1 kc1 (by omega)
          have HB : Hid (c1 = bs (be (u64 5) 1 ++ be (u64 n) 2)) := by show _ = _; rw [kc1, HS0.out, hs1, bs_append]
          have I0 := Lib.hid (fun V => rin_any n 65535 V)
          clear kc1 hs1 zs1 yc1
          go_wp2_with (first | (go_at_call 42; (with_reducible refine (I0.out _).mono ?_); rintro e w5 ⟨rfl, hw5⟩; replace hw5 := hw5.symm; subst hw5; have a12 := cellAt (i := 12) (v := .int .i64 n) PS.out.hX rfl) | (go_at_call 44; (with_reducible refine (Ns1.out _).mono ?_); rintro e w6 ⟨rfl, hb6⟩))
          go_meet
          exact ⟨by rw [HRES.out, HB.out]; rfl, by rw [HFT.out]; show Value.bool _ = Value.bool (fits n); unfold fits; congr 1; rw [Bool.eq_iff_iff]; simp, PS.out.bl.trans (hb6.mono PS.out.bl.size)⟩
        · skip
          have a12 := cellAt (i := 12) (v := .int .i64 n) PS.out.hX rfl
          obtain ⟨s1, hs1⟩ : ∃ s, s = bs (be (u64 n) 2) := ⟨_, rfl⟩
          have zs1 : s1.size = 2 := by rw [hs1, bs_size, be_length]
          have Ns1 : Hid (∀ V, Calls Try.prog 44 #[.int .i64 n, .int .i64 2] V fun e w' => e = .returned (.string s1) ∧ Below V.heap.size V w') := fun V => by rw [hs1]; exact rnum_any n 2 V (by omega)
          obtain ⟨c1, kc1⟩ : ∃ c, c = s0 ++ s1 := ⟨_, rfl⟩
          have yc1 : c1.size = s0.size + s1.size := by rw [kc1, ByteArray.size_append]
          have rc1 := cat_run s0 s1 c1 kc1 (by omega)
          have HB : Hid (c1 = bs (be (u64 6) 1 ++ be (u64 n) 2)) := by show _ = _; rw [kc1, HS0.out, hs1, bs_append]
          have I0 := Lib.hid (fun V => rin_any n 65535 V)
          clear kc1 hs1 zs1 yc1
          go_wp2_with (first | (go_at_call 42; (with_reducible refine (I0.out _).mono ?_); rintro e w5 ⟨rfl, hw5⟩; replace hw5 := hw5.symm; subst hw5; have a12 := cellAt (i := 12) (v := .int .i64 n) PS.out.hX rfl) | (go_at_call 44; (with_reducible refine (Ns1.out _).mono ?_); rintro e w6 ⟨rfl, hb6⟩))
          go_meet
          exact ⟨by rw [HRES.out, HB.out]; rfl, by rw [HFT.out]; show Value.bool _ = Value.bool (fits n); unfold fits; congr 1; rw [Bool.eq_iff_iff]; simp, PS.out.bl.trans (hb6.mono PS.out.bl.size)⟩
        · skip
          have a12 := cellAt (i := 12) (v := .int .i64 n) PS.out.hX rfl
          obtain ⟨s1, hs1⟩ : ∃ s, s = bs (be (u64 n) 2) := ⟨_, rfl⟩
          have zs1 : s1.size = 2 := by rw [hs1, bs_size, be_length]
          have Ns1 : Hid (∀ V, Calls Try.prog 44 #[.int .i64 n, .int .i64 2] V fun e w' => e = .returned (.string s1) ∧ Below V.heap.size V w') := fun V => by rw [hs1]; exact rnum_any n 2 V (by omega)
          obtain ⟨c1, kc1⟩ : ∃ c, c = s0 ++ s1 := ⟨_, rfl⟩
          have yc1 : c1.size = s0.size + s1.size := by rw [kc1, ByteArray.size_append]
          have rc1 := cat_run s0 s1 c1 kc1 (by omega)
          have HB : Hid (c1 = bs (be (u64 7) 1 ++ be (u64 n) 2)) := by show _ = _; rw [kc1, HS0.out, hs1, bs_append]
          have I0 := Lib.hid (fun V => rin_any n 65535 V)
          clear kc1 hs1 zs1 yc1
          go_wp2_with (first | (go_at_call 42; (with_reducible refine (I0.out _).mono ?_); rintro e w5 ⟨rfl, hw5⟩; replace hw5 := hw5.symm; subst hw5; have a12 := cellAt (i := 12) (v := .int .i64 n) PS.out.hX rfl) | (go_at_call 44; (with_reducible refine (Ns1.out _).mono ?_); rintro e w6 ⟨rfl, hb6⟩))
          go_meet
          exact ⟨by rw [HRES.out, HB.out]; rfl, by rw [HFT.out]; show Value.bool _ = Value.bool (fits n); unfold fits; congr 1; rw [Bool.eq_iff_iff]; simp, PS.out.bl.trans (hb6.mono PS.out.bl.size)⟩
        · skip
          have a12 := cellAt (i := 12) (v := .int .i64 n) PS.out.hX rfl
          have a13 := cellAt (i := 13) (v := .int .i64 d) PS.out.hX rfl
          obtain ⟨s1, hs1⟩ : ∃ s, s = bs (be (u64 n) 2) := ⟨_, rfl⟩
          have zs1 : s1.size = 2 := by rw [hs1, bs_size, be_length]
          have Ns1 : Hid (∀ V, Calls Try.prog 44 #[.int .i64 n, .int .i64 2] V fun e w' => e = .returned (.string s1) ∧ Below V.heap.size V w') := fun V => by rw [hs1]; exact rnum_any n 2 V (by omega)
          obtain ⟨s2, hs2⟩ : ∃ s, s = bs (be (u64 d) 2) := ⟨_, rfl⟩
          have zs2 : s2.size = 2 := by rw [hs2, bs_size, be_length]
          have Ns2 : Hid (∀ V, Calls Try.prog 44 #[.int .i64 d, .int .i64 2] V fun e w' => e = .returned (.string s2) ∧ Below V.heap.size V w') := fun V => by rw [hs2]; exact rnum_any d 2 V (by omega)
          obtain ⟨c1, kc1⟩ : ∃ c, c = s0 ++ s1 := ⟨_, rfl⟩
          have yc1 : c1.size = s0.size + s1.size := by rw [kc1, ByteArray.size_append]
          have rc1 := cat_run s0 s1 c1 kc1 (by omega)
          obtain ⟨c2, kc2⟩ : ∃ c, c = c1 ++ s2 := ⟨_, rfl⟩
          have yc2 : c2.size = c1.size + s2.size := by rw [kc2, ByteArray.size_append]
          have rc2 := cat_run c1 s2 c2 kc2 (by omega)
          have HB : Hid (c2 = bs (be (u64 8) 1 ++ (be (u64 n) 2 ++ be (u64 d) 2))) := by
            show _ = _
            rw [kc2, kc1, HS0.out, hs1, hs2, bs_append, bs_append, List.append_assoc]
          obtain ⟨F, hF⟩ : ∃ F, F = fits n := ⟨_, rfl⟩
          obtain ⟨G, hG⟩ : ∃ F, F = fits d := ⟨_, rfl⟩
          have I0 : Hid (∀ V, Calls Try.prog 42 #[.int .i64 n, .int .i64 65535] V fun e w' => e = .returned (.bool F) ∧ w' = V) := fun V => by rw [hF]; exact rin_any n 65535 V
          have I1 : Hid (∀ V, Calls Try.prog 42 #[.int .i64 d, .int .i64 65535] V fun e w' => e = .returned (.bool G) ∧ w' = V) := fun V => by rw [hG]; exact rin_any d 65535 V
          have HF : Hid (ActL.fit ⟨8, p, id, ad, wt, md, sm, ky, va, df, tl, ts, n, d⟩ = (F && G)) := by show _ = _; rw [hF, hG]; rfl
          clear kc1 kc2 hs1 hs2 zs1 zs2 yc1 yc2 hF hG
          go_upto_region 25 with (fail)
          go_cut [5] (fun s5 wx => s5 = .bool (F && G) ∧ wx = W)
          case first =>
            cases F with
            | false =>
              go_wp2_with (first | (go_at_call 42; (with_reducible refine (I0.out _).mono ?_); rintro e w5 ⟨rfl, hw5⟩; replace hw5 := hw5.symm; subst hw5))
              go_meet
              exact ⟨rfl, rfl⟩
            | true =>
              go_wp2_with (fail)
              (with_reducible refine (I0.out _).mono ?_)
              rintro e w5 ⟨rfl, hw5⟩
              replace hw5 := hw5.symm
              subst hw5
              go_wp2_with (fail)
              (with_reducible refine (I1.out _).mono ?_)
              rintro e w5 ⟨rfl, hw5⟩
              replace hw5 := hw5.symm
              subst hw5
              go_wp2_with (fail)
              go_meet
              exact ⟨by cases G <;> rfl, rfl⟩
          case rest =>
          obtain ⟨rfl, hwc⟩ := hcut
          replace hwc := hwc.symm
          subst hwc
          go_upto_region 26 with (fail)
          refine wp_region_noPanic ?_
          refine wp_region_held_drew (S := XS X #[.int .i64 8, .string p, .int .i64 id, .string ad, .float .f64 wt, .int .i64 md, .bool sm, .bool ky, .int .u32 (va : Nat), .bool df, .int .i64 tl, .int .i64 ts, .int .i64 n, .int .i64 d] 47 w) (by kernel_rfl) PS.out.drew (fun hHeld => ?_)
          refine wpAnyH_take (i := 0) (oi := { dst := some 103, op := Op.move (Operand.tmp 4), type := 9, pos := "ref.go:86", after := #[], guard := none }) (v := ?_) rfl (by kernel_rfl) (by kernel_rfl) (by kernel_rfl) (fun _ _ _ h => h) (Or.inl ⟨by rfl, ?_⟩) (by assumption) ?_
          rotate_left 1
          · intro w hSw
            go_simp
            first | done | with_reducible rfl
          try simp only [Act.put, List.setIfInBounds_toArray, List.set_cons_zero, List.set_cons_succ]
          refine wpAnyH_take (i := 1) (oi := { dst := some 104, op := Op.fieldAddr 47 (Operand.tmp 1) 4, type := 0, pos := "ref.go:86", after := #[], guard := none }) (v := ?_) rfl (by kernel_rfl) (by kernel_rfl) (by kernel_rfl) (fun _ _ _ h => h) (Or.inl ⟨by rfl, ?_⟩) (by assumption) ?_
          rotate_left 1
          · intro w hSw
            go_simp
            first | done | with_reducible rfl
          try simp only [Act.put, List.setIfInBounds_toArray, List.set_cons_zero, List.set_cons_succ]
          refine wpAnyH_take (i := 2) (oi := { dst := some 105, op := Op.load 3 (Operand.tmp 104), type := 3, pos := "ref.go:86", after := #[{ on := 1, ground := Ground.data }], guard := none }) (v := ?_) rfl (by kernel_rfl) (by kernel_rfl) (by kernel_rfl) (fun _ _ _ h => h) (Or.inl ⟨by rfl, ?_⟩) (by assumption) ?_
          rotate_left 1
          · intro w hSw
            have q0 := cellAt (i := 12) (v := .int .i64 n) hSw.hX rfl
            go_simp
            first | done | with_reducible rfl
          try simp only [Act.put, List.setIfInBounds_toArray, List.set_cons_zero, List.set_cons_succ]
          refine wpAnyH_take (i := 5) (oi := { dst := some 108, op := Op.fieldAddr 47 (Operand.tmp 1) 5, type := 0, pos := "ref.go:86", after := #[], guard := none }) (v := ?_) rfl (by kernel_rfl) (by kernel_rfl) (by kernel_rfl) (fun _ _ _ h => h) (Or.inl ⟨by rfl, ?_⟩) (by assumption) ?_
          rotate_left 1
          · intro w hSw
            go_simp
            first | done | with_reducible rfl
          try simp only [Act.put, List.setIfInBounds_toArray, List.set_cons_zero, List.set_cons_succ]
          refine wpAnyH_take (i := 6) (oi := { dst := some 109, op := Op.load 3 (Operand.tmp 108), type := 3, pos := "ref.go:86", after := #[{ on := 5, ground := Ground.data }], guard := none }) (v := ?_) rfl (by kernel_rfl) (by kernel_rfl) (by kernel_rfl) (fun _ _ _ h => h) (Or.inl ⟨by rfl, ?_⟩) (by assumption) ?_
          rotate_left 1
          · intro w hSw
            have q0 := cellAt (i := 13) (v := .int .i64 d) hSw.hX rfl
            go_simp
            first | done | with_reducible rfl
          try simp only [Act.put, List.setIfInBounds_toArray, List.set_cons_zero, List.set_cons_succ]
          refine wpAnyH_ready (rs := [3]) (by kernel_rfl) (by simp) ?_
          refine AllReadyH.cons (o := { dst := some 106, op := Op.call { callee := Callee.value (Operand.func 44), args := #[Operand.tmp 105, Operand.const (Value.int IntKind.i64 2)], argTypes := #[3, 3] }, type := 9, pos := "ref.go:86", after := #[{ on := 2, ground := Ground.data }], guard := none }) rfl (fun K hK => ?_) AllReadyH.nil
          go_simp
          (go_at_call 44; (with_reducible refine (Ns1.out _).mono ?_); rintro e w5 ⟨rfl, hb5⟩)
          go_simp
          refine hK.out _ _ (hHeld.below hb5) (fun hHeld => ?_)
          clear hK K
          try simp only [Act.put, List.setIfInBounds_toArray, List.set_cons_zero, List.set_cons_succ]
          refine wpAnyH_take (i := 4) (oi := { dst := some 107, op := Op.binOp BinOp.add 9 (Operand.tmp 103) (Operand.tmp 106) 9, type := 9, pos := "ref.go:86", after := #[{ on := 0, ground := Ground.data }, { on := 3, ground := Ground.data }], guard := none }) (v := ?_) rfl (by kernel_rfl) (by kernel_rfl) (by kernel_rfl) (fun _ _ _ h => h) (Or.inl ⟨by rfl, ?_⟩) (by assumption) ?_
          rotate_left 1
          · intro w hSw
            go_simp
            first | done | with_reducible rfl
          try simp only [Act.put, List.setIfInBounds_toArray, List.set_cons_zero, List.set_cons_succ]
          refine wpAnyH_ready (rs := [7]) (by kernel_rfl) (by simp) ?_
          refine AllReadyH.cons (o := { dst := some 110, op := Op.call { callee := Callee.value (Operand.func 44), args := #[Operand.tmp 109, Operand.const (Value.int IntKind.i64 2)], argTypes := #[3, 3] }, type := 9, pos := "ref.go:86", after := #[{ on := 6, ground := Ground.data }, { on := 3, ground := Ground.chain }], guard := none }) rfl (fun K hK => ?_) AllReadyH.nil
          go_simp
          (go_at_call 44; (with_reducible refine (Ns2.out _).mono ?_); rintro e w5 ⟨rfl, hb5⟩)
          go_simp
          refine hK.out _ _ (hHeld.below hb5) (fun hHeld => ?_)
          clear hK K
          try simp only [Act.put, List.setIfInBounds_toArray, List.set_cons_zero, List.set_cons_succ]
          refine wpAnyH_take (i := 8) (oi := { dst := some 111, op := Op.binOp BinOp.add 9 (Operand.tmp 107) (Operand.tmp 110) 9, type := 9, pos := "ref.go:86", after := #[{ on := 4, ground := Ground.data }, { on := 7, ground := Ground.data }], guard := none }) (v := ?_) rfl (by kernel_rfl) (by kernel_rfl) (by kernel_rfl) (fun _ _ _ h => h) (Or.inl ⟨by rfl, ?_⟩) (by assumption) ?_
          rotate_left 1
          · intro w hSw
            go_simp
            first | done | with_reducible rfl
          try simp only [Act.put, List.setIfInBounds_toArray, List.set_cons_zero, List.set_cons_succ]
          refine wpAnyH_ready (rs := [9]) (by kernel_rfl) (by simp) ?_
          refine AllReadyH.cons (o := { dst := some 4, op := Op.assign (Operand.tmp 111), type := 9, pos := "ref.go:86", after := #[{ on := 8, ground := Ground.data }, { on := 7, ground := Ground.chain }, { on := 0, ground := Ground.phase }, { on := 1, ground := Ground.phase }, { on := 2, ground := Ground.phase }, { on := 3, ground := Ground.phase }, { on := 4, ground := Ground.phase }, { on := 5, ground := Ground.phase }, { on := 6, ground := Ground.phase }, { on := 7, ground := Ground.phase }, { on := 8, ground := Ground.phase }], guard := none }) rfl (fun K hK => ?_) AllReadyH.nil
          go_simp
          refine hK.out _ _ hHeld (fun hHeld => ?_)
          clear hK K
          try simp only [Act.put, List.setIfInBounds_toArray, List.set_cons_zero, List.set_cons_succ]
          refine wpAnyH_done (by kernel_rfl) ?_ _
          refine NoPanic.normal ?_
          try simp only [Exit.then]
          go_wp2_with (fail)
          go_meet
          exact ⟨by rw [HRES.out, HB.out]; rfl, by rw [HFT.out, HF.out], hHeld.bl⟩
        · skip
          have a1 := cellAt (i := 1) (v := .string p) PS.out.hX rfl
          obtain ⟨s1, hs1⟩ : ∃ s, s = bs (be (u64 (p.size : Int)) 2) := ⟨_, rfl⟩
          have zs1 : s1.size = 2 := by rw [hs1, bs_size, be_length]
          have Ns1 : Hid (∀ V, Calls Try.prog 44 #[.int .i64 (p.size : Nat), .int .i64 2] V fun e w' => e = .returned (.string s1) ∧ Below V.heap.size V w') := fun V => by rw [hs1]; exact rnum_any (p.size : Int) 2 V (by omega)
          have hp9 := HOK.out.1.1
          obtain ⟨c1, kc1⟩ : ∃ c, c = s0 ++ s1 := ⟨_, rfl⟩
          have yc1 : c1.size = s0.size + s1.size := by rw [kc1, ByteArray.size_append]
          have rc1 := cat_run s0 s1 c1 kc1 (by omega)
          obtain ⟨c2, kc2⟩ : ∃ c, c = c1 ++ p := ⟨_, rfl⟩
          have yc2 : c2.size = c1.size + p.size := by rw [kc2, ByteArray.size_append]
          have rc2 := cat_run c1 p c2 kc2 (by omega)
          have HB : Hid (c2 = bs (be (u64 9) 1 ++ (be (u64 (p.size : Int)) 2 ++ p.data.toList))) := by
            show _ = _
            rw [kc2, kc1, HS0.out, hs1, bs_append, ← bs_of p, bs_append, bs_of, List.append_assoc]
          obtain ⟨F, hF⟩ : ∃ F, F = fits (p.size : Int) := ⟨_, rfl⟩
          have hF1 : decide ((p.size : Int) ≤ 65535) = F := by rw [hF]; unfold fits; simp only [decide_eq_decide]; omega
          have hF2 : decide (p.size ≤ 65535) = F := by rw [hF]; unfold fits; simp only [decide_eq_decide]; omega
          have HF : Hid (ActL.fit ⟨9, p, id, ad, wt, md, sm, ky, va, df, tl, ts, n, d⟩ = F) := hF.symm
          clear kc1 kc2 hs1 zs1 yc1 yc2 hF hp9
          go_upto_region 9 with (fail)
          refine wp_region_noPanic ?_
          refine wp_region_held_drew (S := XS X #[.int .i64 9, .string p, .int .i64 id, .string ad, .float .f64 wt, .int .i64 md, .bool sm, .bool ky, .int .u32 (va : Nat), .bool df, .int .i64 tl, .int .i64 ts, .int .i64 n, .int .i64 d] 47 w) (by kernel_rfl) PS.out.drew (fun hHeld => ?_)
          refine wpAnyH_take (i := 0) (oi := { dst := some 29, op := Op.move (Operand.tmp 4), type := 9, pos := "ref.go:73", after := #[], guard := none }) (v := ?_) rfl (by kernel_rfl) (by kernel_rfl) (by kernel_rfl) (fun _ _ _ h => h) (Or.inl ⟨by rfl, ?_⟩) (by assumption) ?_
          rotate_left 1
          · intro w hSw
            go_simp
            first | done | with_reducible rfl
          try simp only [Act.put, List.setIfInBounds_toArray, List.set_cons_zero, List.set_cons_succ]
          refine wpAnyH_take (i := 1) (oi := { dst := some 30, op := Op.fieldAddr 47 (Operand.tmp 1) 1, type := 0, pos := "ref.go:73", after := #[], guard := none }) (v := ?_) rfl (by kernel_rfl) (by kernel_rfl) (by kernel_rfl) (fun _ _ _ h => h) (Or.inl ⟨by rfl, ?_⟩) (by assumption) ?_
          rotate_left 1
          · intro w hSw
            go_simp
            first | done | with_reducible rfl
          try simp only [Act.put, List.setIfInBounds_toArray, List.set_cons_zero, List.set_cons_succ]
          refine wpAnyH_take (i := 2) (oi := { dst := some 31, op := Op.load 9 (Operand.tmp 30), type := 9, pos := "ref.go:73", after := #[{ on := 1, ground := Ground.data }], guard := none }) (v := ?_) rfl (by kernel_rfl) (by kernel_rfl) (by kernel_rfl) (fun _ _ _ h => h) (Or.inl ⟨by rfl, ?_⟩) (by assumption) ?_
          rotate_left 1
          · intro w hSw
            have q0 := cellAt (i := 1) (v := .string p) hSw.hX rfl
            go_simp
            first | done | with_reducible rfl
          try simp only [Act.put, List.setIfInBounds_toArray, List.set_cons_zero, List.set_cons_succ]
          refine wpAnyH_take (i := 6) (oi := { dst := some 35, op := Op.fieldAddr 47 (Operand.tmp 1) 1, type := 0, pos := "ref.go:73", after := #[], guard := none }) (v := ?_) rfl (by kernel_rfl) (by kernel_rfl) (by kernel_rfl) (fun _ _ _ h => h) (Or.inl ⟨by rfl, ?_⟩) (by assumption) ?_
          rotate_left 1
          · intro w hSw
            go_simp
            first | done | with_reducible rfl
          try simp only [Act.put, List.setIfInBounds_toArray, List.set_cons_zero, List.set_cons_succ]
          refine wpAnyH_take (i := 7) (oi := { dst := some 36, op := Op.load 9 (Operand.tmp 35), type := 9, pos := "ref.go:73", after := #[{ on := 6, ground := Ground.data }], guard := none }) (v := ?_) rfl (by kernel_rfl) (by kernel_rfl) (by kernel_rfl) (fun _ _ _ h => h) (Or.inl ⟨by rfl, ?_⟩) (by assumption) ?_
          rotate_left 1
          · intro w hSw
            have q0 := cellAt (i := 1) (v := .string p) hSw.hX rfl
            go_simp
            first | done | with_reducible rfl
          try simp only [Act.put, List.setIfInBounds_toArray, List.set_cons_zero, List.set_cons_succ]
          refine wpAnyH_ready (rs := [3]) (by kernel_rfl) (by simp) ?_
          refine AllReadyH.cons (o := { dst := some 32, op := Op.call { callee := Callee.builtin Builtin.len, args := #[Operand.tmp 31], argTypes := #[9] }, type := 3, pos := "ref.go:73", after := #[{ on := 2, ground := Ground.data }], guard := none }) rfl (fun K hK => ?_) AllReadyH.nil
          go_simp
          refine hK.out _ _ hHeld (fun hHeld => ?_)
          clear hK K
          try simp only [Act.put, List.setIfInBounds_toArray, List.set_cons_zero, List.set_cons_succ]
          refine wpAnyH_ready (rs := [4]) (by kernel_rfl) (by simp) ?_
          refine AllReadyH.cons (o := { dst := some 33, op := Op.call { callee := Callee.value (Operand.func 44), args := #[Operand.tmp 32, Operand.const (Value.int IntKind.i64 2)], argTypes := #[3, 3] }, type := 9, pos := "ref.go:73", after := #[{ on := 3, ground := Ground.data }], guard := none }) rfl (fun K hK => ?_) AllReadyH.nil
          go_simp
          (go_at_call 44; (with_reducible refine (Ns1.out _).mono ?_); rintro e w5 ⟨rfl, hb5⟩)
          go_simp
          refine hK.out _ _ (hHeld.below hb5) (fun hHeld => ?_)
          clear hK K
          try simp only [Act.put, List.setIfInBounds_toArray, List.set_cons_zero, List.set_cons_succ]
          refine wpAnyH_take (i := 5) (oi := { dst := some 34, op := Op.binOp BinOp.add 9 (Operand.tmp 29) (Operand.tmp 33) 9, type := 9, pos := "ref.go:73", after := #[{ on := 0, ground := Ground.data }, { on := 4, ground := Ground.data }], guard := none }) (v := ?_) rfl (by kernel_rfl) (by kernel_rfl) (by kernel_rfl) (fun _ _ _ h => h) (Or.inl ⟨by rfl, ?_⟩) (by assumption) ?_
          rotate_left 1
          · intro w hSw
            go_simp
            first | done | with_reducible rfl
          try simp only [Act.put, List.setIfInBounds_toArray, List.set_cons_zero, List.set_cons_succ]
          refine wpAnyH_take (i := 8) (oi := { dst := some 37, op := Op.binOp BinOp.add 9 (Operand.tmp 34) (Operand.tmp 36) 9, type := 9, pos := "ref.go:73", after := #[{ on := 5, ground := Ground.data }, { on := 7, ground := Ground.data }], guard := none }) (v := ?_) rfl (by kernel_rfl) (by kernel_rfl) (by kernel_rfl) (fun _ _ _ h => h) (Or.inl ⟨by rfl, ?_⟩) (by assumption) ?_
          rotate_left 1
          · intro w hSw
            go_simp
            first | done | with_reducible rfl
          try simp only [Act.put, List.setIfInBounds_toArray, List.set_cons_zero, List.set_cons_succ]
          refine wpAnyH_ready (rs := [9]) (by kernel_rfl) (by simp) ?_
          refine AllReadyH.cons (o := { dst := some 4, op := Op.assign (Operand.tmp 37), type := 9, pos := "ref.go:73", after := #[{ on := 8, ground := Ground.data }, { on := 4, ground := Ground.chain }, { on := 0, ground := Ground.phase }, { on := 1, ground := Ground.phase }, { on := 2, ground := Ground.phase }, { on := 3, ground := Ground.phase }, { on := 4, ground := Ground.phase }, { on := 5, ground := Ground.phase }, { on := 6, ground := Ground.phase }, { on := 7, ground := Ground.phase }, { on := 8, ground := Ground.phase }], guard := none }) rfl (fun K hK => ?_) AllReadyH.nil
          go_simp
          refine hK.out _ _ hHeld (fun hHeld => ?_)
          clear hK K
          try simp only [Act.put, List.setIfInBounds_toArray, List.set_cons_zero, List.set_cons_succ]
          refine wpAnyH_done (by kernel_rfl) ?_ _
          refine NoPanic.normal ?_
          try simp only [Exit.then]
          go_wp2_with (fail)
          go_meet
          exact ⟨by rw [HRES.out, HB.out]; rfl, by rw [HFT.out, HF.out], hHeld.bl⟩
        · skip
          go_wp2_with (fail)
          go_meet
          exact ⟨by rw [HRES.out, HS0.out]; show Value.string (bs (be (u64 10) 1)) = Value.string (bs (be (u64 10) 1 ++ [])); rw [List.append_nil], by rw [HFT.out]; rfl, PS.out.bl⟩
      case rest =>
      obtain ⟨rfl, rfl, hbl⟩ := hcut
      have BL := Lib.hid hbl
      clear hbl
      cases ft with
      | false =>
        go_wp2_with (fail)
        go_ret2
        exact ⟨rfl, BL.out⟩
      | true =>
        go_wp2_with (fail)
        go_ret2
        exact ⟨rfl, BL.out⟩
end Go.Proofs.Ytmijfhfjhbckdaa
