import Derived.Test.YtmijfhfjhbckdaaRefV
/- The document's Config. -/
namespace Go.Proofs.Ytmijfhfjhbckdaa
set_option maxRecDepth 100000
open Go.RowKit
theorem wp_cut {c : Code} {Q : Exit → Act → World → Prop} {a : Act} {w : World} (R : Act → World → Prop) (h : c.wp Try.prog (fun e a w => e = .normal ∧ R a w) a w) (k : ∀ a w, R a w → Q .normal a w) : c.wp Try.prog Q a w :=
  Code.wp_mono (fun _ _ _ ⟨he, hr⟩ => he ▸ k _ _ hr) h
theorem rconfig_end {g k : Nat} {a0 a1 a2 a3 a4 a5 a6 a7 a8 b0 b1 b2 x y : Value} {W : World} {tmps : Array Value} (h2 : tmps.getD 2 undef = .pointer (some ⟨g, 0, none⟩)) (h3 : tmps.getD 3 undef = .pointer (some ⟨k, 0, none⟩)) (h4 : tmps.getD 4 undef = x) (h5 : tmps.getD 5 undef = y)
    (h : W.heap[g]? = some (.cells #[a0, a1, a2, a3, a4, a5, a6, a7, a8] 27 (0, 0))) (h' : W.heap[k]? = some (.cells #[b0, b1, b2] 29 (0, 0))) :
    (results Try.f8 tmps).run Try.prog W = .ok (.tuple #[.agg #[a0, a1, a2, a3, a4, a5, a6, a7, a8], .agg #[b0, b1, b2], x, y]) W := by
  have c0 : W.cell? ⟨g, 0, none⟩ = some a0 := cellAt h rfl
  have c1 : W.cell? ⟨g, 1, none⟩ = some a1 := cellAt h rfl
  have c2 : W.cell? ⟨g, 2, none⟩ = some a2 := cellAt h rfl
  have c3 : W.cell? ⟨g, 3, none⟩ = some a3 := cellAt h rfl
  have c4 : W.cell? ⟨g, 4, none⟩ = some a4 := cellAt h rfl
  have c5 : W.cell? ⟨g, 5, none⟩ = some a5 := cellAt h rfl
  have c6 : W.cell? ⟨g, 6, none⟩ = some a6 := cellAt h rfl
  have c7 : W.cell? ⟨g, 7, none⟩ = some a7 := cellAt h rfl
  have c8 : W.cell? ⟨g, 8, none⟩ = some a8 := cellAt h rfl
  have d0 : W.cell? ⟨k, 0, none⟩ = some b0 := cellAt h' rfl
  have d1 : W.cell? ⟨k, 1, none⟩ = some b1 := cellAt h' rfl
  have d2 : W.cell? ⟨k, 2, none⟩ = some b2 := cellAt h' rfl
  simp at h2 h3 h4 h5
  simp [results, Try.results8, go_sem, h2, h3, h4, h5, c0, c1, c2, c3, c4, c5, c6, c7, c8, d0, d1, d2]
theorem of_drew {n : Nat} {w w' : World} (h : Below n w.drew w') : Below n w w' := ⟨h.os, h.tape, h.output, h.size, h.block⟩
theorem bv_u16 (l : List UInt8) : bv (l.take 2) < 65536 := by
  have h := bv_lt (l.take 2)
  have h2 : 256 ^ (l.take 2).length ≤ 256 ^ 2 := Nat.pow_le_pow_right (by decide) (by rw [List.length_take]; omega)
  omega
theorem bv_u32 (l : List UInt8) : bv (l.take 4) < 4294967296 := by
  have h := bv_lt (l.take 4)
  have h2 : 256 ^ (l.take 4).length ≤ 256 ^ 4 := Nat.pow_le_pow_right (by decide) (by rw [List.length_take]; omega)
  omega
set_option maxHeartbeats 4000000 in
theorem rconfig_any (s : ByteArray) (w : World) (hs : s.size ≤ MX) : Calls Try.prog 8 #[.string s] w (ConfigPost s.data.toList w) := by
  obtain ⟨W, hW⟩ : ∃ W, W = (w.alloc (.cells #[.string ⟨#[]⟩, .int .i64 0, .bool false, .bool false, .int .u32 0, .bool false, .int .i64 0, .int .i64 0, .int .i64 0] 27)).alloc (.cells #[.int .i64 0, .int .i64 0, .int .i64 0] 29) := ⟨_, rfl⟩
  obtain ⟨R1, hR1⟩ : ∃ k, k = w.heap.size := ⟨_, rfl⟩
  obtain ⟨R2, hR2⟩ : ∃ k, k = w.heap.size + 1 := ⟨_, rfl⟩
  have g1 : W.heap[R1]? = some (.cells #[.string ⟨#[]⟩, .int .i64 0, .bool false, .bool false, .int .u32 0, .bool false, .int .i64 0, .int .i64 0, .int .i64 0] 27 (0, 0)) := by rw [hW, hR1, Below.heap_alloc _ _ _ (by simp)]; exact alloc_new _ _
  have g2 : W.heap[R2]? = some (.cells #[.int .i64 0, .int .i64 0, .int .i64 0] 29 (0, 0)) := by
    have h := alloc_new (w.alloc (.cells #[.string ⟨#[]⟩, .int .i64 0, .bool false, .bool false, .int .u32 0, .bool false, .int .i64 0, .int .i64 0, .int .i64 0] 27)) (.cells #[.int .i64 0, .int .i64 0, .int .i64 0] 29)
    rw [← hW] at h
    rw [hR2]
    simpa using h
  have HB : Hid (Below w.heap.size w W) := by show Below _ _ _; rw [hW]; exact ((Below.refl _ _).alloc (Nat.le_refl _) _).alloc (by simp) _
  have n12 : R1 ≠ R2 := by omega
  have n21 : R2 ≠ R1 := by omega
  have hr1 : w.heap.size ≤ R1 := by omega
  have hr2 : w.heap.size ≤ R2 := by omega
  have ak0 := cellAt (i := 0) (v := .string ⟨#[]⟩) g1 rfl
  have ak1 := cellAt (i := 1) (v := .int .i64 0) g1 rfl
  have ak2 := cellAt (i := 2) (v := .bool false) g1 rfl
  have ak3 := cellAt (i := 3) (v := .bool false) g1 rfl
  have ak4 := cellAt (i := 4) (v := .int .u32 0) g1 rfl
  have ak5 := cellAt (i := 5) (v := .bool false) g1 rfl
  have ak6 := cellAt (i := 6) (v := .int .i64 0) g1 rfl
  have ak7 := cellAt (i := 7) (v := .int .i64 0) g1 rfl
  have ak8 := cellAt (i := 8) (v := .int .i64 0) g1 rfl
  have af0 := Lib.frozen_of_heap g1 0
  have af1 := Lib.frozen_of_heap g1 1
  have af2 := Lib.frozen_of_heap g1 2
  have af3 := Lib.frozen_of_heap g1 3
  have af4 := Lib.frozen_of_heap g1 4
  have af5 := Lib.frozen_of_heap g1 5
  have af6 := Lib.frozen_of_heap g1 6
  have af7 := Lib.frozen_of_heap g1 7
  have af8 := Lib.frozen_of_heap g1 8
  have bk0 := cellAt (i := 0) (v := .int .i64 0) g2 rfl
  have bk1 := cellAt (i := 1) (v := .int .i64 0) g2 rfl
  have bk2 := cellAt (i := 2) (v := .int .i64 0) g2 rfl
  have bf0 := Lib.frozen_of_heap g2 0
  have bf1 := Lib.frozen_of_heap g2 1
  have bf2 := Lib.frozen_of_heap g2 2

  have K1 := Lib.hid g1
  have K2 := Lib.hid g2
  clear g1 g2
  by_cases h20 : s.data.toList.length < 20
  · have HL := Lib.hid h20
    have q20 : s.size < 20 := h20
    have l20 : (s.size : Int) < 20 := by omega
    clear h20
    go_enter Try.func8, Try.ntmps8
    · go_upto_region 2 with (fail)
      rw [← hW, ← hR2, ← hR1]
      clear hW hR1 hR2
      go_wp2_with (fail)
      refine bodyPost_ret (rconfig_end (g := R1) (k := R2) rfl rfl rfl rfl ?_ ?_) rfl ⟨?_, .inl ⟨HL.out, rfl⟩⟩
      · rw [heap_off R1 R2 n12, heap_off R1 R2 n12, heap_off R1 R2 n12]
        exact set9 K1.out
      · refine set3 (a0 := .int .i64 0) (a1 := .int .i64 0) (a2 := .int .i64 0) ?_
        rw [heap_off R2 R1 n21, heap_off R2 R1 n21, heap_off R2 R1 n21, heap_off R2 R1 n21, heap_off R2 R1 n21, heap_off R2 R1 n21, heap_off R2 R1 n21, heap_off R2 R1 n21, heap_off R2 R1 n21]
        exact K2.out
      · exact below3 (below9 HB.out hr1) hr2

  · have q20 : ¬ s.size < 20 := h20
    have h20 : 20 ≤ s.size := by omega
    obtain ⟨n, hn⟩ : ∃ n, n = s.size := ⟨_, rfl⟩
    obtain ⟨m, hm⟩ : ∃ x, x = (tunP s.data.toList).mode := ⟨_, rfl⟩
    obtain ⟨va, hva⟩ : ∃ x, x = (tunP s.data.toList).value := ⟨_, rfl⟩
    obtain ⟨tt, htt⟩ : ∃ x, x = (tunP s.data.toList).ttl := ⟨_, rfl⟩
    obtain ⟨tz, htz⟩ : ∃ x, x = (tunP s.data.toList).tos := ⟨_, rfl⟩
    obtain ⟨B1, hB1⟩ : ∃ x, x = ((tunP s.data.toList).bits % 2 == 1) := ⟨_, rfl⟩
    obtain ⟨B2, hB2⟩ : ∃ x, x = ((tunP s.data.toList).bits / 2 % 2 == 1) := ⟨_, rfl⟩
    obtain ⟨B4, hB4⟩ : ∃ x, x = ((tunP s.data.toList).bits / 4 % 2 == 1) := ⟨_, rfl⟩
    obtain ⟨mt, hmt⟩ : ∃ x, x = bv ((s.data.toList.drop 12).take 2) := ⟨_, rfl⟩
    obtain ⟨by4, hby⟩ : ∃ x, x = bv ((s.data.toList.drop 15).take 4) := ⟨_, rfl⟩
    obtain ⟨en, hen⟩ : ∃ x, x = s[14].toNat := ⟨_, rfl⟩
    obtain ⟨li, hli⟩ : ∃ x, x = s[19].toNat := ⟨_, rfl⟩
    obtain ⟨sf, hsf⟩ : ∃ x, x = s.extract 8 12 := ⟨_, rfl⟩
    obtain ⟨sm, hsm⟩ : ∃ x, x = s.extract 12 14 := ⟨_, rfl⟩
    obtain ⟨sb, hsb⟩ : ∃ x, x = s.extract 15 19 := ⟨_, rfl⟩
    obtain ⟨sr, hsr⟩ : ∃ x, x = s.extract 20 s.size := ⟨_, rfl⟩
    have TA : Hid (∀ V, Calls Try.prog 27 #[.string s] V fun e w' => e = .returned (.agg #[.int .i64 (m : Nat), .bool B1, .bool B2, .int .u32 (va : Nat), .bool B4, .int .i64 (tt : Nat), .int .i64 (tz : Nat)]) ∧ Below V.heap.size V w') := by
      intro V
      have h := rgtun_any s V (by omega) hs
      unfold tunV at h
      rw [← hm, ← hva, ← htt, ← htz, ← hB1, ← hB2, ← hB4] at h
      exact h
    have VA : Hid (∀ V, Calls Try.prog 28 #[.string sm] V fun e w' => e = .returned (.int .u64 (mt : Nat)) ∧ w' = V) := fun V => by
      have h := rvalue_any (s.extract 12 14) V (by rw [ByteArray.size_extract]; omega)
      rw [ext_list, ← hmt, ← hsm] at h
      exact h
    have VB : Hid (∀ V, Calls Try.prog 28 #[.string sb] V fun e w' => e = .returned (.int .u64 (by4 : Nat)) ∧ w' = V) := fun V => by
      have h := rvalue_any (s.extract 15 19) V (by rw [ByteArray.size_extract]; omega)
      rw [ext_list, ← hby, ← hsb] at h
      exact h
    have mt9 : mt < 65536 := by rw [hmt]; exact bv_u16 _
    have by9 : by4 < 4294967296 := by rw [hby]; exact bv_u32 _
    have en9 : en < 256 := by rw [hen]; exact s[14].toNat_lt
    have li9 : li < 256 := by rw [hli]; exact s[19].toNat_lt
    have w1 : IntKind.i64.wrap (mt : Int) = (mt : Int) := IntWalk.i64_in _ (by omega)
    have w2 : IntKind.i64.wrap (by4 : Int) = (by4 : Int) := IntWalk.i64_in _ (by omega)
    have w3 : IntKind.i64.wrap (en : Int) = (en : Int) := IntWalk.i64_in _ (by omega)
    have w4 : IntKind.i64.wrap (li : Int) = (li : Int) := IntWalk.i64_in _ (by omega)
    have HE : Hid (cfgV (cfgP s.data.toList) = .agg #[.string sf, .int .i64 (m : Nat), .bool B1, .bool B2, .int .u32 (va : Nat), .bool B4, .int .i64 (tt : Nat), .int .i64 (tz : Nat), .int .i64 (mt : Nat)]) := by
      show _ = _
      unfold cfgV cfgC cfgP
      simp only [← hm, ← hva, ← htt, ← htz, ← hB1, ← hB2, ← hB4, ← hmt, hsf]
      rw [extract_bs]
    have HS : Hid (stoV (cfgP s.data.toList) = .agg #[.int .i64 (en : Nat), .int .i64 (by4 : Nat), .int .i64 (li : Nat)]) := by
      show _ = _
      unfold stoV stoC cfgP
      simp only [bv_at s 14 (by omega), bv_at s 19 (by omega), ← hen, ← hli, ← hby]
    have HR : Hid (bs (s.data.toList.drop 20) = sr) := by
      show _ = _
      rw [hsr, extract_bs, List.take_of_length_le (by rw [List.length_drop]; exact Nat.le_refl _)]
    have l20 : ¬ ((s.size : Int) < 20) := by omega
    have HL : Hid (20 ≤ s.data.toList.length) := h20
    have x14 : ∀ h : 14 < s.size, (s[14]'h).toNat = en := fun _ => hen.symm
    have x19 : ∀ h : 19 < s.size, (s[19]'h).toNat = li := fun _ => hli.symm
    have i14 : (14 : Int) < (s.size : Int) := by omega
    have i19 : (19 : Int) < (s.size : Int) := by omega
    have j14 : 14 < s.size := by omega
    have j19 : 19 < s.size := by omega
    have t12 : (12 : Int) ≤ (s.size : Int) := by omega
    have t14 : (14 : Int) ≤ (s.size : Int) := by omega
    have t19 : (19 : Int) ≤ (s.size : Int) := by omega
    have t20 : (20 : Int) ≤ (s.size : Int) := by omega
    have u12 : 12 ≤ s.size := by omega
    have u14 : 14 ≤ s.size := by omega
    have u19 : 19 ≤ s.size := by omega
    have l20' : ((s.size : Int) < 20) = False := eq_false l20
    have sf' := hsf.symm
    have sm' := hsm.symm
    have sb' := hsb.symm
    have sr' := hsr.symm
    clear hm hva htt htz hB1 hB2 hB4 hmt hby hen hli hsf hsm hsb hsr hn
    go_enter Try.func8, Try.ntmps8
    go_upto_region 3 with (fail)
    rw [← hW, ← hR2, ← hR1]
    clear hW hR1 hR2
    refine wp_cut (R := fun a' V => ∃ G, a' = ⟨#[.string s, undef, .pointer (some ⟨R1, 0, none⟩), .pointer (some ⟨R2, 0, none⟩), .string ⟨#[]⟩, .int .i64 0, .pointer (some ⟨G, 0, none⟩), .string s, .int .i64 (s.size : Nat), .bool false, undef, undef, .string s, .agg #[.int .i64 (m : Nat), .bool B1, .bool B2, .int .u32 (va : Nat), .bool B4, .int .i64 (tt : Nat), .int .i64 (tz : Nat)], .string s, .string sf, .string s, .string sm, .int .u64 (mt : Nat), .int .i64 (mt : Nat), .agg #[.string sf, .int .i64 (m : Nat), .bool B1, .bool B2, .int .u32 (va : Nat), .bool B4, .int .i64 (tt : Nat), .int .i64 (tz : Nat), .int .i64 (mt : Nat)], undef, undef, undef, undef, undef, undef, undef, undef, undef, undef, undef, undef, undef, undef], []⟩ ∧ V.heap[G]? = some (.cells #[.string sf, .int .i64 (m : Nat), .bool B1, .bool B2, .int .u32 (va : Nat), .bool B4, .int .i64 (tt : Nat), .int .i64 (tz : Nat), .int .i64 (mt : Nat)] 27 (0, 0)) ∧ Below W.heap.size W V ∧ W.heap.size ≤ G) ?_ ?_
    · skip
      refine wp_region_noPanic ?_
      refine wp_region_held_drew (S := fun _ => True) (by kernel_rfl) trivial (fun hHeld => ?_)
      refine wpAnyH_take (i := 0) (oi := { dst := some 12, op := Op.move (Operand.tmp 0), type := 9, pos := "ref.go:172", after := #[], guard := none }) (v := ?_) rfl (by kernel_rfl) (by kernel_rfl) (by kernel_rfl) (fun _ _ _ h => h) (Or.inl ⟨by rfl, ?_⟩) (by assumption) ?_
      rotate_left 1
      · intro w hSw
        go_simp
        first | done | with_reducible rfl
      try simp only [Act.put, List.setIfInBounds_toArray, List.set_cons_zero, List.set_cons_succ]
      refine wpAnyH_take (i := 2) (oi := { dst := some 14, op := Op.move (Operand.tmp 0), type := 9, pos := "ref.go:172", after := #[], guard := none }) (v := ?_) rfl (by kernel_rfl) (by kernel_rfl) (by kernel_rfl) (fun _ _ _ h => h) (Or.inl ⟨by rfl, ?_⟩) (by assumption) ?_
      rotate_left 1
      · intro w hSw
        go_simp
        first | done | with_reducible rfl
      try simp only [Act.put, List.setIfInBounds_toArray, List.set_cons_zero, List.set_cons_succ]
      refine wpAnyH_take (i := 3) (oi := { dst := some 15, op := Op.slice 9 (Operand.tmp 14) (some (Operand.const (Value.int IntKind.i64 8))) (some (Operand.const (Value.int IntKind.i64 12))) none, type := 9, pos := "ref.go:172", after := #[{ on := 2, ground := Ground.data }], guard := none }) (v := ?_) rfl (by kernel_rfl) (by kernel_rfl) (by kernel_rfl) (fun _ _ _ h => h) (Or.inl ⟨by rfl, ?_⟩) (by assumption) ?_
      rotate_left 1
      · intro w hSw
        go_simp
        first | done | with_reducible rfl
      try simp only [Act.put, List.setIfInBounds_toArray, List.set_cons_zero, List.set_cons_succ]
      refine wpAnyH_take (i := 4) (oi := { dst := some 16, op := Op.move (Operand.tmp 0), type := 9, pos := "ref.go:172", after := #[], guard := none }) (v := ?_) rfl (by kernel_rfl) (by kernel_rfl) (by kernel_rfl) (fun _ _ _ h => h) (Or.inl ⟨by rfl, ?_⟩) (by assumption) ?_
      rotate_left 1
      · intro w hSw
        go_simp
        first | done | with_reducible rfl
      try simp only [Act.put, List.setIfInBounds_toArray, List.set_cons_zero, List.set_cons_succ]
      refine wpAnyH_take (i := 5) (oi := { dst := some 17, op := Op.slice 9 (Operand.tmp 16) (some (Operand.const (Value.int IntKind.i64 12))) (some (Operand.const (Value.int IntKind.i64 14))) none, type := 9, pos := "ref.go:172", after := #[{ on := 4, ground := Ground.data }], guard := none }) (v := ?_) rfl (by kernel_rfl) (by kernel_rfl) (by kernel_rfl) (fun _ _ _ h => h) (Or.inl ⟨by rfl, ?_⟩) (by assumption) ?_
      rotate_left 1
      · intro w hSw
        go_simp
        first | done | with_reducible rfl
      try simp only [Act.put, List.setIfInBounds_toArray, List.set_cons_zero, List.set_cons_succ]
      refine wpAnyH_ready (rs := [1, 9]) (by kernel_rfl) (by simp) ?_
      refine AllReadyH.cons (o := { dst := some 13, op := Op.call { callee := Callee.value (Operand.func 27), args := #[Operand.tmp 12], argTypes := #[9] }, type := 25, pos := "ref.go:172", after := #[{ on := 0, ground := Ground.data }], guard := none }) rfl (fun K hK => ?_) (AllReadyH.cons (o := { dst := some 6, op := Op.alloc 27, type := 0, pos := "ref.go:172", after := #[], guard := none }) rfl (fun K hK => ?_) AllReadyH.nil)
      · skip
        go_simp
        (go_at_call 27; (with_reducible refine (TA.out _).mono ?_); rintro e w5 ⟨rfl, hb5⟩)
        go_simp
        refine hK.out _ _ trivial (fun hHeld => ?_)
        clear hK K
        try simp only [Act.put, List.setIfInBounds_toArray, List.set_cons_zero, List.set_cons_succ]
        refine wpAnyH_ready (rs := [6, 9]) (by kernel_rfl) (by simp) ?_
        refine AllReadyH.cons (o := { dst := some 18, op := Op.call { callee := Callee.value (Operand.func 28), args := #[Operand.tmp 17], argTypes := #[9] }, type := 76, pos := "ref.go:172", after := #[{ on := 5, ground := Ground.data }, { on := 1, ground := Ground.chain }], guard := none }) rfl (fun K hK => ?_) (AllReadyH.cons (o := { dst := some 6, op := Op.alloc 27, type := 0, pos := "ref.go:172", after := #[], guard := none }) rfl (fun K hK => ?_) AllReadyH.nil)
        · skip
          go_simp
          (go_at_call 28; (with_reducible refine (VA.out _).mono ?_); rintro e w6 ⟨rfl, hw6⟩; replace hw6 := hw6.symm; subst hw6)
          go_simp
          refine hK.out _ _ trivial (fun hHeld => ?_)
          clear hK K
          try simp only [Act.put, List.setIfInBounds_toArray, List.set_cons_zero, List.set_cons_succ]
          refine wpAnyH_take (i := 7) (oi := { dst := some 19, op := Op.convert 76 3 (Operand.tmp 18), type := 3, pos := "ref.go:172", after := #[{ on := 6, ground := Ground.data }], guard := none }) (v := ?_) rfl (by kernel_rfl) (by kernel_rfl) (by kernel_rfl) (fun _ _ _ h => h) (Or.inl ⟨by rfl, ?_⟩) (by assumption) ?_
          rotate_left 1
          · intro w hSw
            go_simp
            first | done | with_reducible rfl
          try simp only [Act.put, List.setIfInBounds_toArray, List.set_cons_zero, List.set_cons_succ]
          refine wpAnyH_take (i := 8) (oi := { dst := some 20, op := Op.build 27 #[(1, Operand.tmp 13), (0, Operand.tmp 15), (2, Operand.tmp 19)], type := 27, pos := "ref.go:172", after := #[{ on := 1, ground := Ground.data }, { on := 3, ground := Ground.data }, { on := 7, ground := Ground.data }], guard := none }) (v := ?_) rfl (by kernel_rfl) (by kernel_rfl) (by kernel_rfl) (fun _ _ _ h => h) (Or.inl ⟨by rfl, ?_⟩) (by assumption) ?_
          rotate_left 1
          · intro w hSw
            go_simp
            first | done | with_reducible rfl
          try simp only [Act.put, List.setIfInBounds_toArray, List.set_cons_zero, List.set_cons_succ]
          refine wpAnyH_ready (rs := [9]) (by kernel_rfl) (by simp) ?_
          refine AllReadyH.cons (o := { dst := some 6, op := Op.alloc 27, type := 0, pos := "ref.go:172", after := #[], guard := none }) rfl (fun K hK => ?_) AllReadyH.nil
          go_simp
          refine hK.out _ _ trivial (fun hHeld => ?_)
          clear hK K
          try simp only [Act.put, List.setIfInBounds_toArray, List.set_cons_zero, List.set_cons_succ]
          refine wpAnyH_ready (rs := [10]) (by kernel_rfl) (by simp) ?_
          refine AllReadyH.cons (o := { dst := none, op := Op.store 27 (Operand.tmp 6) (Operand.tmp 20), type := 0, pos := "ref.go:172", after := #[{ on := 9, ground := Ground.data }, { on := 8, ground := Ground.data }, { on := 6, ground := Ground.chain }, { on := 0, ground := Ground.phase }, { on := 1, ground := Ground.phase }, { on := 2, ground := Ground.phase }, { on := 3, ground := Ground.phase }, { on := 4, ground := Ground.phase }, { on := 5, ground := Ground.phase }, { on := 6, ground := Ground.phase }, { on := 7, ground := Ground.phase }, { on := 8, ground := Ground.phase }, { on := 9, ground := Ground.phase }], guard := none }) rfl (fun K hK => ?_) AllReadyH.nil
          go_simp
          refine hK.out _ _ trivial (fun hHeld => ?_)
          clear hK K
          try simp only [Act.put, List.setIfInBounds_toArray, List.set_cons_zero, List.set_cons_succ]
          refine wpAnyH_done (by kernel_rfl) ?_ _
          refine NoPanic.normal ?_
          obtain ⟨G, hG⟩ : ∃ G, G = w5.heap.size := ⟨_, rfl⟩
          refine ⟨rfl, G, by rw [hG], ?_, ?_, ?_⟩
          · rw [hG]; exact alloc_new _ _
          · exact (of_drew hb5).trans ((Below.refl _ _).alloc (by exact hb5.size) _)
          · rw [hG]; exact hb5.size
        · skip
          go_simp
          refine hK.out _ _ trivial (fun hHeld => ?_)
          clear hK K
          try simp only [Act.put, List.setIfInBounds_toArray, List.set_cons_zero, List.set_cons_succ]
          refine wpAnyH_ready (rs := [6]) (by kernel_rfl) (by simp) ?_
          refine AllReadyH.cons (o := { dst := some 18, op := Op.call { callee := Callee.value (Operand.func 28), args := #[Operand.tmp 17], argTypes := #[9] }, type := 76, pos := "ref.go:172", after := #[{ on := 5, ground := Ground.data }, { on := 1, ground := Ground.chain }], guard := none }) rfl (fun K hK => ?_) AllReadyH.nil
          go_simp
          (go_at_call 28; (with_reducible refine (VA.out _).mono ?_); rintro e w6 ⟨rfl, hw6⟩; replace hw6 := hw6.symm; subst hw6)
          go_simp
          refine hK.out _ _ trivial (fun hHeld => ?_)
          clear hK K
          try simp only [Act.put, List.setIfInBounds_toArray, List.set_cons_zero, List.set_cons_succ]
          refine wpAnyH_take (i := 7) (oi := { dst := some 19, op := Op.convert 76 3 (Operand.tmp 18), type := 3, pos := "ref.go:172", after := #[{ on := 6, ground := Ground.data }], guard := none }) (v := ?_) rfl (by kernel_rfl) (by kernel_rfl) (by kernel_rfl) (fun _ _ _ h => h) (Or.inl ⟨by rfl, ?_⟩) (by assumption) ?_
          rotate_left 1
          · intro w hSw
            go_simp
            first | done | with_reducible rfl
          try simp only [Act.put, List.setIfInBounds_toArray, List.set_cons_zero, List.set_cons_succ]
          refine wpAnyH_take (i := 8) (oi := { dst := some 20, op := Op.build 27 #[(1, Operand.tmp 13), (0, Operand.tmp 15), (2, Operand.tmp 19)], type := 27, pos := "ref.go:172", after := #[{ on := 1, ground := Ground.data }, { on := 3, ground := Ground.data }, { on := 7, ground := Ground.data }], guard := none }) (v := ?_) rfl (by kernel_rfl) (by kernel_rfl) (by kernel_rfl) (fun _ _ _ h => h) (Or.inl ⟨by rfl, ?_⟩) (by assumption) ?_
          rotate_left 1
          · intro w hSw
            go_simp
            first | done | with_reducible rfl
          try simp only [Act.put, List.setIfInBounds_toArray, List.set_cons_zero, List.set_cons_succ]
          refine wpAnyH_ready (rs := [10]) (by kernel_rfl) (by simp) ?_
          refine AllReadyH.cons (o := { dst := none, op := Op.store 27 (Operand.tmp 6) (Operand.tmp 20), type := 0, pos := "ref.go:172", after := #[{ on := 9, ground := Ground.data }, { on := 8, ground := Ground.data }, { on := 6, ground := Ground.chain }, { on := 0, ground := Ground.phase }, { on := 1, ground := Ground.phase }, { on := 2, ground := Ground.phase }, { on := 3, ground := Ground.phase }, { on := 4, ground := Ground.phase }, { on := 5, ground := Ground.phase }, { on := 6, ground := Ground.phase }, { on := 7, ground := Ground.phase }, { on := 8, ground := Ground.phase }, { on := 9, ground := Ground.phase }], guard := none }) rfl (fun K hK => ?_) AllReadyH.nil
          go_simp
          refine hK.out _ _ trivial (fun hHeld => ?_)
          clear hK K
          try simp only [Act.put, List.setIfInBounds_toArray, List.set_cons_zero, List.set_cons_succ]
          refine wpAnyH_done (by kernel_rfl) ?_ _
          refine NoPanic.normal ?_
          obtain ⟨G, hG⟩ : ∃ G, G = w5.heap.size := ⟨_, rfl⟩
          refine ⟨rfl, G, by rw [hG], ?_, ?_, ?_⟩
          · rw [hG]; exact alloc_new _ _
          · exact (of_drew hb5).trans ((Below.refl _ _).alloc (by exact hb5.size) _)
          · rw [hG]; exact hb5.size
      · skip
        go_simp
        refine hK.out _ _ trivial (fun hHeld => ?_)
        clear hK K
        try simp only [Act.put, List.setIfInBounds_toArray, List.set_cons_zero, List.set_cons_succ]
        refine wpAnyH_ready (rs := [1]) (by kernel_rfl) (by simp) ?_
        refine AllReadyH.cons (o := { dst := some 13, op := Op.call { callee := Callee.value (Operand.func 27), args := #[Operand.tmp 12], argTypes := #[9] }, type := 25, pos := "ref.go:172", after := #[{ on := 0, ground := Ground.data }], guard := none }) rfl (fun K hK => ?_) AllReadyH.nil
        go_simp
        (go_at_call 27; (with_reducible refine (TA.out _).mono ?_); rintro e w5 ⟨rfl, hb5⟩)
        have g5 : w5.heap[W.heap.size]? = some (.cells #[.string ⟨#[]⟩, .int .i64 0, .bool false, .bool false, .int .u32 0, .bool false, .int .i64 0, .int .i64 0, .int .i64 0] 27 (0, 0)) := (hb5.block _ (by simp)).trans (alloc_new W.drew _)
        have pk0 := cellAt (i := 0) (v := .string ⟨#[]⟩) g5 rfl
        have pk1 := cellAt (i := 1) (v := .int .i64 0) g5 rfl
        have pk2 := cellAt (i := 2) (v := .bool false) g5 rfl
        have pk3 := cellAt (i := 3) (v := .bool false) g5 rfl
        have pk4 := cellAt (i := 4) (v := .int .u32 0) g5 rfl
        have pk5 := cellAt (i := 5) (v := .bool false) g5 rfl
        have pk6 := cellAt (i := 6) (v := .int .i64 0) g5 rfl
        have pk7 := cellAt (i := 7) (v := .int .i64 0) g5 rfl
        have pk8 := cellAt (i := 8) (v := .int .i64 0) g5 rfl
        have pf0 := Lib.frozen_of_heap g5 0
        have pf1 := Lib.frozen_of_heap g5 1
        have pf2 := Lib.frozen_of_heap g5 2
        have pf3 := Lib.frozen_of_heap g5 3
        have pf4 := Lib.frozen_of_heap g5 4
        have pf5 := Lib.frozen_of_heap g5 5
        have pf6 := Lib.frozen_of_heap g5 6
        have pf7 := Lib.frozen_of_heap g5 7
        have pf8 := Lib.frozen_of_heap g5 8
        go_simp
        refine hK.out _ _ trivial (fun hHeld => ?_)
        clear hK K
        try simp only [Act.put, List.setIfInBounds_toArray, List.set_cons_zero, List.set_cons_succ]
        refine wpAnyH_ready (rs := [6]) (by kernel_rfl) (by simp) ?_
        refine AllReadyH.cons (o := { dst := some 18, op := Op.call { callee := Callee.value (Operand.func 28), args := #[Operand.tmp 17], argTypes := #[9] }, type := 76, pos := "ref.go:172", after := #[{ on := 5, ground := Ground.data }, { on := 1, ground := Ground.chain }], guard := none }) rfl (fun K hK => ?_) AllReadyH.nil
        go_simp
        (go_at_call 28; (with_reducible refine (VA.out _).mono ?_); rintro e w6 ⟨rfl, hw6⟩; replace hw6 := hw6.symm; subst hw6)
        go_simp
        refine hK.out _ _ trivial (fun hHeld => ?_)
        clear hK K
        try simp only [Act.put, List.setIfInBounds_toArray, List.set_cons_zero, List.set_cons_succ]
        refine wpAnyH_take (i := 7) (oi := { dst := some 19, op := Op.convert 76 3 (Operand.tmp 18), type := 3, pos := "ref.go:172", after := #[{ on := 6, ground := Ground.data }], guard := none }) (v := ?_) rfl (by kernel_rfl) (by kernel_rfl) (by kernel_rfl) (fun _ _ _ h => h) (Or.inl ⟨by rfl, ?_⟩) (by assumption) ?_
        rotate_left 1
        · intro w hSw
          go_simp
          first | done | with_reducible rfl
        try simp only [Act.put, List.setIfInBounds_toArray, List.set_cons_zero, List.set_cons_succ]
        refine wpAnyH_take (i := 8) (oi := { dst := some 20, op := Op.build 27 #[(1, Operand.tmp 13), (0, Operand.tmp 15), (2, Operand.tmp 19)], type := 27, pos := "ref.go:172", after := #[{ on := 1, ground := Ground.data }, { on := 3, ground := Ground.data }, { on := 7, ground := Ground.data }], guard := none }) (v := ?_) rfl (by kernel_rfl) (by kernel_rfl) (by kernel_rfl) (fun _ _ _ h => h) (Or.inl ⟨by rfl, ?_⟩) (by assumption) ?_
        rotate_left 1
        · intro w hSw
          go_simp
          first | done | with_reducible rfl
        try simp only [Act.put, List.setIfInBounds_toArray, List.set_cons_zero, List.set_cons_succ]
        refine wpAnyH_ready (rs := [10]) (by kernel_rfl) (by simp) ?_
        refine AllReadyH.cons (o := { dst := none, op := Op.store 27 (Operand.tmp 6) (Operand.tmp 20), type := 0, pos := "ref.go:172", after := #[{ on := 9, ground := Ground.data }, { on := 8, ground := Ground.data }, { on := 6, ground := Ground.chain }, { on := 0, ground := Ground.phase }, { on := 1, ground := Ground.phase }, { on := 2, ground := Ground.phase }, { on := 3, ground := Ground.phase }, { on := 4, ground := Ground.phase }, { on := 5, ground := Ground.phase }, { on := 6, ground := Ground.phase }, { on := 7, ground := Ground.phase }, { on := 8, ground := Ground.phase }, { on := 9, ground := Ground.phase }], guard := none }) rfl (fun K hK => ?_) AllReadyH.nil
        go_simp
        refine hK.out _ _ trivial (fun hHeld => ?_)
        clear hK K
        try simp only [Act.put, List.setIfInBounds_toArray, List.set_cons_zero, List.set_cons_succ]
        refine wpAnyH_done (by kernel_rfl) ?_ _
        refine NoPanic.normal ?_
        obtain ⟨G, hG⟩ : ∃ G, G = W.heap.size := ⟨_, rfl⟩
        refine ⟨rfl, G, by rw [hG], ?_, ?_, ?_⟩
        · rw [hG]; exact set9 g5
        · have hb6 : Below W.heap.size W (W.drew.alloc (.cells #[.string ⟨#[]⟩, .int .i64 0, .bool false, .bool false, .int .u32 0, .bool false, .int .i64 0, .int .i64 0, .int .i64 0] 27)) := (Below.refl _ _).drew.alloc (by exact Nat.le_refl _) _
          exact below9 (hb6.trans (hb5.mono (by simp))) (by omega)
        · omega
    rintro a' V ⟨G, rfl, gG, hbV, hGW⟩
    have k1 : V.heap[R1]? = some (.cells #[.string ⟨#[]⟩, .int .i64 0, .bool false, .bool false, .int .u32 0, .bool false, .int .i64 0, .int .i64 0, .int .i64 0] 27 (0, 0)) := (hbV.block _ (heap_lt K1.out)).trans K1.out
    have k2 : V.heap[R2]? = some (.cells #[.int .i64 0, .int .i64 0, .int .i64 0] 29 (0, 0)) := (hbV.block _ (heap_lt K2.out)).trans K2.out
    have nG1 : G ≠ R1 := by have := heap_lt K1.out; omega
    have nG2 : G ≠ R2 := by have := heap_lt K2.out; omega
    have n1G : R1 ≠ G := fun e => nG1 e.symm
    have n2G : R2 ≠ G := fun e => nG2 e.symm
    have HBV : Hid (Below w.heap.size w V) := HB.out.trans (hbV.mono HB.out.size)
    clear K1 K2 hbV
    have ck0 := cellAt (i := 0) (v := .string ⟨#[]⟩) k1 rfl
    have ck1 := cellAt (i := 1) (v := .int .i64 0) k1 rfl
    have ck2 := cellAt (i := 2) (v := .bool false) k1 rfl
    have ck3 := cellAt (i := 3) (v := .bool false) k1 rfl
    have ck4 := cellAt (i := 4) (v := .int .u32 0) k1 rfl
    have ck5 := cellAt (i := 5) (v := .bool false) k1 rfl
    have ck6 := cellAt (i := 6) (v := .int .i64 0) k1 rfl
    have ck7 := cellAt (i := 7) (v := .int .i64 0) k1 rfl
    have ck8 := cellAt (i := 8) (v := .int .i64 0) k1 rfl
    have cf0 := Lib.frozen_of_heap k1 0
    have cf1 := Lib.frozen_of_heap k1 1
    have cf2 := Lib.frozen_of_heap k1 2
    have cf3 := Lib.frozen_of_heap k1 3
    have cf4 := Lib.frozen_of_heap k1 4
    have cf5 := Lib.frozen_of_heap k1 5
    have cf6 := Lib.frozen_of_heap k1 6
    have cf7 := Lib.frozen_of_heap k1 7
    have cf8 := Lib.frozen_of_heap k1 8
    have dk0 := cellAt (i := 0) (v := .int .i64 0) k2 rfl
    have dk1 := cellAt (i := 1) (v := .int .i64 0) k2 rfl
    have dk2 := cellAt (i := 2) (v := .int .i64 0) k2 rfl
    have df0 := Lib.frozen_of_heap k2 0
    have df1 := Lib.frozen_of_heap k2 1
    have df2 := Lib.frozen_of_heap k2 2
    have ek0 := cellAt (i := 0) (v := .string sf) gG rfl
    have ek1 := cellAt (i := 1) (v := .int .i64 (m : Nat)) gG rfl
    have ek2 := cellAt (i := 2) (v := .bool B1) gG rfl
    have ek3 := cellAt (i := 3) (v := .bool B2) gG rfl
    have ek4 := cellAt (i := 4) (v := .int .u32 (va : Nat)) gG rfl
    have ek5 := cellAt (i := 5) (v := .bool B4) gG rfl
    have ek6 := cellAt (i := 6) (v := .int .i64 (tt : Nat)) gG rfl
    have ek7 := cellAt (i := 7) (v := .int .i64 (tz : Nat)) gG rfl
    have ek8 := cellAt (i := 8) (v := .int .i64 (mt : Nat)) gG rfl
    have ef0 := Lib.frozen_of_heap gG 0
    have ef1 := Lib.frozen_of_heap gG 1
    have ef2 := Lib.frozen_of_heap gG 2
    have ef3 := Lib.frozen_of_heap gG 3
    have ef4 := Lib.frozen_of_heap gG 4
    have ef5 := Lib.frozen_of_heap gG 5
    have ef6 := Lib.frozen_of_heap gG 6
    have ef7 := Lib.frozen_of_heap gG 7
    have ef8 := Lib.frozen_of_heap gG 8
    have K1 := Lib.hid k1
    have K2 := Lib.hid k2
    clear k1 k2 gG
    simp only [Exit.then]
    go_upto_region 4 with (fail)
    refine wp_region_noPanic ?_
    refine wp_region_held_drew (S := fun _ => True) (by kernel_rfl) trivial (fun hHeld => ?_)
    refine wpAnyH_take (i := 1) (oi := { dst := some 22, op := Op.move (Operand.tmp 0), type := 9, pos := "ref.go:173", after := #[{ on := 14, ground := Ground.gcOnly Departure.lateStores }], guard := none }) (v := ?_) rfl (by kernel_rfl) (by kernel_rfl) (by kernel_rfl) (fun _ _ _ h => h) (Or.inl ⟨by rfl, ?_⟩) (by assumption) ?_
    rotate_left 1
    · intro w hSw
      go_simp
      first | done | with_reducible rfl
    try simp only [Act.put, List.setIfInBounds_toArray, List.set_cons_zero, List.set_cons_succ]
    refine wpAnyH_take (i := 2) (oi := { dst := some 23, op := Op.index 9 (Operand.tmp 22) (Operand.const (Value.int IntKind.i64 14)), type := 5, pos := "ref.go:173", after := #[{ on := 1, ground := Ground.data }, { on := 14, ground := Ground.gcOnly Departure.lateStores }], guard := none }) (v := ?_) rfl (by kernel_rfl) (by kernel_rfl) (by kernel_rfl) (fun _ _ _ h => h) (Or.inl ⟨by rfl, ?_⟩) (by assumption) ?_
    rotate_left 1
    · intro w hSw
      go_simp
      first | done | with_reducible rfl
    try simp only [Act.put, List.setIfInBounds_toArray, List.set_cons_zero, List.set_cons_succ]
    refine wpAnyH_take (i := 3) (oi := { dst := some 24, op := Op.convert 5 3 (Operand.tmp 23), type := 3, pos := "ref.go:173", after := #[{ on := 2, ground := Ground.data }, { on := 14, ground := Ground.gcOnly Departure.lateStores }], guard := none }) (v := ?_) rfl (by kernel_rfl) (by kernel_rfl) (by kernel_rfl) (fun _ _ _ h => h) (Or.inl ⟨by rfl, ?_⟩) (by assumption) ?_
    rotate_left 1
    · intro w hSw
      go_simp
      first | done | with_reducible rfl
    try simp only [Act.put, List.setIfInBounds_toArray, List.set_cons_zero, List.set_cons_succ]
    refine wpAnyH_take (i := 4) (oi := { dst := some 25, op := Op.move (Operand.tmp 0), type := 9, pos := "ref.go:173", after := #[], guard := none }) (v := ?_) rfl (by kernel_rfl) (by kernel_rfl) (by kernel_rfl) (fun _ _ _ h => h) (Or.inl ⟨by rfl, ?_⟩) (by assumption) ?_
    rotate_left 1
    · intro w hSw
      go_simp
      first | done | with_reducible rfl
    try simp only [Act.put, List.setIfInBounds_toArray, List.set_cons_zero, List.set_cons_succ]
    refine wpAnyH_take (i := 5) (oi := { dst := some 26, op := Op.slice 9 (Operand.tmp 25) (some (Operand.const (Value.int IntKind.i64 15))) (some (Operand.const (Value.int IntKind.i64 19))) none, type := 9, pos := "ref.go:173", after := #[{ on := 4, ground := Ground.data }], guard := none }) (v := ?_) rfl (by kernel_rfl) (by kernel_rfl) (by kernel_rfl) (fun _ _ _ h => h) (Or.inl ⟨by rfl, ?_⟩) (by assumption) ?_
    rotate_left 1
    · intro w hSw
      go_simp
      first | done | with_reducible rfl
    try simp only [Act.put, List.setIfInBounds_toArray, List.set_cons_zero, List.set_cons_succ]
    refine wpAnyH_take (i := 8) (oi := { dst := some 29, op := Op.move (Operand.tmp 0), type := 9, pos := "ref.go:173", after := #[{ on := 14, ground := Ground.gcOnly Departure.lateStores }], guard := none }) (v := ?_) rfl (by kernel_rfl) (by kernel_rfl) (by kernel_rfl) (fun _ _ _ h => h) (Or.inl ⟨by rfl, ?_⟩) (by assumption) ?_
    rotate_left 1
    · intro w hSw
      go_simp
      first | done | with_reducible rfl
    try simp only [Act.put, List.setIfInBounds_toArray, List.set_cons_zero, List.set_cons_succ]
    refine wpAnyH_take (i := 9) (oi := { dst := some 30, op := Op.index 9 (Operand.tmp 29) (Operand.const (Value.int IntKind.i64 19)), type := 5, pos := "ref.go:173", after := #[{ on := 8, ground := Ground.data }, { on := 14, ground := Ground.gcOnly Departure.lateStores }], guard := none }) (v := ?_) rfl (by kernel_rfl) (by kernel_rfl) (by kernel_rfl) (fun _ _ _ h => h) (Or.inl ⟨by rfl, ?_⟩) (by assumption) ?_
    rotate_left 1
    · intro w hSw
      go_simp
      first | done | with_reducible rfl
    try simp only [Act.put, List.setIfInBounds_toArray, List.set_cons_zero, List.set_cons_succ]
    refine wpAnyH_take (i := 10) (oi := { dst := some 31, op := Op.convert 5 3 (Operand.tmp 30), type := 3, pos := "ref.go:173", after := #[{ on := 9, ground := Ground.data }, { on := 14, ground := Ground.gcOnly Departure.lateStores }], guard := none }) (v := ?_) rfl (by kernel_rfl) (by kernel_rfl) (by kernel_rfl) (fun _ _ _ h => h) (Or.inl ⟨by rfl, ?_⟩) (by assumption) ?_
    rotate_left 1
    · intro w hSw
      go_simp
      first | done | with_reducible rfl
    try simp only [Act.put, List.setIfInBounds_toArray, List.set_cons_zero, List.set_cons_succ]
    refine wpAnyH_take (i := 12) (oi := { dst := some 33, op := Op.move (Operand.tmp 0), type := 9, pos := "ref.go:173", after := #[], guard := none }) (v := ?_) rfl (by kernel_rfl) (by kernel_rfl) (by kernel_rfl) (fun _ _ _ h => h) (Or.inl ⟨by rfl, ?_⟩) (by assumption) ?_
    rotate_left 1
    · intro w hSw
      go_simp
      first | done | with_reducible rfl
    try simp only [Act.put, List.setIfInBounds_toArray, List.set_cons_zero, List.set_cons_succ]
    refine wpAnyH_take (i := 13) (oi := { dst := some 34, op := Op.slice 9 (Operand.tmp 33) (some (Operand.const (Value.int IntKind.i64 20))) none none, type := 9, pos := "ref.go:173", after := #[{ on := 12, ground := Ground.data }], guard := none }) (v := ?_) rfl (by kernel_rfl) (by kernel_rfl) (by kernel_rfl) (fun _ _ _ h => h) (Or.inl ⟨by rfl, ?_⟩) (by assumption) ?_
    rotate_left 1
    · intro w hSw
      go_simp
      first | done | with_reducible rfl
    try simp only [Act.put, List.setIfInBounds_toArray, List.set_cons_zero, List.set_cons_succ]
    refine wpAnyH_ready (rs := [0, 6]) (by kernel_rfl) (by simp) ?_
    refine AllReadyH.cons (o := { dst := some 21, op := Op.load 27 (Operand.tmp 6), type := 27, pos := "ref.go:173", after := #[], guard := none }) rfl (fun K hK => ?_) (AllReadyH.cons (o := { dst := some 27, op := Op.call { callee := Callee.value (Operand.func 28), args := #[Operand.tmp 26], argTypes := #[9] }, type := 76, pos := "ref.go:173", after := #[{ on := 5, ground := Ground.data }], guard := none }) rfl (fun K hK => ?_) AllReadyH.nil)
    · skip
      go_simp
      refine hK.out _ _ trivial (fun hHeld => ?_)
      clear hK K
      try simp only [Act.put, List.setIfInBounds_toArray, List.set_cons_zero, List.set_cons_succ]
      refine wpAnyH_ready (rs := [6]) (by kernel_rfl) (by simp) ?_
      refine AllReadyH.cons (o := { dst := some 27, op := Op.call { callee := Callee.value (Operand.func 28), args := #[Operand.tmp 26], argTypes := #[9] }, type := 76, pos := "ref.go:173", after := #[{ on := 5, ground := Ground.data }], guard := none }) rfl (fun K hK => ?_) AllReadyH.nil
      go_simp
      (go_at_call 28; (with_reducible refine (VB.out _).mono ?_); rintro e w6 ⟨rfl, hw6⟩; replace hw6 := hw6.symm; subst hw6)
      go_simp
      refine hK.out _ _ trivial (fun hHeld => ?_)
      clear hK K
      try simp only [Act.put, List.setIfInBounds_toArray, List.set_cons_zero, List.set_cons_succ]
      refine wpAnyH_take (i := 7) (oi := { dst := some 28, op := Op.convert 76 3 (Operand.tmp 27), type := 3, pos := "ref.go:173", after := #[{ on := 6, ground := Ground.data }, { on := 14, ground := Ground.gcOnly Departure.lateStores }], guard := none }) (v := ?_) rfl (by kernel_rfl) (by kernel_rfl) (by kernel_rfl) (fun _ _ _ h => h) (Or.inl ⟨by rfl, ?_⟩) (by assumption) ?_
      rotate_left 1
      · intro w hSw
        go_simp
        first | done | with_reducible rfl
      try simp only [Act.put, List.setIfInBounds_toArray, List.set_cons_zero, List.set_cons_succ]
      refine wpAnyH_take (i := 11) (oi := { dst := some 32, op := Op.build 29 #[(0, Operand.tmp 24), (1, Operand.tmp 28), (2, Operand.tmp 31)], type := 29, pos := "ref.go:173", after := #[{ on := 3, ground := Ground.data }, { on := 7, ground := Ground.data }, { on := 10, ground := Ground.data }, { on := 14, ground := Ground.gcOnly Departure.lateStores }], guard := none }) (v := ?_) rfl (by kernel_rfl) (by kernel_rfl) (by kernel_rfl) (fun _ _ _ h => h) (Or.inl ⟨by rfl, ?_⟩) (by assumption) ?_
      rotate_left 1
      · intro w hSw
        go_simp
        first | done | with_reducible rfl
      try simp only [Act.put, List.setIfInBounds_toArray, List.set_cons_zero, List.set_cons_succ]
      refine wpAnyH_ready (rs := [14]) (by kernel_rfl) (by simp) ?_
      refine AllReadyH.cons (o := { dst := none, op := Op.store 27 (Operand.tmp 2) (Operand.tmp 21), type := 0, pos := "ref.go:173", after := #[{ on := 0, ground := Ground.data }, { on := 6, ground := Ground.chain }, { on := 0, ground := Ground.phase }, { on := 1, ground := Ground.textOnly Departure.lateStores }, { on := 2, ground := Ground.textOnly Departure.lateStores }, { on := 3, ground := Ground.textOnly Departure.lateStores }, { on := 4, ground := Ground.textOnly Departure.lateStores }, { on := 5, ground := Ground.textOnly Departure.lateStoresUnsure }, { on := 6, ground := Ground.textOnly Departure.lateStoresUnsure }, { on := 7, ground := Ground.textOnly Departure.lateStores }, { on := 8, ground := Ground.textOnly Departure.lateStores }, { on := 9, ground := Ground.textOnly Departure.lateStores }, { on := 10, ground := Ground.textOnly Departure.lateStores }, { on := 11, ground := Ground.textOnly Departure.lateStores }, { on := 12, ground := Ground.textOnly Departure.lateStores }, { on := 13, ground := Ground.textOnly Departure.lateStoresUnsure }], guard := none }) rfl (fun K hK => ?_) AllReadyH.nil
      go_simp
      refine hK.out _ _ trivial (fun hHeld => ?_)
      clear hK K
      try simp only [Act.put, List.setIfInBounds_toArray, List.set_cons_zero, List.set_cons_succ]
      refine wpAnyH_ready (rs := [15]) (by kernel_rfl) (by simp) ?_
      refine AllReadyH.cons (o := { dst := none, op := Op.store 29 (Operand.tmp 3) (Operand.tmp 32), type := 0, pos := "ref.go:173", after := #[{ on := 11, ground := Ground.data }, { on := 14, ground := Ground.chain }, { on := 0, ground := Ground.phase }, { on := 1, ground := Ground.phase }, { on := 2, ground := Ground.phase }, { on := 3, ground := Ground.phase }, { on := 4, ground := Ground.phase }, { on := 5, ground := Ground.phase }, { on := 6, ground := Ground.phase }, { on := 7, ground := Ground.phase }, { on := 8, ground := Ground.phase }, { on := 9, ground := Ground.phase }, { on := 10, ground := Ground.phase }, { on := 11, ground := Ground.phase }, { on := 12, ground := Ground.textOnly Departure.lateStores }, { on := 13, ground := Ground.textOnly Departure.lateStoresUnsure }, { on := 14, ground := Ground.phase }], guard := none }) rfl (fun K hK => ?_) AllReadyH.nil
      go_simp
      refine hK.out _ _ trivial (fun hHeld => ?_)
      clear hK K
      try simp only [Act.put, List.setIfInBounds_toArray, List.set_cons_zero, List.set_cons_succ]
      refine wpAnyH_ready (rs := [16]) (by kernel_rfl) (by simp) ?_
      refine AllReadyH.cons (o := { dst := some 4, op := Op.assign (Operand.tmp 34), type := 9, pos := "ref.go:173", after := #[{ on := 13, ground := Ground.data }, { on := 15, ground := Ground.chain }, { on := 0, ground := Ground.phase }, { on := 1, ground := Ground.phase }, { on := 2, ground := Ground.phase }, { on := 3, ground := Ground.phase }, { on := 4, ground := Ground.phase }, { on := 5, ground := Ground.phase }, { on := 6, ground := Ground.phase }, { on := 7, ground := Ground.phase }, { on := 8, ground := Ground.phase }, { on := 9, ground := Ground.phase }, { on := 10, ground := Ground.phase }, { on := 11, ground := Ground.phase }, { on := 12, ground := Ground.phase }, { on := 13, ground := Ground.phase }, { on := 14, ground := Ground.phase }, { on := 15, ground := Ground.phase }], guard := none }) rfl (fun K hK => ?_) AllReadyH.nil
      go_simp
      refine hK.out _ _ trivial (fun hHeld => ?_)
      clear hK K
      try simp only [Act.put, List.setIfInBounds_toArray, List.set_cons_zero, List.set_cons_succ]
      refine wpAnyH_ready (rs := [17]) (by kernel_rfl) (by simp) ?_
      refine AllReadyH.cons (o := { dst := some 5, op := Op.assign (Operand.const (Value.int IntKind.i64 0)), type := 3, pos := "ref.go:173", after := #[{ on := 16, ground := Ground.chain }, { on := 0, ground := Ground.phase }, { on := 1, ground := Ground.phase }, { on := 2, ground := Ground.phase }, { on := 3, ground := Ground.phase }, { on := 4, ground := Ground.phase }, { on := 5, ground := Ground.phase }, { on := 6, ground := Ground.phase }, { on := 7, ground := Ground.phase }, { on := 8, ground := Ground.phase }, { on := 9, ground := Ground.phase }, { on := 10, ground := Ground.phase }, { on := 11, ground := Ground.phase }, { on := 12, ground := Ground.phase }, { on := 13, ground := Ground.phase }, { on := 14, ground := Ground.phase }, { on := 15, ground := Ground.phase }, { on := 16, ground := Ground.phase }], guard := none }) rfl (fun K hK => ?_) AllReadyH.nil
      go_simp
      refine hK.out _ _ trivial (fun hHeld => ?_)
      clear hK K
      try simp only [Act.put, List.setIfInBounds_toArray, List.set_cons_zero, List.set_cons_succ]
      refine wpAnyH_done (by kernel_rfl) ?_ _
      refine NoPanic.normal ?_
      obtain ⟨w9, hw9⟩ : ∃ x, x = (((((((((((((V.setCell ⟨R1, 0, none⟩ (.string sf)).setCell ⟨R1, 1, none⟩ (.int .i64 (m : Nat))).setCell ⟨R1, 2, none⟩ (.bool B1)).setCell ⟨R1, 3, none⟩ (.bool B2)).setCell ⟨R1, 4, none⟩ (.int .u32 (va : Nat))).setCell ⟨R1, 5, none⟩ (.bool B4)).setCell ⟨R1, 6, none⟩ (.int .i64 (tt : Nat))).setCell ⟨R1, 7, none⟩ (.int .i64 (tz : Nat))).setCell ⟨R1, 8, none⟩ (.int .i64 (mt : Nat))).setCell ⟨R2, 0, none⟩ (.int .i64 (en : Nat))).setCell ⟨R2, 1, none⟩ (.int .i64 (by4 : Nat))).setCell ⟨R2, 2, none⟩ (.int .i64 (li : Nat)))).drew := ⟨_, rfl⟩
      rw [← hw9]
      have q1 : w9.heap[R1]? = some (.cells #[.string sf, .int .i64 (m : Nat), .bool B1, .bool B2, .int .u32 (va : Nat), .bool B4, .int .i64 (tt : Nat), .int .i64 (tz : Nat), .int .i64 (mt : Nat)] 27 (0, 0)) := by
        rw [hw9, drew_heap]
        rw [heap_off R1 R2 n12, heap_off R1 R2 n12, heap_off R1 R2 n12]
        exact set9 K1.out
      have q2 : w9.heap[R2]? = some (.cells #[.int .i64 (en : Nat), .int .i64 (by4 : Nat), .int .i64 (li : Nat)] 29 (0, 0)) := by
        rw [hw9, drew_heap]
        refine set3 (a0 := .int .i64 0) (a1 := .int .i64 0) (a2 := .int .i64 0) ?_
        rw [heap_off R2 R1 n21, heap_off R2 R1 n21, heap_off R2 R1 n21, heap_off R2 R1 n21, heap_off R2 R1 n21, heap_off R2 R1 n21, heap_off R2 R1 n21, heap_off R2 R1 n21, heap_off R2 R1 n21]
        exact K2.out
      have q3 : Below w.heap.size w w9 := by
        rw [hw9]
        exact (below3 (below9 HBV.out hr1) hr2).drew
      have Q1 := Lib.hid q1
      have Q2 := Lib.hid q2
      have Q3 := Lib.hid q3
      clear hw9 q1 q2 q3
      go_wp2_with (fail)
      refine bodyPost_ret (rconfig_end (g := R1) (k := R2) rfl rfl rfl rfl Q1.out Q2.out) rfl ⟨Q3.out, .inr ⟨HL.out, ?_⟩⟩
      rw [HE.out, HS.out, HR.out]
      rfl
    · skip
      go_simp
      (go_at_call 28; (with_reducible refine (VB.out _).mono ?_); rintro e w6 ⟨rfl, hw6⟩; replace hw6 := hw6.symm; subst hw6)
      go_simp
      refine hK.out _ _ trivial (fun hHeld => ?_)
      clear hK K
      try simp only [Act.put, List.setIfInBounds_toArray, List.set_cons_zero, List.set_cons_succ]
      refine wpAnyH_take (i := 7) (oi := { dst := some 28, op := Op.convert 76 3 (Operand.tmp 27), type := 3, pos := "ref.go:173", after := #[{ on := 6, ground := Ground.data }, { on := 14, ground := Ground.gcOnly Departure.lateStores }], guard := none }) (v := ?_) rfl (by kernel_rfl) (by kernel_rfl) (by kernel_rfl) (fun _ _ _ h => h) (Or.inl ⟨by rfl, ?_⟩) (by assumption) ?_
      rotate_left 1
      · intro w hSw
        go_simp
        first | done | with_reducible rfl
      try simp only [Act.put, List.setIfInBounds_toArray, List.set_cons_zero, List.set_cons_succ]
      refine wpAnyH_take (i := 11) (oi := { dst := some 32, op := Op.build 29 #[(0, Operand.tmp 24), (1, Operand.tmp 28), (2, Operand.tmp 31)], type := 29, pos := "ref.go:173", after := #[{ on := 3, ground := Ground.data }, { on := 7, ground := Ground.data }, { on := 10, ground := Ground.data }, { on := 14, ground := Ground.gcOnly Departure.lateStores }], guard := none }) (v := ?_) rfl (by kernel_rfl) (by kernel_rfl) (by kernel_rfl) (fun _ _ _ h => h) (Or.inl ⟨by rfl, ?_⟩) (by assumption) ?_
      rotate_left 1
      · intro w hSw
        go_simp
        first | done | with_reducible rfl
      try simp only [Act.put, List.setIfInBounds_toArray, List.set_cons_zero, List.set_cons_succ]
      refine wpAnyH_ready (rs := [0]) (by kernel_rfl) (by simp) ?_
      refine AllReadyH.cons (o := { dst := some 21, op := Op.load 27 (Operand.tmp 6), type := 27, pos := "ref.go:173", after := #[], guard := none }) rfl (fun K hK => ?_) AllReadyH.nil
      go_simp
      refine hK.out _ _ trivial (fun hHeld => ?_)
      clear hK K
      try simp only [Act.put, List.setIfInBounds_toArray, List.set_cons_zero, List.set_cons_succ]
      refine wpAnyH_ready (rs := [14]) (by kernel_rfl) (by simp) ?_
      refine AllReadyH.cons (o := { dst := none, op := Op.store 27 (Operand.tmp 2) (Operand.tmp 21), type := 0, pos := "ref.go:173", after := #[{ on := 0, ground := Ground.data }, { on := 6, ground := Ground.chain }, { on := 0, ground := Ground.phase }, { on := 1, ground := Ground.textOnly Departure.lateStores }, { on := 2, ground := Ground.textOnly Departure.lateStores }, { on := 3, ground := Ground.textOnly Departure.lateStores }, { on := 4, ground := Ground.textOnly Departure.lateStores }, { on := 5, ground := Ground.textOnly Departure.lateStoresUnsure }, { on := 6, ground := Ground.textOnly Departure.lateStoresUnsure }, { on := 7, ground := Ground.textOnly Departure.lateStores }, { on := 8, ground := Ground.textOnly Departure.lateStores }, { on := 9, ground := Ground.textOnly Departure.lateStores }, { on := 10, ground := Ground.textOnly Departure.lateStores }, { on := 11, ground := Ground.textOnly Departure.lateStores }, { on := 12, ground := Ground.textOnly Departure.lateStores }, { on := 13, ground := Ground.textOnly Departure.lateStoresUnsure }], guard := none }) rfl (fun K hK => ?_) AllReadyH.nil
      go_simp
      refine hK.out _ _ trivial (fun hHeld => ?_)
      clear hK K
      try simp only [Act.put, List.setIfInBounds_toArray, List.set_cons_zero, List.set_cons_succ]
      refine wpAnyH_ready (rs := [15]) (by kernel_rfl) (by simp) ?_
      refine AllReadyH.cons (o := { dst := none, op := Op.store 29 (Operand.tmp 3) (Operand.tmp 32), type := 0, pos := "ref.go:173", after := #[{ on := 11, ground := Ground.data }, { on := 14, ground := Ground.chain }, { on := 0, ground := Ground.phase }, { on := 1, ground := Ground.phase }, { on := 2, ground := Ground.phase }, { on := 3, ground := Ground.phase }, { on := 4, ground := Ground.phase }, { on := 5, ground := Ground.phase }, { on := 6, ground := Ground.phase }, { on := 7, ground := Ground.phase }, { on := 8, ground := Ground.phase }, { on := 9, ground := Ground.phase }, { on := 10, ground := Ground.phase }, { on := 11, ground := Ground.phase }, { on := 12, ground := Ground.textOnly Departure.lateStores }, { on := 13, ground := Ground.textOnly Departure.lateStoresUnsure }, { on := 14, ground := Ground.phase }], guard := none }) rfl (fun K hK => ?_) AllReadyH.nil
      go_simp
      refine hK.out _ _ trivial (fun hHeld => ?_)
      clear hK K
      try simp only [Act.put, List.setIfInBounds_toArray, List.set_cons_zero, List.set_cons_succ]
      refine wpAnyH_ready (rs := [16]) (by kernel_rfl) (by simp) ?_
      refine AllReadyH.cons (o := { dst := some 4, op := Op.assign (Operand.tmp 34), type := 9, pos := "ref.go:173", after := #[{ on := 13, ground := Ground.data }, { on := 15, ground := Ground.chain }, { on := 0, ground := Ground.phase }, { on := 1, ground := Ground.phase }, { on := 2, ground := Ground.phase }, { on := 3, ground := Ground.phase }, { on := 4, ground := Ground.phase }, { on := 5, ground := Ground.phase }, { on := 6, ground := Ground.phase }, { on := 7, ground := Ground.phase }, { on := 8, ground := Ground.phase }, { on := 9, ground := Ground.phase }, { on := 10, ground := Ground.phase }, { on := 11, ground := Ground.phase }, { on := 12, ground := Ground.phase }, { on := 13, ground := Ground.phase }, { on := 14, ground := Ground.phase }, { on := 15, ground := Ground.phase }], guard := none }) rfl (fun K hK => ?_) AllReadyH.nil
      go_simp
      refine hK.out _ _ trivial (fun hHeld => ?_)
      clear hK K
      try simp only [Act.put, List.setIfInBounds_toArray, List.set_cons_zero, List.set_cons_succ]
      refine wpAnyH_ready (rs := [17]) (by kernel_rfl) (by simp) ?_
      refine AllReadyH.cons (o := { dst := some 5, op := Op.assign (Operand.const (Value.int IntKind.i64 0)), type := 3, pos := "ref.go:173", after := #[{ on := 16, ground := Ground.chain }, { on := 0, ground := Ground.phase }, { on := 1, ground := Ground.phase }, { on := 2, ground := Ground.phase }, { on := 3, ground := Ground.phase }, { on := 4, ground := Ground.phase }, { on := 5, ground := Ground.phase }, { on := 6, ground := Ground.phase }, { on := 7, ground := Ground.phase }, { on := 8, ground := Ground.phase }, { on := 9, ground := Ground.phase }, { on := 10, ground := Ground.phase }, { on := 11, ground := Ground.phase }, { on := 12, ground := Ground.phase }, { on := 13, ground := Ground.phase }, { on := 14, ground := Ground.phase }, { on := 15, ground := Ground.phase }, { on := 16, ground := Ground.phase }], guard := none }) rfl (fun K hK => ?_) AllReadyH.nil
      go_simp
      refine hK.out _ _ trivial (fun hHeld => ?_)
      clear hK K
      try simp only [Act.put, List.setIfInBounds_toArray, List.set_cons_zero, List.set_cons_succ]
      refine wpAnyH_done (by kernel_rfl) ?_ _
      refine NoPanic.normal ?_
      obtain ⟨w9, hw9⟩ : ∃ x, x = (((((((((((((V.setCell ⟨R1, 0, none⟩ (.string sf)).setCell ⟨R1, 1, none⟩ (.int .i64 (m : Nat))).setCell ⟨R1, 2, none⟩ (.bool B1)).setCell ⟨R1, 3, none⟩ (.bool B2)).setCell ⟨R1, 4, none⟩ (.int .u32 (va : Nat))).setCell ⟨R1, 5, none⟩ (.bool B4)).setCell ⟨R1, 6, none⟩ (.int .i64 (tt : Nat))).setCell ⟨R1, 7, none⟩ (.int .i64 (tz : Nat))).setCell ⟨R1, 8, none⟩ (.int .i64 (mt : Nat))).setCell ⟨R2, 0, none⟩ (.int .i64 (en : Nat))).setCell ⟨R2, 1, none⟩ (.int .i64 (by4 : Nat))).setCell ⟨R2, 2, none⟩ (.int .i64 (li : Nat)))).drew := ⟨_, rfl⟩
      rw [← hw9]
      have q1 : w9.heap[R1]? = some (.cells #[.string sf, .int .i64 (m : Nat), .bool B1, .bool B2, .int .u32 (va : Nat), .bool B4, .int .i64 (tt : Nat), .int .i64 (tz : Nat), .int .i64 (mt : Nat)] 27 (0, 0)) := by
        rw [hw9, drew_heap]
        rw [heap_off R1 R2 n12, heap_off R1 R2 n12, heap_off R1 R2 n12]
        exact set9 K1.out
      have q2 : w9.heap[R2]? = some (.cells #[.int .i64 (en : Nat), .int .i64 (by4 : Nat), .int .i64 (li : Nat)] 29 (0, 0)) := by
        rw [hw9, drew_heap]
        refine set3 (a0 := .int .i64 0) (a1 := .int .i64 0) (a2 := .int .i64 0) ?_
        rw [heap_off R2 R1 n21, heap_off R2 R1 n21, heap_off R2 R1 n21, heap_off R2 R1 n21, heap_off R2 R1 n21, heap_off R2 R1 n21, heap_off R2 R1 n21, heap_off R2 R1 n21, heap_off R2 R1 n21]
        exact K2.out
      have q3 : Below w.heap.size w w9 := by
        rw [hw9]
        exact (below3 (below9 HBV.out hr1) hr2).drew
      have Q1 := Lib.hid q1
      have Q2 := Lib.hid q2
      have Q3 := Lib.hid q3
      clear hw9 q1 q2 q3
      go_wp2_with (fail)
      refine bodyPost_ret (rconfig_end (g := R1) (k := R2) rfl rfl rfl rfl Q1.out Q2.out) rfl ⟨Q3.out, .inr ⟨HL.out, ?_⟩⟩
      rw [HE.out, HS.out, HR.out]
      rfl
end Go.Proofs.Ytmijfhfjhbckdaa
