import Derived.Test.YthdkbocokefdhaaChk
/- The writing of an IPv4 packet: ip4.Put. -/
namespace Go.Proofs.Ythdkbocokefdhaa
set_option maxRecDepth 100000
open Go.RowKit
/-- what Put tells -/
def putR (x : Except Nat (List UInt8)) : Value := match x with
  | .ok p => .tuple #[.string (bs p), .int .i64 0]
  | .error c => .tuple #[.string ⟨#[]⟩, .int .i64 (c : Nat)]
set_option maxHeartbeats 8000000 in
theorem put_any (h : H4) (s : List UInt8) (w : World) (hl : h.src.length < 1000000000 ∧ h.dst.length < 1000000000 ∧ h.opt.length < 1000000000) (hs : s.length < 1000000000) :
    Calls Try.prog 50 #[hv h, .string (bs s)] w fun e w' => e = .returned (putR (putE h s)) ∧ Below w.heap.size w w' := by
  obtain ⟨R, hR⟩ : ∃ R, R = putR (putE h s) := ⟨_, rfl⟩
  rw [← hR]
  have HCK : Hid (∀ V, Calls Try.prog 73 #[hv h] V fun e w' => e = .returned (.int .i64 ((if chk h then 0 else 1 : Nat) : Int)) ∧ Below V.heap.size V w') := Lib.hid (fun V => check_h h V hl)
  obtain ⟨rr, hrr⟩ : ∃ r : Nat, r = (if chk h then 0 else 1) := ⟨_, rfl⟩
  rw [← hrr] at HCK
  obtain ⟨h', hh'⟩ : ∃ x : H4, x = h := ⟨_, rfl⟩
  rw [← hh'] at hR hrr
  have HH := Lib.hid hh'
  clear hh'
  obtain ⟨tos, id, off, ttl, proto, df, mf, src, dst, opt⟩ := h
  unfold hv hc at *
  simp only at hl HCK ⊢
  obtain ⟨N, hN⟩ : ∃ N, N = w.heap.size := ⟨_, rfl⟩
  obtain ⟨W, hW⟩ : ∃ W, W = w.alloc (.cells #[.int .i64 tos, .int .i64 id, .int .i64 off, .int .i64 ttl, .int .i64 proto, .bool df, .bool mf, .string (bs src), .string (bs dst), .string (bs opt)] 43) := ⟨_, rfl⟩
  have HW : W.heap[N]? = some (.cells #[.int .i64 tos, .int .i64 id, .int .i64 off, .int .i64 ttl, .int .i64 proto, .bool df, .bool mf, .string (bs src), .string (bs dst), .string (bs opt)] 43 (0, 0)) := by rw [hW, hN]; exact alloc_new _ _
  have HB : Below w.heap.size w W := by rw [hW]; exact (Below.refl _ _).alloc (Nat.le_refl _) _
  have k0 := cellAt (i := 0) (v := .int .i64 tos) HW rfl
  have k1 := cellAt (i := 1) (v := .int .i64 id) HW rfl
  have k2 := cellAt (i := 2) (v := .int .i64 off) HW rfl
  have k3 := cellAt (i := 3) (v := .int .i64 ttl) HW rfl
  have k4 := cellAt (i := 4) (v := .int .i64 proto) HW rfl
  have k5 := cellAt (i := 5) (v := .bool df) HW rfl
  have k6 := cellAt (i := 6) (v := .bool mf) HW rfl
  have k7 := cellAt (i := 7) (v := .string (bs src)) HW rfl
  have k8 := cellAt (i := 8) (v := .string (bs dst)) HW rfl
  have k9 := cellAt (i := 9) (v := .string (bs opt)) HW rfl
  have HWH := Lib.hid HW
  have HWB := Lib.hid HB
  have HRR := Lib.hid hrr
  have HR0 := Lib.hid hR
  have zo : (bs opt).size = opt.length := bs_size _
  have zs : (bs s).size = s.length := bs_size _
  go_enter Try.func50, Try.ntmps50
  go_upto_region 1 with (fail)
  rw [← hW, ← hN]
  clear hW hN HW HB hrr hR
  by_cases hck : chk h' = true
  · have hr0 : rr = 0 := by have h1 := HRR.out; rw [hck] at h1; exact h1
    subst hr0
    have HOK := Lib.hid hck
    clear hck
    go_upto_region 4 with (go_at_call 73; (with_reducible refine (HCK.out _).mono ?_); rintro e w2 ⟨rfl, hb2⟩)
    have K2 : Hid (w2.heap[N]? = some (.cells #[.int .i64 tos, .int .i64 id, .int .i64 off, .int .i64 ttl, .int .i64 proto, .bool df, .bool mf, .string (bs src), .string (bs dst), .string (bs opt)] 43 (0, 0)) ∧ Below w.heap.size w w2) := Lib.hid ⟨(hb2.block _ (heap_lt HWH.out)).trans HWH.out, HWB.out.trans (hb2.mono HWB.out.size)⟩
    clear k0 k1 k2 k3 k4 k5 k6 k7 k8 k9 hb2
    have k9 := cellAt (i := 9) (v := .string (bs opt)) K2.out.1 rfl
    obtain ⟨t, ht⟩ : ∃ t, t = 20 + opt.length + s.length := ⟨_, rfl⟩
    have ht2 : (20 : Int) + (opt.length : Int) + (s.length : Int) = (t : Int) := by omega
    by_cases hbig : 65535 < t
    · have HBG := Lib.hid hbig
      have hbi : (65535 : Int) < (t : Int) := by omega
      have HT := Lib.hid ht
      clear ht
      go_wp2_with (fail)
      go_ret2
      refine ⟨?_, K2.out.2⟩
      rw [HR0.out, HH.out]
      unfold putE
      have h1 : chk ⟨tos, id, off, ttl, proto, df, mf, src, dst, opt⟩ = true := by rw [← HH.out]; exact HOK.out
      have h2 : 65535 < 20 + opt.length + s.length := by have := HT.out; have : 65535 < t := HBG.out; omega
      simp only [h1, if_true, if_pos h2]
      rfl
    · have hbi : ¬ (65535 : Int) < (t : Int) := by omega
      have hok : H4.ok ⟨tos, id, off, ttl, proto, df, mf, src, dst, opt⟩ := by rw [← HH.out]; exact (chk_iff _).1 HOK.out
      obtain ⟨x0, hx0⟩ : ∃ x, x = bs (hdB ⟨tos, id, off, ttl, proto, df, mf, src, dst, opt⟩ t 0) := ⟨_, rfl⟩
      obtain ⟨z, hz⟩ : ∃ z, z = sm x0.data.toList := ⟨_, rfl⟩
      have hzl : z < 65536 := by rw [hz]; unfold sm; omega
      obtain ⟨x1, hx1⟩ : ∃ x, x = bs (hdB ⟨tos, id, off, ttl, proto, df, mf, src, dst, opt⟩ t z) := ⟨_, rfl⟩
      have hx0s : x0.size ≤ 1000000 := by rw [hx0, bs_size, hdB_len _ _ _ hok]; have := hok.opt; simp only at this ⊢; omega
      have hx1s : x1.size ≤ 1000000 := by rw [hx1, bs_size, hdB_len _ _ _ hok]; have := hok.opt; simp only at this ⊢; omega
      have HD0 : Hid (∀ V, Calls Try.prog 74 #[.agg #[.int .i64 tos, .int .i64 id, .int .i64 off, .int .i64 ttl, .int .i64 proto, .bool df, .bool mf, .string (bs src), .string (bs dst), .string (bs opt)], .int .i64 t, .int .i64 0] V fun e w' => e = .returned (.string x0) ∧ Below V.heap.size V w') := Lib.hid (fun V => by rw [hx0]; exact header_any ⟨tos, id, off, ttl, proto, df, mf, src, dst, opt⟩ hok t 0 (by omega) (by decide) V)
      have HD1 : Hid (∀ V, Calls Try.prog 74 #[.agg #[.int .i64 tos, .int .i64 id, .int .i64 off, .int .i64 ttl, .int .i64 proto, .bool df, .bool mf, .string (bs src), .string (bs dst), .string (bs opt)], .int .i64 t, .int .i64 z] V fun e w' => e = .returned (.string x1) ∧ Below V.heap.size V w') := Lib.hid (fun V => by rw [hx1]; exact header_any ⟨tos, id, off, ttl, proto, df, mf, src, dst, opt⟩ hok t z (by omega) hzl V)
      have SM : Hid (∀ V g, V.heap[g]? = some (.cells #[.string x0] 9 (0, 0)) → Calls Try.prog 75 #[.slice (some ⟨g, 0, none⟩) 1 1] V fun e w' => e = .returned (.int .i64 (z : Nat)) ∧ Below V.heap.size V w') := Lib.hid (fun V g hg => by rw [hz]; exact sum_one g x0 V hg hx0s)
      have hst : ∀ wx, (Op.stringOp .add x1 (bs s)).run Try.prog wx = .ok (.string (x1 ++ bs s)) wx := fun wx => run_string_add_sum wx _ _ (by rw [bs_size]; omega)
      have HR : Hid (R = .tuple #[.string (x1 ++ bs s), .int .i64 0]) := by
        refine Lib.hid ?_
        rw [HR0.out, HH.out]
        unfold putE
        have h1 : chk ⟨tos, id, off, ttl, proto, df, mf, src, dst, opt⟩ = true := by rw [← HH.out]; exact HOK.out
        simp only [h1, if_true]
        rw [if_neg (by omega), ← ht, hx1, hz, hx0, bs_list, bs_append]
        rfl
      have K0 := K2
      clear ht hx0 hz hx1 hbig hok
      go_upto_region 7 with (fail)
      refine wp_region_noPanic ?_
      refine wp_region_held_drew (S := fun V => V.heap[N]? = some (.cells #[.int .i64 tos, .int .i64 id, .int .i64 off, .int .i64 ttl, .int .i64 proto, .bool df, .bool mf, .string (bs src), .string (bs dst), .string (bs opt)] 43 (0, 0)) ∧ Below w.heap.size w V) (by kernel_rfl) ⟨K0.out.1, K0.out.2.drew⟩ (fun hHeld => ?_)
      refine wpAnyH_take (i := 0) (oi := { dst := some 22, op := Op.load 43 (Operand.tmp 2), type := 43, pos := "ip4.go:69", after := #[], guard := none }) (v := ?_) rfl (by kernel_rfl) (by kernel_rfl) (by kernel_rfl) (fun _ _ _ h => h) (Or.inl ⟨by rfl, ?_⟩) (by assumption) ?_
      rotate_left 1
      · intro w hSw
        have q0 := hSw.1
        have q1 := cellAt (i := 0) (v := .int .i64 tos) q0 rfl
        have q2 := cellAt (i := 1) (v := .int .i64 id) q0 rfl
        have q3 := cellAt (i := 2) (v := .int .i64 off) q0 rfl
        have q4 := cellAt (i := 3) (v := .int .i64 ttl) q0 rfl
        have q5 := cellAt (i := 4) (v := .int .i64 proto) q0 rfl
        have q6 := cellAt (i := 5) (v := .bool df) q0 rfl
        have q7 := cellAt (i := 6) (v := .bool mf) q0 rfl
        have q8 := cellAt (i := 7) (v := .string (bs src)) q0 rfl
        have q9 := cellAt (i := 8) (v := .string (bs dst)) q0 rfl
        have q10 := cellAt (i := 9) (v := .string (bs opt)) q0 rfl
        go_simp
        first | done | with_reducible rfl
      try simp only [Act.put, List.setIfInBounds_toArray, List.set_cons_zero, List.set_cons_succ]
      refine wpAnyH_take (i := 1) (oi := { dst := some 23, op := Op.move (Operand.tmp 7), type := 3, pos := "ip4.go:69", after := #[], guard := none }) (v := ?_) rfl (by kernel_rfl) (by kernel_rfl) (by kernel_rfl) (fun _ _ _ h => h) (Or.inl ⟨by rfl, ?_⟩) (by assumption) ?_
      rotate_left 1
      · intro w hSw
        go_simp
        first | done | with_reducible rfl
      try simp only [Act.put, List.setIfInBounds_toArray, List.set_cons_zero, List.set_cons_succ]
      refine wpAnyH_take (i := 2) (oi := { dst := some 24, op := Op.load 43 (Operand.tmp 2), type := 43, pos := "ip4.go:69", after := #[], guard := none }) (v := ?_) rfl (by kernel_rfl) (by kernel_rfl) (by kernel_rfl) (fun _ _ _ h => h) (Or.inl ⟨by rfl, ?_⟩) (by assumption) ?_
      rotate_left 1
      · intro w hSw
        have q0 := hSw.1
        have q1 := cellAt (i := 0) (v := .int .i64 tos) q0 rfl
        have q2 := cellAt (i := 1) (v := .int .i64 id) q0 rfl
        have q3 := cellAt (i := 2) (v := .int .i64 off) q0 rfl
        have q4 := cellAt (i := 3) (v := .int .i64 ttl) q0 rfl
        have q5 := cellAt (i := 4) (v := .int .i64 proto) q0 rfl
        have q6 := cellAt (i := 5) (v := .bool df) q0 rfl
        have q7 := cellAt (i := 6) (v := .bool mf) q0 rfl
        have q8 := cellAt (i := 7) (v := .string (bs src)) q0 rfl
        have q9 := cellAt (i := 8) (v := .string (bs dst)) q0 rfl
        have q10 := cellAt (i := 9) (v := .string (bs opt)) q0 rfl
        go_simp
        first | done | with_reducible rfl
      try simp only [Act.put, List.setIfInBounds_toArray, List.set_cons_zero, List.set_cons_succ]
      refine wpAnyH_take (i := 3) (oi := { dst := some 25, op := Op.move (Operand.tmp 7), type := 3, pos := "ip4.go:69", after := #[], guard := none }) (v := ?_) rfl (by kernel_rfl) (by kernel_rfl) (by kernel_rfl) (fun _ _ _ h => h) (Or.inl ⟨by rfl, ?_⟩) (by assumption) ?_
      rotate_left 1
      · intro w hSw
        go_simp
        first | done | with_reducible rfl
      try simp only [Act.put, List.setIfInBounds_toArray, List.set_cons_zero, List.set_cons_succ]
      refine wpAnyH_take (i := 8) (oi := { dst := some 30, op := Op.move (Operand.tmp 1), type := 9, pos := "ip4.go:69", after := #[], guard := none }) (v := ?_) rfl (by kernel_rfl) (by kernel_rfl) (by kernel_rfl) (fun _ _ _ h => h) (Or.inl ⟨by rfl, ?_⟩) (by assumption) ?_
      rotate_left 1
      · intro w hSw
        go_simp
        first | done | with_reducible rfl
      try simp only [Act.put, List.setIfInBounds_toArray, List.set_cons_zero, List.set_cons_succ]
      refine wpAnyH_ready (rs := [4]) (by kernel_rfl) (by simp) ?_
      refine AllReadyH.cons (o := { dst := some 26, op := Op.call { callee := Callee.value (Operand.func 74), args := #[Operand.tmp 24, Operand.tmp 25, Operand.const (Value.int IntKind.i64 0)], argTypes := #[43, 3, 3] }, type := 9, pos := "ip4.go:69", after := #[{ on := 2, ground := Ground.data }, { on := 3, ground := Ground.data }], guard := none }) rfl (fun K hK => ?_) AllReadyH.nil
      go_simp
      (go_at_call 74; (with_reducible refine (HD0.out _).mono ?_); rintro e w5 ⟨rfl, hb5⟩)
      go_simp
      refine hK.out _ _ ⟨(hb5.block _ (heap_lt hHeld.1)).trans hHeld.1, hHeld.2.trans (hb5.mono hHeld.2.size)⟩ (fun hHeld => ?_)
      clear hK K
      try simp only [Act.put, List.setIfInBounds_toArray, List.set_cons_zero, List.set_cons_succ]
      refine wpAnyH_ready (rs := [5]) (by kernel_rfl) (by simp) ?_
      refine AllReadyH.cons (o := { dst := some 27, op := Op.buildSlice 24 1 #[(0, Operand.tmp 26)], type := 24, pos := "ip4.go:69", after := #[{ on := 4, ground := Ground.data }], guard := none }) rfl (fun K hK => ?_) AllReadyH.nil
      go_simp
      refine hK.out _ _ ⟨(Below.heap_alloc _ _ _ (heap_lt hHeld.1)).trans hHeld.1, hHeld.2.alloc hHeld.2.size _⟩ (fun hHeld => ?_)
      clear hK K
      try simp only [Act.put, List.setIfInBounds_toArray, List.set_cons_zero, List.set_cons_succ]
      refine wpAnyH_ready (rs := [6]) (by kernel_rfl) (by simp) ?_
      refine AllReadyH.cons (o := { dst := some 28, op := Op.call { callee := Callee.value (Operand.func 75), args := #[Operand.tmp 27], argTypes := #[24] }, type := 3, pos := "ip4.go:69", after := #[{ on := 5, ground := Ground.data }, { on := 4, ground := Ground.chain }], guard := none }) rfl (fun K hK => ?_) AllReadyH.nil
      go_simp
      (go_at_call 75; (with_reducible refine (SM.out _ _ (alloc_new _ _)).mono ?_); rintro e w5 ⟨rfl, hb5⟩)
      go_simp
      refine hK.out _ _ ⟨(hb5.block _ (heap_lt hHeld.1)).trans hHeld.1, hHeld.2.trans (hb5.mono hHeld.2.size)⟩ (fun hHeld => ?_)
      clear hK K
      try simp only [Act.put, List.setIfInBounds_toArray, List.set_cons_zero, List.set_cons_succ]
      refine wpAnyH_ready (rs := [7]) (by kernel_rfl) (by simp) ?_
      refine AllReadyH.cons (o := { dst := some 29, op := Op.call { callee := Callee.value (Operand.func 74), args := #[Operand.tmp 22, Operand.tmp 23, Operand.tmp 28], argTypes := #[43, 3, 3] }, type := 9, pos := "ip4.go:69", after := #[{ on := 0, ground := Ground.data }, { on := 1, ground := Ground.data }, { on := 6, ground := Ground.data }, { on := 6, ground := Ground.chain }], guard := none }) rfl (fun K hK => ?_) AllReadyH.nil
      go_simp
      (go_at_call 74; (with_reducible refine (HD1.out _).mono ?_); rintro e w5 ⟨rfl, hb5⟩)
      go_simp
      refine hK.out _ _ ⟨(hb5.block _ (heap_lt hHeld.1)).trans hHeld.1, hHeld.2.trans (hb5.mono hHeld.2.size)⟩ (fun hHeld => ?_)
      clear hK K
      try simp only [Act.put, List.setIfInBounds_toArray, List.set_cons_zero, List.set_cons_succ]
      refine wpAnyH_take (i := 9) (oi := { dst := some 31, op := Op.binOp BinOp.add 9 (Operand.tmp 29) (Operand.tmp 30) 9, type := 9, pos := "ip4.go:69", after := #[{ on := 7, ground := Ground.data }, { on := 8, ground := Ground.data }], guard := none }) (v := ?_) rfl (by kernel_rfl) (by kernel_rfl) (by kernel_rfl) (fun _ _ _ h => h) (Or.inl ⟨by rfl, ?_⟩) (by assumption) ?_
      rotate_left 1
      · intro w hSw
        go_simp
        first | done | with_reducible rfl
      try simp only [Act.put, List.setIfInBounds_toArray, List.set_cons_zero, List.set_cons_succ]
      refine wpAnyH_ready (rs := [10]) (by kernel_rfl) (by simp) ?_
      refine AllReadyH.cons (o := { dst := some 4, op := Op.assign (Operand.tmp 31), type := 9, pos := "ip4.go:69", after := #[{ on := 9, ground := Ground.data }, { on := 7, ground := Ground.chain }, { on := 0, ground := Ground.phase }, { on := 1, ground := Ground.phase }, { on := 2, ground := Ground.phase }, { on := 3, ground := Ground.phase }, { on := 4, ground := Ground.phase }, { on := 5, ground := Ground.phase }, { on := 6, ground := Ground.phase }, { on := 7, ground := Ground.phase }, { on := 8, ground := Ground.phase }, { on := 9, ground := Ground.phase }], guard := none }) rfl (fun K hK => ?_) AllReadyH.nil
      go_simp
      refine hK.out _ _ hHeld (fun hHeld => ?_)
      clear hK K
      try simp only [Act.put, List.setIfInBounds_toArray, List.set_cons_zero, List.set_cons_succ]
      refine wpAnyH_ready (rs := [11]) (by kernel_rfl) (by simp) ?_
      refine AllReadyH.cons (o := { dst := some 5, op := Op.assign (Operand.const (Value.int IntKind.i64 0)), type := 28, pos := "ip4.go:69", after := #[{ on := 10, ground := Ground.chain }, { on := 0, ground := Ground.phase }, { on := 1, ground := Ground.phase }, { on := 2, ground := Ground.phase }, { on := 3, ground := Ground.phase }, { on := 4, ground := Ground.phase }, { on := 5, ground := Ground.phase }, { on := 6, ground := Ground.phase }, { on := 7, ground := Ground.phase }, { on := 8, ground := Ground.phase }, { on := 9, ground := Ground.phase }, { on := 10, ground := Ground.phase }], guard := none }) rfl (fun K hK => ?_) AllReadyH.nil
      go_simp
      refine hK.out _ _ hHeld (fun hHeld => ?_)
      clear hK K
      try simp only [Act.put, List.setIfInBounds_toArray, List.set_cons_zero, List.set_cons_succ]
      refine wpAnyH_done (by kernel_rfl) ?_ _
      refine NoPanic.normal ?_
      simp only [Exit.then]
      go_wp2_with (fail)
      go_ret2
      exact ⟨by rw [HR.out]; rfl, hHeld.2⟩
  · have hr1 : rr = 1 := by have h1 := HRR.out; simp only [hck] at h1; exact h1
    have HR : Hid (R = .tuple #[.string ⟨#[]⟩, .int .i64 1]) := by
      refine Lib.hid ?_
      rw [HR0.out]
      unfold putE
      rw [if_neg hck]; rfl
    subst hr1
    clear hck
    go_wp2_with (go_at_call 73; (with_reducible refine (HCK.out _).mono ?_); rintro e w2 ⟨rfl, hb2⟩)
    go_ret2
    exact ⟨by rw [HR.out]; rfl, HWB.out.trans (hb2.mono HWB.out.size)⟩
end Go.Proofs.Ythdkbocokefdhaa
