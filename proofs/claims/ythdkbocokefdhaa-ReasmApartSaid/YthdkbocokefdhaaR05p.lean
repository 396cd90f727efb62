import Derived.Test.YthdkbocokefdhaaR05a
import Derived.Deep.RegionHeld
import Derived.Deep.RegionHeld3
import Derived.Deep.DeepCutAuto
/- The document's Put of layer 5. -/
namespace Go.Proofs.Ythdkbocokefdhaa
set_option maxRecDepth 100000
open Go.RowKit
theorem cat_bs (a b : List UInt8) (h : a.length + b.length ≤ 1000000000000) (wx : World) : (Op.stringOp .add (bs a) (bs b)).run Try.prog wx = .ok (.string (bs (a ++ b))) wx := by
  rw [← bs_append]; exact run_string_add_sum wx _ _ (by rw [bs_size, bs_size]; omega)
theorem putE_eq (h : H4) (s : List UInt8) (hc : chk h = true) (hl : 20 + h.opt.length + s.length ≤ 65535) : putE h s = .ok (hdB h (20 + h.opt.length + s.length) (sm (hdB h (20 + h.opt.length + s.length) 0)) ++ s) := by
  unfold putE; rw [if_pos hc, if_neg (by omega)]
set_option maxHeartbeats 16000000 in
theorem rput_any (h : H4) (s : List UInt8) (w : World) (hl : h.src.length < 9223372036854775808 ∧ h.dst.length < 9223372036854775808 ∧ h.opt.length < 9223372036854775808) (hs : s.length < 1000000000) :
    Calls Try.prog 22 #[hv h, .string (bs s)] w fun e w' => e = .returned (putR (putE h s)) ∧ Below w.heap.size w w' := by
  have RR : Hid (∀ V, Calls Try.prog 45 #[hv h] V fun e w' => e = .returned (.bool (chk h)) ∧ Below V.heap.size V w') := Lib.hid (fun V => rright_any h V hl)
  obtain ⟨ck, hck⟩ : ∃ b, b = chk h := ⟨_, rfl⟩
  rw [← hck] at RR
  by_cases hbad : ck = false
  · have HR : Hid (putE h s = .error 1) := Lib.hid (by unfold putE; rw [if_neg (by rw [← hck, hbad]; simp)])
    rw [HR.out]
    rw [hbad] at RR
    clear hck hbad
    obtain ⟨tos, id, off, ttl, proto, df, mf, src, dst, opt⟩ := h
    unfold hv hc at *
    simp only at RR ⊢
    go_enter Try.func22, Try.ntmps22
    go_wp2_with (go_at_call 45; (with_reducible refine (RR.out _).mono ?_); rintro e w2 ⟨rfl, hb2⟩)
    go_ret2
    exact ⟨rfl, ((Below.refl _ _).alloc (Nat.le_refl _) _).trans (hb2.mono (by simp))⟩
  have hct : ck = true := by simpa using hbad
  rw [hct] at RR hck
  have hck1 : chk h = true := hck.symm
  have hok := (chk_iff h).1 hck1
  have o1 := hok.tos
  have o2 := hok.id
  have o3 := hok.off
  have o4 := hok.ttl
  have o5 := hok.proto
  have o6 := hok.src
  have o7 := hok.dst
  have o8 := hok.opt
  obtain ⟨R, hR⟩ : ∃ R, R = putE h s := ⟨_, rfl⟩
  rw [← hR]
  have HR0 := Lib.hid hR
  have HCK := Lib.hid hck1
  have HOK := Lib.hid hok
  clear hR hck hct hbad hck1 hok hl
  obtain ⟨hh, hhe⟩ : ∃ x : H4, x = h := ⟨_, rfl⟩
  rw [← hhe] at HR0 HCK HOK
  have HHE := Lib.hid hhe
  clear hhe
  obtain ⟨tos, id, off, ttl, proto, df, mf, src, dst, opt⟩ := h
  unfold hv hc at *
  simp only at o1 o2 o3 o4 o5 o6 o7 o8 RR ⊢
  obtain ⟨tn, rfl⟩ := Int.eq_ofNat_of_zero_le o1.1
  obtain ⟨idn, rfl⟩ := Int.eq_ofNat_of_zero_le o2.1
  obtain ⟨on, rfl⟩ := Int.eq_ofNat_of_zero_le o3.1
  obtain ⟨ttn, rfl⟩ := Int.eq_ofNat_of_zero_le o4.1
  obtain ⟨pn, rfl⟩ := Int.eq_ofNat_of_zero_le o5.1
  obtain ⟨s8, hs8⟩ : ∃ x, x = bs src := ⟨_, rfl⟩
  obtain ⟨s9, hs9⟩ : ∃ x, x = bs dst := ⟨_, rfl⟩
  obtain ⟨s10, hs10⟩ : ∃ x, x = bs opt := ⟨_, rfl⟩
  have z10 : s10.size = opt.length := by rw [hs10]; exact bs_size _
  have zs : (bs s).size = s.length := bs_size _
  rw [← hs8, ← hs9, ← hs10] at RR ⊢
  obtain ⟨N, hN⟩ : ∃ N, N = w.heap.size := ⟨_, rfl⟩
  obtain ⟨W, hW⟩ : ∃ W, W = w.alloc (.cells #[.int .i64 (tn : Nat), .int .i64 (idn : Nat), .int .i64 (on : Nat), .int .i64 (ttn : Nat), .int .i64 (pn : Nat), .bool df, .bool mf, .string s8, .string s9, .string s10] 43) := ⟨_, rfl⟩
  have HWH : Hid (W.heap[N]? = some (.cells #[.int .i64 (tn : Nat), .int .i64 (idn : Nat), .int .i64 (on : Nat), .int .i64 (ttn : Nat), .int .i64 (pn : Nat), .bool df, .bool mf, .string s8, .string s9, .string s10] 43 (0, 0)) ∧ Below w.heap.size w W) := Lib.hid ⟨by rw [hW, hN]; exact alloc_new _ _, by rw [hW]; exact (Below.refl _ _).alloc (Nat.le_refl _) _⟩
  have k0 := cellAt (i := 0) (v := .int .i64 (tn : Nat)) HWH.out.1 rfl
  have k1 := cellAt (i := 1) (v := .int .i64 (idn : Nat)) HWH.out.1 rfl
  have k2 := cellAt (i := 2) (v := .int .i64 (on : Nat)) HWH.out.1 rfl
  have k3 := cellAt (i := 3) (v := .int .i64 (ttn : Nat)) HWH.out.1 rfl
  have k4 := cellAt (i := 4) (v := .int .i64 (pn : Nat)) HWH.out.1 rfl
  have k5 := cellAt (i := 5) (v := .bool df) HWH.out.1 rfl
  have k6 := cellAt (i := 6) (v := .bool mf) HWH.out.1 rfl
  have k7 := cellAt (i := 7) (v := .string s8) HWH.out.1 rfl
  have k8 := cellAt (i := 8) (v := .string s9) HWH.out.1 rfl
  have k9 := cellAt (i := 9) (v := .string s10) HWH.out.1 rfl
  obtain ⟨t, ht⟩ : ∃ t, t = 20 + opt.length + s.length := ⟨_, rfl⟩
  have ht2 : (20 : Int) + (opt.length : Int) + (s.length : Int) = (t : Int) := by omega
  have HTT := Lib.hid ht
  have HSTR := Lib.hid (And.intro hs8 (And.intro hs9 hs10))
  clear hs8 hs9 hs10
  go_enter Try.func22, Try.ntmps22
  go_upto_region 1 with (fail)
  rw [← hW, ← hN]
  clear hW hN
  by_cases hbig : 65535 < t
  · have hbi : (65535 : Int) < (t : Int) := by omega
    have HR : Hid (R = .error 4) := Lib.hid (by
      rw [HR0.out]; unfold putE
      have h1 := HTT.out
      rw [if_pos HCK.out, if_pos (by rw [HHE.out]; simp only; omega)])
    clear ht
    go_wp2_with (go_at_call 45; (with_reducible refine (RR.out _).mono ?_); rintro e w2 ⟨rfl, hb2⟩; have HW2 := Lib.hid (And.intro ((hb2.block N (heap_lt HWH.out.1)).trans HWH.out.1) (HWH.out.2.trans (hb2.mono HWH.out.2.size))); clear hb2; have l9 := cellAt (i := 9) (v := .string s10) HW2.out.1 rfl)
    go_ret2
    exact ⟨by rw [HR.out]; rfl, HW2.out.2⟩
  have hbi : ¬ (65535 : Int) < (t : Int) := by omega
  have htl : t < 65536 := by omega
  clear ht
  go_upto_region 6 with (go_at_call 45; (with_reducible refine (RR.out _).mono ?_); rintro e w2 ⟨rfl, hb2⟩; have HW2 := Lib.hid (And.intro ((hb2.block N (heap_lt HWH.out.1)).trans HWH.out.1) (HWH.out.2.trans (hb2.mono HWH.out.2.size))); clear hb2; have l9 := cellAt (i := 9) (v := .string s10) HW2.out.1 rfl)
  clear k0 k1 k2 k3 k4 k5 k6 k7 k8 k9 RR
  have l2 := cellAt (i := 2) (v := .int .i64 (on : Nat)) HW2.out.1 rfl
  have l5 := cellAt (i := 5) (v := .bool df) HW2.out.1 rfl
  have l6 := cellAt (i := 6) (v := .bool mf) HW2.out.1 rfl
  obtain ⟨f1, hf1⟩ : ∃ f, f = on + (if mf then 8192 else 0) + (if df then 16384 else 0) := ⟨_, rfl⟩
  have f1l : f1 < 65536 := by rw [hf1]; split <;> split <;> omega
  have HF1 := Lib.hid hf1
  clear hf1
  obtain ⟨fa, hfa⟩ : ∃ f, f = on + (if df then 16384 else 0) := ⟨_, rfl⟩
  have HFA := Lib.hid hfa
  have fal : fa < 65536 := by rw [hfa]; split <;> omega
  clear hfa
  go_upto_if 25 with (fail)
  go_cut [7] (fun x wx => x = .int .i64 (fa : Nat) ∧ wx = w2)
  case first =>
    cases df with
    | true =>
      have i1 : (on : Int) + 16384 = (fa : Int) := by
        have h1 : fa = on + 16384 := HFA.out
        omega
      have i2 : IntKind.i64.wrap (fa : Int) = (fa : Int) := IntWalk.i64_in _ (by omega)
      go_wp2_with (fail)
      go_meet
      exact ⟨rfl, rfl⟩
    | false =>
      have i1 : on = fa := by
        have h1 : fa = on + 0 := HFA.out
        omega
      subst i1
      go_wp2_with (fail)
      go_meet
      exact ⟨rfl, rfl⟩
  case rest =>
  obtain ⟨rfl, hwc⟩ := hcut
  replace hwc := hwc.symm
  subst hwc
  go_upto_if 29 with (fail)
  go_cut [7] (fun x wx => x = .int .i64 (f1 : Nat) ∧ wx = w2)
  case first =>
    cases mf with
    | true =>
      have i1 : (fa : Int) + 8192 = (f1 : Int) := by
        have h1 := HFA.out
        have h2 : f1 = on + 8192 + (if df then 16384 else 0) := HF1.out
        omega
      have i2 : IntKind.i64.wrap (f1 : Int) = (f1 : Int) := IntWalk.i64_in _ (by omega)
      go_wp2_with (fail)
      go_meet
      exact ⟨rfl, rfl⟩
    | false =>
      have i1 : fa = f1 := by
        have h1 := HFA.out
        have h2 : f1 = on + 0 + (if df then 16384 else 0) := HF1.out
        omega
      subst i1
      go_wp2_with (fail)
      go_meet
      exact ⟨rfl, rfl⟩
  case rest =>
  obtain ⟨rfl, hwc⟩ := hcut
  replace hwc := hwc.symm
  subst hwc
  obtain ⟨q, hq⟩ : ∃ q, q = opt.length / 4 := ⟨_, rfl⟩
  obtain ⟨v1, hv1⟩ : ∃ v, v = 69 + q := ⟨_, rfl⟩
  have v1l : v1 < 256 := by omega
  have z1 : (opt.length : Int) / 4 = (q : Int) := by omega
  have z2 : (69 : Int) + (q : Int) = (v1 : Int) := by omega
  have z4 : IntKind.i64.wrap (q : Int) = (q : Int) := IntWalk.i64_in _ (by omega)
  have z3 : IntKind.i64.wrap (v1 : Int) = (v1 : Int) := IntWalk.i64_in _ (by omega)
  have HV1 : Hid (v1 = 64 + (20 + opt.length) / 4) := Lib.hid (by omega)
  clear hq hv1
  obtain ⟨x1, hx1⟩ : ∃ x, x = bs (be v1 1) := ⟨_, rfl⟩
  have N1 : Hid (∀ V, Calls Try.prog 46 #[.int .i64 (v1 : Nat), .int .i64 1] V fun e w' => e = .returned (.string x1) ∧ Below V.heap.size V w') := Lib.hid (fun V => by rw [hx1]; exact rnum_any v1 1 (by omega) (by decide) V)
  have g1 : x1.size = 1 := by rw [hx1, bs_size, be_length]
  have HX1 := Lib.hid hx1
  obtain ⟨x2, hx2⟩ : ∃ x, x = bs (be tn 1) := ⟨_, rfl⟩
  have N2 : Hid (∀ V, Calls Try.prog 46 #[.int .i64 (tn : Nat), .int .i64 1] V fun e w' => e = .returned (.string x2) ∧ Below V.heap.size V w') := Lib.hid (fun V => by rw [hx2]; exact rnum_any tn 1 (by omega) (by decide) V)
  have g2 : x2.size = 1 := by rw [hx2, bs_size, be_length]
  have HX2 := Lib.hid hx2
  obtain ⟨x3, hx3⟩ : ∃ x, x = bs (be t 2) := ⟨_, rfl⟩
  have N3 : Hid (∀ V, Calls Try.prog 46 #[.int .i64 (t : Nat), .int .i64 2] V fun e w' => e = .returned (.string x3) ∧ Below V.heap.size V w') := Lib.hid (fun V => by rw [hx3]; exact rnum_any t 2 (by omega) (by decide) V)
  have g3 : x3.size = 2 := by rw [hx3, bs_size, be_length]
  have HX3 := Lib.hid hx3
  obtain ⟨x4, hx4⟩ : ∃ x, x = bs (be idn 2) := ⟨_, rfl⟩
  have N4 : Hid (∀ V, Calls Try.prog 46 #[.int .i64 (idn : Nat), .int .i64 2] V fun e w' => e = .returned (.string x4) ∧ Below V.heap.size V w') := Lib.hid (fun V => by rw [hx4]; exact rnum_any idn 2 (by omega) (by decide) V)
  have g4 : x4.size = 2 := by rw [hx4, bs_size, be_length]
  have HX4 := Lib.hid hx4
  obtain ⟨x5, hx5⟩ : ∃ x, x = bs (be f1 2) := ⟨_, rfl⟩
  have N5 : Hid (∀ V, Calls Try.prog 46 #[.int .i64 (f1 : Nat), .int .i64 2] V fun e w' => e = .returned (.string x5) ∧ Below V.heap.size V w') := Lib.hid (fun V => by rw [hx5]; exact rnum_any f1 2 (by omega) (by decide) V)
  have g5 : x5.size = 2 := by rw [hx5, bs_size, be_length]
  have HX5 := Lib.hid hx5
  obtain ⟨x6, hx6⟩ : ∃ x, x = bs (be ttn 1) := ⟨_, rfl⟩
  have N6 : Hid (∀ V, Calls Try.prog 46 #[.int .i64 (ttn : Nat), .int .i64 1] V fun e w' => e = .returned (.string x6) ∧ Below V.heap.size V w') := Lib.hid (fun V => by rw [hx6]; exact rnum_any ttn 1 (by omega) (by decide) V)
  have g6 : x6.size = 1 := by rw [hx6, bs_size, be_length]
  have HX6 := Lib.hid hx6
  obtain ⟨x7, hx7⟩ : ∃ x, x = bs (be pn 1) := ⟨_, rfl⟩
  have N7 : Hid (∀ V, Calls Try.prog 46 #[.int .i64 (pn : Nat), .int .i64 1] V fun e w' => e = .returned (.string x7) ∧ Below V.heap.size V w') := Lib.hid (fun V => by rw [hx7]; exact rnum_any pn 1 (by omega) (by decide) V)
  have g7 : x7.size = 1 := by rw [hx7, bs_size, be_length]
  have HX7 := Lib.hid hx7
  obtain ⟨y2, hy2⟩ : ∃ x, x = x1 ++ x2 := ⟨_, rfl⟩
  have c2 : ∀ wx, (Op.stringOp .add x1 x2).run Try.prog wx = .ok (.string y2) wx := fun wx => by rw [hy2]; exact run_string_add_sum wx _ _ (by omega)
  have gy2 : y2.size = 2 := by rw [hy2, ByteArray.size_append']; omega
  have HY2 := Lib.hid hy2
  obtain ⟨y3, hy3⟩ : ∃ x, x = y2 ++ x3 := ⟨_, rfl⟩
  have c3 : ∀ wx, (Op.stringOp .add y2 x3).run Try.prog wx = .ok (.string y3) wx := fun wx => by rw [hy3]; exact run_string_add_sum wx _ _ (by omega)
  have gy3 : y3.size = 4 := by rw [hy3, ByteArray.size_append']; omega
  have HY3 := Lib.hid hy3
  obtain ⟨y4, hy4⟩ : ∃ x, x = y3 ++ x4 := ⟨_, rfl⟩
  have c4 : ∀ wx, (Op.stringOp .add y3 x4).run Try.prog wx = .ok (.string y4) wx := fun wx => by rw [hy4]; exact run_string_add_sum wx _ _ (by omega)
  have gy4 : y4.size = 6 := by rw [hy4, ByteArray.size_append']; omega
  have HY4 := Lib.hid hy4
  obtain ⟨y5, hy5⟩ : ∃ x, x = y4 ++ x5 := ⟨_, rfl⟩
  have c5 : ∀ wx, (Op.stringOp .add y4 x5).run Try.prog wx = .ok (.string y5) wx := fun wx => by rw [hy5]; exact run_string_add_sum wx _ _ (by omega)
  have gy5 : y5.size = 8 := by rw [hy5, ByteArray.size_append']; omega
  have HY5 := Lib.hid hy5
  obtain ⟨y6, hy6⟩ : ∃ x, x = y5 ++ x6 := ⟨_, rfl⟩
  have c6 : ∀ wx, (Op.stringOp .add y5 x6).run Try.prog wx = .ok (.string y6) wx := fun wx => by rw [hy6]; exact run_string_add_sum wx _ _ (by omega)
  have gy6 : y6.size = 9 := by rw [hy6, ByteArray.size_append']; omega
  have HY6 := Lib.hid hy6
  obtain ⟨y7, hy7⟩ : ∃ x, x = y6 ++ x7 := ⟨_, rfl⟩
  have c7 : ∀ wx, (Op.stringOp .add y6 x7).run Try.prog wx = .ok (.string y7) wx := fun wx => by rw [hy7]; exact run_string_add_sum wx _ _ (by omega)
  have gy7 : y7.size = 10 := by rw [hy7, ByteArray.size_append']; omega
  have HY7 := Lib.hid hy7
  clear hy2 hy3 hy4 hy5 hy6 hy7
  clear hx1 hx2 hx3 hx4 hx5 hx6 hx7
  go_upto_region 11 with (fail)
  refine wp_region_held_drew (S := fun V => V.heap[N]? = some (.cells #[.int .i64 (tn : Nat), .int .i64 (idn : Nat), .int .i64 (on : Nat), .int .i64 (ttn : Nat), .int .i64 (pn : Nat), .bool df, .bool mf, .string s8, .string s9, .string s10] 43 (0, 0)) ∧ Below w.heap.size w V) (by kernel_rfl) ⟨HW2.out.1, HW2.out.2.drew⟩ (fun hHeld => ?_)
  refine wpAnyH_take (i := 0) (oi := { dst := some 32, op := Op.fieldAddr 43 (Operand.tmp 2) 9, type := 0, pos := "ref.go:47", after := #[], guard := none }) (v := ?_) rfl (by kernel_rfl) (by kernel_rfl) (by kernel_rfl) (fun _ _ _ h => h) (Or.inl ⟨by rfl, ?_⟩) (by assumption) ?_
  rotate_left 1
  · intro w hSw
    go_simp
    first | done | with_reducible rfl
  try simp only [Act.put, List.setIfInBounds_toArray, List.set_cons_zero, List.set_cons_succ]
  refine wpAnyH_take (i := 1) (oi := { dst := some 33, op := Op.load 9 (Operand.tmp 32), type := 9, pos := "ref.go:47", after := #[{ on := 0, ground := Ground.data }], guard := none }) (v := ?_) rfl (by kernel_rfl) (by kernel_rfl) (by kernel_rfl) (fun _ _ _ h => h) (Or.inl ⟨by rfl, ?_⟩) (by assumption) ?_
  rotate_left 1
  · intro w hSw
    have q0 := cellAt (i := 9) (v := .string s10) hSw.1 rfl
    go_simp
    first | done | with_reducible rfl
  try simp only [Act.put, List.setIfInBounds_toArray, List.set_cons_zero, List.set_cons_succ]
  refine wpAnyH_take (i := 2) (oi := { dst := some 34, op := Op.call { callee := Callee.builtin Builtin.len, args := #[Operand.tmp 33], argTypes := #[9] }, type := 3, pos := "ref.go:47", after := #[{ on := 1, ground := Ground.data }], guard := none }) (v := ?_) rfl (by kernel_rfl) (by kernel_rfl) (by kernel_rfl) (fun _ _ _ h => h) (Or.inl ⟨by rfl, ?_⟩) (by assumption) ?_
  rotate_left 1
  · intro w hSw
    go_simp
    first | done | with_reducible rfl
  try simp only [Act.put, List.setIfInBounds_toArray, List.set_cons_zero, List.set_cons_succ]
  refine wpAnyH_take (i := 3) (oi := { dst := some 35, op := Op.binOp BinOp.quo 3 (Operand.tmp 34) (Operand.const (Value.int IntKind.i64 4)) 3, type := 3, pos := "ref.go:47", after := #[{ on := 2, ground := Ground.data }], guard := none }) (v := ?_) rfl (by kernel_rfl) (by kernel_rfl) (by kernel_rfl) (fun _ _ _ h => h) (Or.inl ⟨by rfl, ?_⟩) (by assumption) ?_
  rotate_left 1
  · intro w hSw
    go_simp
    first | done | with_reducible rfl
  try simp only [Act.put, List.setIfInBounds_toArray, List.set_cons_zero, List.set_cons_succ]
  refine wpAnyH_take (i := 4) (oi := { dst := some 36, op := Op.binOp BinOp.add 3 (Operand.const (Value.int IntKind.i64 69)) (Operand.tmp 35) 3, type := 3, pos := "ref.go:47", after := #[{ on := 3, ground := Ground.data }], guard := none }) (v := ?_) rfl (by kernel_rfl) (by kernel_rfl) (by kernel_rfl) (fun _ _ _ h => h) (Or.inl ⟨by rfl, ?_⟩) (by assumption) ?_
  rotate_left 1
  · intro w hSw
    go_simp
    first | done | with_reducible rfl
  try simp only [Act.put, List.setIfInBounds_toArray, List.set_cons_zero, List.set_cons_succ]
  refine wpAnyH_take (i := 6) (oi := { dst := some 38, op := Op.fieldAddr 43 (Operand.tmp 2) 0, type := 0, pos := "ref.go:47", after := #[], guard := none }) (v := ?_) rfl (by kernel_rfl) (by kernel_rfl) (by kernel_rfl) (fun _ _ _ h => h) (Or.inl ⟨by rfl, ?_⟩) (by assumption) ?_
  rotate_left 1
  · intro w hSw
    go_simp
    first | done | with_reducible rfl
  try simp only [Act.put, List.setIfInBounds_toArray, List.set_cons_zero, List.set_cons_succ]
  refine wpAnyH_take (i := 7) (oi := { dst := some 39, op := Op.load 3 (Operand.tmp 38), type := 3, pos := "ref.go:47", after := #[{ on := 6, ground := Ground.data }], guard := none }) (v := ?_) rfl (by kernel_rfl) (by kernel_rfl) (by kernel_rfl) (fun _ _ _ h => h) (Or.inl ⟨by rfl, ?_⟩) (by assumption) ?_
  rotate_left 1
  · intro w hSw
    have q0 := cellAt (i := 0) (v := .int .i64 (tn : Nat)) hSw.1 rfl
    go_simp
    first | done | with_reducible rfl
  try simp only [Act.put, List.setIfInBounds_toArray, List.set_cons_zero, List.set_cons_succ]
  refine wpAnyH_take (i := 10) (oi := { dst := some 42, op := Op.move (Operand.tmp 6), type := 3, pos := "ref.go:47", after := #[], guard := none }) (v := ?_) rfl (by kernel_rfl) (by kernel_rfl) (by kernel_rfl) (fun _ _ _ h => h) (Or.inl ⟨by rfl, ?_⟩) (by assumption) ?_
  rotate_left 1
  · intro w hSw
    go_simp
    first | done | with_reducible rfl
  try simp only [Act.put, List.setIfInBounds_toArray, List.set_cons_zero, List.set_cons_succ]
  refine wpAnyH_take (i := 13) (oi := { dst := some 45, op := Op.fieldAddr 43 (Operand.tmp 2) 1, type := 0, pos := "ref.go:47", after := #[], guard := none }) (v := ?_) rfl (by kernel_rfl) (by kernel_rfl) (by kernel_rfl) (fun _ _ _ h => h) (Or.inl ⟨by rfl, ?_⟩) (by assumption) ?_
  rotate_left 1
  · intro w hSw
    go_simp
    first | done | with_reducible rfl
  try simp only [Act.put, List.setIfInBounds_toArray, List.set_cons_zero, List.set_cons_succ]
  refine wpAnyH_take (i := 14) (oi := { dst := some 46, op := Op.load 3 (Operand.tmp 45), type := 3, pos := "ref.go:47", after := #[{ on := 13, ground := Ground.data }], guard := none }) (v := ?_) rfl (by kernel_rfl) (by kernel_rfl) (by kernel_rfl) (fun _ _ _ h => h) (Or.inl ⟨by rfl, ?_⟩) (by assumption) ?_
  rotate_left 1
  · intro w hSw
    have q0 := cellAt (i := 1) (v := .int .i64 (idn : Nat)) hSw.1 rfl
    go_simp
    first | done | with_reducible rfl
  try simp only [Act.put, List.setIfInBounds_toArray, List.set_cons_zero, List.set_cons_succ]
  refine wpAnyH_take (i := 17) (oi := { dst := some 49, op := Op.move (Operand.tmp 7), type := 3, pos := "ref.go:47", after := #[], guard := none }) (v := ?_) rfl (by kernel_rfl) (by kernel_rfl) (by kernel_rfl) (fun _ _ _ h => h) (Or.inl ⟨by rfl, ?_⟩) (by assumption) ?_
  rotate_left 1
  · intro w hSw
    go_simp
    first | done | with_reducible rfl
  try simp only [Act.put, List.setIfInBounds_toArray, List.set_cons_zero, List.set_cons_succ]
  refine wpAnyH_take (i := 20) (oi := { dst := some 52, op := Op.fieldAddr 43 (Operand.tmp 2) 3, type := 0, pos := "ref.go:47", after := #[], guard := none }) (v := ?_) rfl (by kernel_rfl) (by kernel_rfl) (by kernel_rfl) (fun _ _ _ h => h) (Or.inl ⟨by rfl, ?_⟩) (by assumption) ?_
  rotate_left 1
  · intro w hSw
    go_simp
    first | done | with_reducible rfl
  try simp only [Act.put, List.setIfInBounds_toArray, List.set_cons_zero, List.set_cons_succ]
  refine wpAnyH_take (i := 21) (oi := { dst := some 53, op := Op.load 3 (Operand.tmp 52), type := 3, pos := "ref.go:47", after := #[{ on := 20, ground := Ground.data }], guard := none }) (v := ?_) rfl (by kernel_rfl) (by kernel_rfl) (by kernel_rfl) (fun _ _ _ h => h) (Or.inl ⟨by rfl, ?_⟩) (by assumption) ?_
  rotate_left 1
  · intro w hSw
    have q0 := cellAt (i := 3) (v := .int .i64 (ttn : Nat)) hSw.1 rfl
    go_simp
    first | done | with_reducible rfl
  try simp only [Act.put, List.setIfInBounds_toArray, List.set_cons_zero, List.set_cons_succ]
  refine wpAnyH_take (i := 24) (oi := { dst := some 56, op := Op.fieldAddr 43 (Operand.tmp 2) 4, type := 0, pos := "ref.go:47", after := #[], guard := none }) (v := ?_) rfl (by kernel_rfl) (by kernel_rfl) (by kernel_rfl) (fun _ _ _ h => h) (Or.inl ⟨by rfl, ?_⟩) (by assumption) ?_
  rotate_left 1
  · intro w hSw
    go_simp
    first | done | with_reducible rfl
  try simp only [Act.put, List.setIfInBounds_toArray, List.set_cons_zero, List.set_cons_succ]
  refine wpAnyH_take (i := 25) (oi := { dst := some 57, op := Op.load 3 (Operand.tmp 56), type := 3, pos := "ref.go:47", after := #[{ on := 24, ground := Ground.data }], guard := none }) (v := ?_) rfl (by kernel_rfl) (by kernel_rfl) (by kernel_rfl) (fun _ _ _ h => h) (Or.inl ⟨by rfl, ?_⟩) (by assumption) ?_
  rotate_left 1
  · intro w hSw
    have q0 := cellAt (i := 4) (v := .int .i64 (pn : Nat)) hSw.1 rfl
    go_simp
    first | done | with_reducible rfl
  try simp only [Act.put, List.setIfInBounds_toArray, List.set_cons_zero, List.set_cons_succ]
  refine wpAnyH_ready (rs := [5]) (by kernel_rfl) (by simp) ?_
  refine AllReadyH.cons (o := { dst := some 37, op := Op.call { callee := Callee.value (Operand.func 46), args := #[Operand.tmp 36, Operand.const (Value.int IntKind.i64 1)], argTypes := #[3, 3] }, type := 9, pos := "ref.go:47", after := #[{ on := 4, ground := Ground.data }], guard := none }) rfl (fun K hK => ?_) AllReadyH.nil
  go_simp
  (go_at_call 46; (with_reducible refine (N1.out _).mono ?_); rintro e w5 ⟨rfl, hb5⟩)
  go_simp
  refine hK.out _ _ ⟨(hb5.block _ (heap_lt hHeld.1)).trans hHeld.1, hHeld.2.trans (hb5.mono hHeld.2.size)⟩ (fun hHeld => ?_)
  clear hK K
  try simp only [Act.put, List.setIfInBounds_toArray, List.set_cons_zero, List.set_cons_succ]
  refine wpAnyH_ready (rs := [8]) (by kernel_rfl) (by simp) ?_
  refine AllReadyH.cons (o := { dst := some 40, op := Op.call { callee := Callee.value (Operand.func 46), args := #[Operand.tmp 39, Operand.const (Value.int IntKind.i64 1)], argTypes := #[3, 3] }, type := 9, pos := "ref.go:47", after := #[{ on := 7, ground := Ground.data }, { on := 5, ground := Ground.chain }], guard := none }) rfl (fun K hK => ?_) AllReadyH.nil
  go_simp
  (go_at_call 46; (with_reducible refine (N2.out _).mono ?_); rintro e w5 ⟨rfl, hb5⟩)
  go_simp
  refine hK.out _ _ ⟨(hb5.block _ (heap_lt hHeld.1)).trans hHeld.1, hHeld.2.trans (hb5.mono hHeld.2.size)⟩ (fun hHeld => ?_)
  clear hK K
  try simp only [Act.put, List.setIfInBounds_toArray, List.set_cons_zero, List.set_cons_succ]
  refine wpAnyH_take (i := 9) (oi := { dst := some 41, op := Op.binOp BinOp.add 9 (Operand.tmp 37) (Operand.tmp 40) 9, type := 9, pos := "ref.go:47", after := #[{ on := 5, ground := Ground.data }, { on := 8, ground := Ground.data }], guard := none }) (v := ?_) rfl (by kernel_rfl) (by kernel_rfl) (by kernel_rfl) (fun _ _ _ h => h) (Or.inl ⟨by rfl, ?_⟩) (by assumption) ?_
  rotate_left 1
  · intro w hSw
    go_simp
    first | done | with_reducible rfl
  try simp only [Act.put, List.setIfInBounds_toArray, List.set_cons_zero, List.set_cons_succ]
  refine wpAnyH_ready (rs := [11]) (by kernel_rfl) (by simp) ?_
  refine AllReadyH.cons (o := { dst := some 43, op := Op.call { callee := Callee.value (Operand.func 46), args := #[Operand.tmp 42, Operand.const (Value.int IntKind.i64 2)], argTypes := #[3, 3] }, type := 9, pos := "ref.go:47", after := #[{ on := 10, ground := Ground.data }, { on := 8, ground := Ground.chain }], guard := none }) rfl (fun K hK => ?_) AllReadyH.nil
  go_simp
  (go_at_call 46; (with_reducible refine (N3.out _).mono ?_); rintro e w5 ⟨rfl, hb5⟩)
  go_simp
  refine hK.out _ _ ⟨(hb5.block _ (heap_lt hHeld.1)).trans hHeld.1, hHeld.2.trans (hb5.mono hHeld.2.size)⟩ (fun hHeld => ?_)
  clear hK K
  try simp only [Act.put, List.setIfInBounds_toArray, List.set_cons_zero, List.set_cons_succ]
  refine wpAnyH_take (i := 12) (oi := { dst := some 44, op := Op.binOp BinOp.add 9 (Operand.tmp 41) (Operand.tmp 43) 9, type := 9, pos := "ref.go:47", after := #[{ on := 9, ground := Ground.data }, { on := 11, ground := Ground.data }], guard := none }) (v := ?_) rfl (by kernel_rfl) (by kernel_rfl) (by kernel_rfl) (fun _ _ _ h => h) (Or.inl ⟨by rfl, ?_⟩) (by assumption) ?_
  rotate_left 1
  · intro w hSw
    go_simp
    first | done | with_reducible rfl
  try simp only [Act.put, List.setIfInBounds_toArray, List.set_cons_zero, List.set_cons_succ]
  refine wpAnyH_ready (rs := [15]) (by kernel_rfl) (by simp) ?_
  refine AllReadyH.cons (o := { dst := some 47, op := Op.call { callee := Callee.value (Operand.func 46), args := #[Operand.tmp 46, Operand.const (Value.int IntKind.i64 2)], argTypes := #[3, 3] }, type := 9, pos := "ref.go:47", after := #[{ on := 14, ground := Ground.data }, { on := 11, ground := Ground.chain }], guard := none }) rfl (fun K hK => ?_) AllReadyH.nil
  go_simp
  (go_at_call 46; (with_reducible refine (N4.out _).mono ?_); rintro e w5 ⟨rfl, hb5⟩)
  go_simp
  refine hK.out _ _ ⟨(hb5.block _ (heap_lt hHeld.1)).trans hHeld.1, hHeld.2.trans (hb5.mono hHeld.2.size)⟩ (fun hHeld => ?_)
  clear hK K
  try simp only [Act.put, List.setIfInBounds_toArray, List.set_cons_zero, List.set_cons_succ]
  refine wpAnyH_take (i := 16) (oi := { dst := some 48, op := Op.binOp BinOp.add 9 (Operand.tmp 44) (Operand.tmp 47) 9, type := 9, pos := "ref.go:47", after := #[{ on := 12, ground := Ground.data }, { on := 15, ground := Ground.data }], guard := none }) (v := ?_) rfl (by kernel_rfl) (by kernel_rfl) (by kernel_rfl) (fun _ _ _ h => h) (Or.inl ⟨by rfl, ?_⟩) (by assumption) ?_
  rotate_left 1
  · intro w hSw
    go_simp
    first | done | with_reducible rfl
  try simp only [Act.put, List.setIfInBounds_toArray, List.set_cons_zero, List.set_cons_succ]
  refine wpAnyH_ready (rs := [18]) (by kernel_rfl) (by simp) ?_
  refine AllReadyH.cons (o := { dst := some 50, op := Op.call { callee := Callee.value (Operand.func 46), args := #[Operand.tmp 49, Operand.const (Value.int IntKind.i64 2)], argTypes := #[3, 3] }, type := 9, pos := "ref.go:47", after := #[{ on := 17, ground := Ground.data }, { on := 15, ground := Ground.chain }], guard := none }) rfl (fun K hK => ?_) AllReadyH.nil
  go_simp
  (go_at_call 46; (with_reducible refine (N5.out _).mono ?_); rintro e w5 ⟨rfl, hb5⟩)
  go_simp
  refine hK.out _ _ ⟨(hb5.block _ (heap_lt hHeld.1)).trans hHeld.1, hHeld.2.trans (hb5.mono hHeld.2.size)⟩ (fun hHeld => ?_)
  clear hK K
  try simp only [Act.put, List.setIfInBounds_toArray, List.set_cons_zero, List.set_cons_succ]
  refine wpAnyH_take (i := 19) (oi := { dst := some 51, op := Op.binOp BinOp.add 9 (Operand.tmp 48) (Operand.tmp 50) 9, type := 9, pos := "ref.go:47", after := #[{ on := 16, ground := Ground.data }, { on := 18, ground := Ground.data }], guard := none }) (v := ?_) rfl (by kernel_rfl) (by kernel_rfl) (by kernel_rfl) (fun _ _ _ h => h) (Or.inl ⟨by rfl, ?_⟩) (by assumption) ?_
  rotate_left 1
  · intro w hSw
    go_simp
    first | done | with_reducible rfl
  try simp only [Act.put, List.setIfInBounds_toArray, List.set_cons_zero, List.set_cons_succ]
  refine wpAnyH_ready (rs := [22]) (by kernel_rfl) (by simp) ?_
  refine AllReadyH.cons (o := { dst := some 54, op := Op.call { callee := Callee.value (Operand.func 46), args := #[Operand.tmp 53, Operand.const (Value.int IntKind.i64 1)], argTypes := #[3, 3] }, type := 9, pos := "ref.go:47", after := #[{ on := 21, ground := Ground.data }, { on := 18, ground := Ground.chain }], guard := none }) rfl (fun K hK => ?_) AllReadyH.nil
  go_simp
  (go_at_call 46; (with_reducible refine (N6.out _).mono ?_); rintro e w5 ⟨rfl, hb5⟩)
  go_simp
  refine hK.out _ _ ⟨(hb5.block _ (heap_lt hHeld.1)).trans hHeld.1, hHeld.2.trans (hb5.mono hHeld.2.size)⟩ (fun hHeld => ?_)
  clear hK K
  try simp only [Act.put, List.setIfInBounds_toArray, List.set_cons_zero, List.set_cons_succ]
  refine wpAnyH_take (i := 23) (oi := { dst := some 55, op := Op.binOp BinOp.add 9 (Operand.tmp 51) (Operand.tmp 54) 9, type := 9, pos := "ref.go:47", after := #[{ on := 19, ground := Ground.data }, { on := 22, ground := Ground.data }], guard := none }) (v := ?_) rfl (by kernel_rfl) (by kernel_rfl) (by kernel_rfl) (fun _ _ _ h => h) (Or.inl ⟨by rfl, ?_⟩) (by assumption) ?_
  rotate_left 1
  · intro w hSw
    go_simp
    first | done | with_reducible rfl
  try simp only [Act.put, List.setIfInBounds_toArray, List.set_cons_zero, List.set_cons_succ]
  refine wpAnyH_ready (rs := [26]) (by kernel_rfl) (by simp) ?_
  refine AllReadyH.cons (o := { dst := some 58, op := Op.call { callee := Callee.value (Operand.func 46), args := #[Operand.tmp 57, Operand.const (Value.int IntKind.i64 1)], argTypes := #[3, 3] }, type := 9, pos := "ref.go:47", after := #[{ on := 25, ground := Ground.data }, { on := 22, ground := Ground.chain }], guard := none }) rfl (fun K hK => ?_) AllReadyH.nil
  go_simp
  (go_at_call 46; (with_reducible refine (N7.out _).mono ?_); rintro e w5 ⟨rfl, hb5⟩)
  go_simp
  refine hK.out _ _ ⟨(hb5.block _ (heap_lt hHeld.1)).trans hHeld.1, hHeld.2.trans (hb5.mono hHeld.2.size)⟩ (fun hHeld => ?_)
  clear hK K
  try simp only [Act.put, List.setIfInBounds_toArray, List.set_cons_zero, List.set_cons_succ]
  refine wpAnyH_take (i := 27) (oi := { dst := some 59, op := Op.binOp BinOp.add 9 (Operand.tmp 55) (Operand.tmp 58) 9, type := 9, pos := "ref.go:47", after := #[{ on := 23, ground := Ground.data }, { on := 26, ground := Ground.data }], guard := none }) (v := ?_) rfl (by kernel_rfl) (by kernel_rfl) (by kernel_rfl) (fun _ _ _ h => h) (Or.inl ⟨by rfl, ?_⟩) (by assumption) ?_
  rotate_left 1
  · intro w hSw
    go_simp
    first | done | with_reducible rfl
  try simp only [Act.put, List.setIfInBounds_toArray, List.set_cons_zero, List.set_cons_succ]
  refine wpAnyH_ready (rs := [28]) (by kernel_rfl) (by simp) ?_
  refine AllReadyH.cons (o := { dst := some 8, op := Op.assign (Operand.tmp 59), type := 9, pos := "ref.go:47", after := #[{ on := 27, ground := Ground.data }, { on := 26, ground := Ground.chain }, { on := 0, ground := Ground.phase }, { on := 1, ground := Ground.phase }, { on := 2, ground := Ground.phase }, { on := 3, ground := Ground.phase }, { on := 4, ground := Ground.phase }, { on := 5, ground := Ground.phase }, { on := 6, ground := Ground.phase }, { on := 7, ground := Ground.phase }, { on := 8, ground := Ground.phase }, { on := 9, ground := Ground.phase }, { on := 10, ground := Ground.phase }, { on := 11, ground := Ground.phase }, { on := 12, ground := Ground.phase }, { on := 13, ground := Ground.phase }, { on := 14, ground := Ground.phase }, { on := 15, ground := Ground.phase }, { on := 16, ground := Ground.phase }, { on := 17, ground := Ground.phase }, { on := 18, ground := Ground.phase }, { on := 19, ground := Ground.phase }, { on := 20, ground := Ground.phase }, { on := 21, ground := Ground.phase }, { on := 22, ground := Ground.phase }, { on := 23, ground := Ground.phase }, { on := 24, ground := Ground.phase }, { on := 25, ground := Ground.phase }, { on := 26, ground := Ground.phase }, { on := 27, ground := Ground.phase }], guard := none }) rfl (fun K hK => ?_) AllReadyH.nil
  go_simp
  refine hK.out _ _ hHeld (fun hHeld => ?_)
  clear hK K
  try simp only [Act.put, List.setIfInBounds_toArray, List.set_cons_zero, List.set_cons_succ]
  refine wpAnyH_done (by kernel_rfl) ?_ _
  simp only [Exit.then]
  have HH3 := Lib.hid hHeld
  clear hHeld
  have HA : Hid (y7 = bs (hdA hh t)) := Lib.hid (by
    rw [HY7.out, HY6.out, HY5.out, HY4.out, HY3.out, HY2.out, HX1.out, HX2.out, HX3.out, HX4.out, HX5.out, HX6.out, HX7.out, HV1.out, HF1.out, HHE.out]
    simp only [bs_append]; rfl)
  have g8 : s8.size = 4 := by rw [HSTR.out.1, bs_size]; exact o6
  have g9 : s9.size = 4 := by rw [HSTR.out.2.1, bs_size]; exact o7
  have g10 : s10.size ≤ 40 := by rw [z10]; exact o8.1
  obtain ⟨u, hu⟩ : ∃ x, x = s8 ++ s9 := ⟨_, rfl⟩
  have gu : u.size = 8 := by rw [hu, ByteArray.size_append']; omega
  have d1 : ∀ wx, (Op.stringOp .add s8 s9).run Try.prog wx = .ok (.string u) wx := fun wx => by rw [hu]; exact run_string_add_sum wx _ _ (by omega)
  obtain ⟨B, hB⟩ : ∃ x, x = u ++ s10 := ⟨_, rfl⟩
  have gB : B.size ≤ 48 := by rw [hB, ByteArray.size_append']; omega
  have d2 : ∀ wx, (Op.stringOp .add u s10).run Try.prog wx = .ok (.string B) wx := fun wx => by rw [hB]; exact run_string_add_sum wx _ _ (by omega)
  obtain ⟨m1, hm1⟩ : ∃ x, x = y7 ++ (⟨#[0, 0]⟩ : ByteArray) := ⟨_, rfl⟩
  have h00 : (⟨#[0, 0]⟩ : ByteArray).size = 2 := rfl
  have gm1 : m1.size = 12 := by rw [hm1, ByteArray.size_append']; omega
  have d3 : ∀ wx, (Op.stringOp .add y7 ⟨#[0, 0]⟩).run Try.prog wx = .ok (.string m1) wx := fun wx => by rw [hm1]; exact run_string_add_sum wx _ _ (by rw [h00]; omega)
  obtain ⟨m2, hm2⟩ : ∃ x, x = m1 ++ B := ⟨_, rfl⟩
  have gm2 : m2.size ≤ 60 := by rw [hm2, ByteArray.size_append']; omega
  have d4 : ∀ wx, (Op.stringOp .add m1 B).run Try.prog wx = .ok (.string m2) wx := fun wx => by rw [hm2]; exact run_string_add_sum wx _ _ (by omega)
  obtain ⟨z, hz⟩ : ∃ z, z = sm m2.data.toList := ⟨_, rfl⟩
  have hzl : z < 65536 := by rw [hz]; unfold sm; omega
  have CS : Hid (∀ V, Calls Try.prog 47 #[.string m2] V fun e w' => e = .returned (.int .i64 (z : Nat)) ∧ Below V.heap.size V w') := Lib.hid (fun V => by rw [hz]; exact rsum_any m2 V (by omega))
  obtain ⟨ns, hns⟩ : ∃ x, x = bs (be z 2) := ⟨_, rfl⟩
  have gns : ns.size = 2 := by rw [hns, bs_size, be_length]
  have CN : Hid (∀ V, Calls Try.prog 46 #[.int .i64 (z : Nat), .int .i64 2] V fun e w' => e = .returned (.string ns) ∧ Below V.heap.size V w') := Lib.hid (fun V => by rw [hns]; exact rnum_any z 2 (by omega) (by decide) V)
  obtain ⟨r1, hr1⟩ : ∃ x, x = y7 ++ ns := ⟨_, rfl⟩
  have gr1 : r1.size = 12 := by rw [hr1, ByteArray.size_append']; omega
  have d5 : ∀ wx, (Op.stringOp .add y7 ns).run Try.prog wx = .ok (.string r1) wx := fun wx => by rw [hr1]; exact run_string_add_sum wx _ _ (by omega)
  obtain ⟨r2, hr2⟩ : ∃ x, x = r1 ++ B := ⟨_, rfl⟩
  have gr2 : r2.size ≤ 60 := by rw [hr2, ByteArray.size_append']; omega
  have d6 : ∀ wx, (Op.stringOp .add r1 B).run Try.prog wx = .ok (.string r2) wx := fun wx => by rw [hr2]; exact run_string_add_sum wx _ _ (by omega)
  have d7 : ∀ wx, (Op.stringOp .add r2 (bs s)).run Try.prog wx = .ok (.string (r2 ++ bs s)) wx := fun wx => run_string_add_sum wx _ _ (by omega)
  have HR : Hid (putR R = .tuple #[.string (r2 ++ bs s), .int .i64 0]) := Lib.hid (by
    have hB2 : B = bs (hh.src ++ hh.dst ++ hh.opt) := by rw [hB, hu, HSTR.out.1, HSTR.out.2.1, HSTR.out.2.2, HHE.out, bs_append, bs_append]
    have hm : m2.data.toList = hdB hh t 0 := by
      rw [hm2, hm1, hB2, HA.out]
      unfold hdB
      have e1 : (⟨#[0, 0]⟩ : ByteArray) = bs (be 0 2) := rfl
      rw [e1, bs_append, bs_append, bs_list]
    have ht9 : 20 + hh.opt.length + s.length = t := by have h1 := HTT.out; rw [HHE.out]; simp only; omega
    rw [HR0.out, putE_eq hh s HCK.out (by omega), ht9, ← hm, ← hz, hr2, hr1, hns, hB2, HA.out, bs_append, bs_append, bs_append]
    rfl)
  have l7 := cellAt (i := 7) (v := .string s8) HH3.out.1 rfl
  have l8 := cellAt (i := 8) (v := .string s9) HH3.out.1 rfl
  have l9' := cellAt (i := 9) (v := .string s10) HH3.out.1 rfl
  clear hu hB hm1 hm2 hz hns hr1 hr2
  go_wp2_with (first | (go_at_call 47; (with_reducible refine (CS.out _).mono ?_); rintro e w6 ⟨rfl, hb6⟩; have HB6 := Lib.hid (HH3.out.2.trans (hb6.mono HH3.out.2.size)); clear hb6) | (go_at_call 46; (with_reducible refine (CN.out _).mono ?_); rintro e w7 ⟨rfl, hb7⟩; have HB7 := Lib.hid (HB6.out.trans (hb7.mono HB6.out.size)); clear hb7))
  go_ret2
  exact ⟨by rw [HR.out]; rfl, HB7.out⟩
end Go.Proofs.Ythdkbocokefdhaa
