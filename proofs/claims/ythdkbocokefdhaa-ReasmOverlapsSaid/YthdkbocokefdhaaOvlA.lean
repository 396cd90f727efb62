import Derived.Test.YthdkbocokefdhaaOncA
import Derived.Test.YthdkbocokefdhaaByt
/- ReasmOverlaps: the walk. -/
namespace Go.Proofs.Ythdkbocokefdhaa
set_option maxRecDepth 100000
open Go.RowKit
set_option maxHeartbeats 16000000 in
theorem ovl_walk (h : H4) (pay : List UInt8) (mtu : Int) (ak : Nat) (hak : ak < 256) (bz : UInt8) (w : World) (hl : h.src.length < 9223372036854775808 ∧ h.dst.length < 9223372036854775808 ∧ h.opt.length < 9223372036854775808) (hp : pay.length < 9223372036854775808) :
    Calls Try.prog 6 #[hv h, .string (bs pay), .int .i64 mtu, .int .u8 (ak : Nat), .int .u8 (bz.toNat : Nat)] w fun e w' => e = .returned (.bool true) ∧ Below w.heap.size w w' := by
  obtain ⟨S, hS⟩ : ∃ S, S = bs pay := ⟨_, rfl⟩
  have hSz : S.size = pay.length := by rw [hS, bs_size]
  obtain ⟨h', hh'⟩ : ∃ h', h' = { h with off := 0, mf := false, df := false } := ⟨_, rfl⟩
  obtain ⟨R, hR⟩ : ∃ R, R = putE h' pay := ⟨_, rfl⟩
  have PU : pay.length ≤ 5000 → Hid (∀ V, Calls Try.prog 22 #[hv h', .string S] V fun e w' => e = .returned (putR R) ∧ Below V.heap.size V w') := fun h2 => Lib.hid (fun V => by
    rw [hR, hS]; exact rput_any h' pay V (by rw [hh']; exact hl) (by omega))
  have CA := Lib.hid awake_any
  obtain ⟨tos, id, off, ttl, proto, df, mf, src, dst, opt⟩ := h
  have hh2 : h' = ⟨tos, id, 0, ttl, proto, false, false, src, dst, opt⟩ := hh'
  clear hh'
  obtain ⟨Hx, hHx⟩ : ∃ k, k = w.heap.size := ⟨_, rfl⟩
  obtain ⟨W1, hW1⟩ : ∃ W, W = w.alloc (.cells #[.int .i64 tos, .int .i64 id, .int .i64 off, .int .i64 ttl, .int .i64 proto, .bool df, .bool mf, .string (bs src), .string (bs dst), .string (bs opt)] 43) := ⟨_, rfl⟩
  have HW1 : Hid (W1.heap[Hx]? = some (.cells #[.int .i64 tos, .int .i64 id, .int .i64 off, .int .i64 ttl, .int .i64 proto, .bool df, .bool mf, .string (bs src), .string (bs dst), .string (bs opt)] 43 (0, 0)) ∧ Below w.heap.size w W1) := Lib.hid (by rw [hW1, hHx]; exact ⟨alloc_new _ _, (Below.refl _ _).alloc (Nat.le_refl _) _⟩)
  obtain ⟨byn, hbyn⟩ : ∃ b, b = bz.toNat := ⟨_, rfl⟩
  have HBYN := Lib.hid hbyn
  rw [← hS, ← hbyn]
  clear hbyn
  have HHX : Hid (w.heap.size ≤ Hx) := Lib.hid (by omega)
  have HS := Lib.hid hS
  have HSZ := Lib.hid hSz
  have HR := Lib.hid hR
  have HH2 := Lib.hid hh2
  have HPU := Lib.hid PU
  have HP := Lib.hid hp
  clear hS hSz hR hh2 PU hp
  unfold hv hc
  simp only at hl ⊢
  go_enter Try.func6, Try.ntmps6
  go_upto_region 1 with (fail)
  rw [← hW1, ← hHx]
  clear hW1 hHx
  go_upto_region 3 with (go_at_call 9; (with_reducible refine (CA.out _).mono ?_); rintro e W2 ⟨rfl, hb2⟩)
  have HW2 : Hid (W2.heap[Hx]? = some (.cells #[.int .i64 tos, .int .i64 id, .int .i64 off, .int .i64 ttl, .int .i64 proto, .bool df, .bool mf, .string (bs src), .string (bs dst), .string (bs opt)] 43 (0, 0)) ∧ Below w.heap.size w W2) := Lib.hid ⟨(hb2.block _ (heap_lt HW1.out.1)).trans HW1.out.1, HW1.out.2.trans (hb2.mono HW1.out.2.size)⟩
  clear hb2
  by_cases g1 : 5000 < S.size
  · have g1' : (5000 : Int) < (S.size : Int) := by omega
    go_wp2_with (fail)
    go_ret
    exact ⟨rfl, HW2.out.2⟩
  have g1' : ¬ (5000 : Int) < (S.size : Int) := by omega
  by_cases g2 : byn = 0
  · have g2' : (byn : Int) = 0 := by omega
    have g2b : ((byn : Int) == 0) = true := by rw [beq_iff_eq]; exact g2'
    go_wp2_with (fail)
    go_ret
    exact ⟨rfl, HW2.out.2⟩
  have g2' : ¬ (byn : Int) = 0 := by omega
  have g2b : ((byn : Int) == 0) = false := by rw [beq_eq_false_iff_ne]; exact g2'
  have HBY0 : Hid (byn ≠ 0) := Lib.hid g2
  have k2 := cellAt (i := 2) (v := .int .i64 off) HW2.out.1 rfl
  have k6 := cellAt (i := 6) (v := .bool mf) HW2.out.1 rfl
  have k5 := cellAt (i := 5) (v := .bool df) HW2.out.1 rfl
  have f2 := Lib.frozen_of_heap HW2.out.1 2
  have f6 := Lib.frozen_of_heap HW2.out.1 6
  have f5 := Lib.frozen_of_heap HW2.out.1 5
  go_upto_region 6 with (fail)
  obtain ⟨W3, hW3⟩ : ∃ W, W = ((W2.setCell ⟨Hx, 2, none⟩ (.int .i64 0)).setCell ⟨Hx, 6, none⟩ (.bool false)).setCell ⟨Hx, 5, none⟩ (.bool false) := ⟨_, rfl⟩
  have HW3 : Hid (W3.heap[Hx]? = some (.cells #[.int .i64 tos, .int .i64 id, .int .i64 0, .int .i64 ttl, .int .i64 proto, .bool false, .bool false, .string (bs src), .string (bs dst), .string (bs opt)] 43 (0, 0)) ∧ Below w.heap.size w W3) := Lib.hid (by
    rw [hW3]
    exact ⟨heap_set (heap_set (heap_set HW2.out.1 (by show 2 < 10; decide) _) (by show 6 < 10; decide) _) (by show 5 < 10; decide) _, ((HW2.out.2.setCell (p := ⟨Hx, 2, none⟩) HHX.out _).setCell (p := ⟨Hx, 6, none⟩) HHX.out _).setCell (p := ⟨Hx, 5, none⟩) HHX.out _⟩)
  rw [← hW3]
  clear hW3 k2 k6 k5 f2 f6 f5
  have k0 := cellAt (i := 0) (v := .int .i64 tos) HW3.out.1 rfl
  have k1 := cellAt (i := 1) (v := .int .i64 id) HW3.out.1 rfl
  have k2 := cellAt (i := 2) (v := .int .i64 0) HW3.out.1 rfl
  have k3 := cellAt (i := 3) (v := .int .i64 ttl) HW3.out.1 rfl
  have k4 := cellAt (i := 4) (v := .int .i64 proto) HW3.out.1 rfl
  have k5 := cellAt (i := 5) (v := .bool false) HW3.out.1 rfl
  have k6 := cellAt (i := 6) (v := .bool false) HW3.out.1 rfl
  have k7 := cellAt (i := 7) (v := .string (bs src)) HW3.out.1 rfl
  have k8 := cellAt (i := 8) (v := .string (bs dst)) HW3.out.1 rfl
  have k9 := cellAt (i := 9) (v := .string (bs opt)) HW3.out.1 rfl
  have PU2 : Hid (∀ V, Calls Try.prog 22 #[.agg #[.int .i64 tos, .int .i64 id, .int .i64 0, .int .i64 ttl, .int .i64 proto, .bool false, .bool false, .string (bs src), .string (bs dst), .string (bs opt)], .string S] V fun e w' => e = .returned (putR R) ∧ Below V.heap.size V w') := Lib.hid (by
    have h1 := (HPU.out (by have := HSZ.out; omega)).out
    rw [HH2.out] at h1
    exact h1)
  clear HPU
  obtain ⟨X, c, hpr, hcc⟩ : ∃ (X : ByteArray) (c : Nat), putR R = .tuple #[.string X, .int .i64 (c : Nat)] ∧ ((c = 0 ∧ R = .ok X.data.toList) ∨ c ≠ 0) := by
    cases hRR : R with
    | ok x => exact ⟨bs x, 0, rfl, .inl ⟨rfl, rfl⟩⟩
    | error e => exact ⟨⟨#[]⟩, e, rfl, .inr (by rw [HR.out] at hRR; exact putE_err hRR)⟩
  rw [hpr] at PU2
  clear hpr
  have HCC := Lib.hid hcc
  clear hcc
  go_upto_region 7 with (go_at_call 22; (with_reducible refine (PU2.out _).mono ?_); rintro e w4 ⟨rfl, hb4⟩)
  have HB4 : Hid (Below w.heap.size w w4) := Lib.hid (HW3.out.2.trans (hb4.mono HW3.out.2.size))
  clear hb4 k0 k1 k2 k3 k4 k5 k6 k7 k8 k9 PU2 CA
  by_cases hc0 : c = 0
  rotate_left
  · have q1 : ((c : Int) != 0) = true := by rw [bne_iff_ne]; omega
    have q2 : (c : Int) ≠ 0 := by omega
    go_wp2_with (fail)
    go_ret
    exact ⟨rfl, HB4.out⟩
  subst hc0
  have hput : putE h' pay = .ok X.data.toList := by
    rcases HCC.out with ⟨_, h1⟩ | h1
    · rw [← HR.out, h1]
    · exact absurd rfl h1
  have CUT := Lib.hid (fun V => cut_any X mtu h' pay hput (by rw [HH2.out]) (by rw [HH2.out]) V)
  have HPUT := Lib.hid hput
  clear hput HCC
  go_upto_region 10 with (go_at_call 23; (with_reducible refine (CUT.out _).mono ?_); rintro e w6 ⟨v, cc, rfl, hb6, hok⟩)
  have HB6 := Lib.hid (HB4.out.trans (hb6.mono HB4.out.size))
  have HOK := Lib.hid hok
  clear hok CUT hb6
  by_cases hc1 : cc = 0
  rotate_left
  · have q1 : (cc != 0) = true := by rw [bne_iff_ne]; exact hc1
    go_wp2_with (fail)
    go_ret
    exact ⟨rfl, HB6.out⟩
  subst hc1
  obtain ⟨l, z, nl, hrow, hcut⟩ := HOK.out rfl
  have hnl := hcut.len
  have hn0 := hcut.ok.n0
  obtain ⟨g, capl, rfl, _⟩ := World.ownsRow.form hrow (by rw [hnl]; exact hn0)
  rw [hnl]
  have HROW := Lib.hid hrow
  have HCUT := Lib.hid hcut
  clear hrow hcut HOK hnl
  by_cases g4 : nl < 2
  · have g4' : (nl : Int) < 2 := by omega
    go_wp2_with (fail)
    go_ret
    exact ⟨rfl, HB6.out⟩
  have g4' : ¬ (nl : Int) < 2 := by omega
  by_cases g3 : 600 < nl
  · have g3' : (600 : Int) < (nl : Int) := by omega
    go_wp2_with (fail)
    go_ret
    exact ⟨rfl, HB6.out⟩
  have g3' : ¬ (600 : Int) < (nl : Int) := by omega
  have CR := Lib.hid (fun V => roomy_any V)
  have CN := Lib.hid (fun V => new_tf 64 1048576 64 V (by decide))
  obtain ⟨n1, hn1⟩ : ∃ m, m = nl - 1 := ⟨_, rfl⟩
  obtain ⟨kl, hkl⟩ : ∃ k, k = ak % n1 := ⟨_, rfl⟩
  have hkn : kl < n1 := by rw [hkl]; exact Nat.mod_lt _ (by omega)
  have hnz : ¬ (n1 : Int) = 0 := by omega
  have hnzb : ((n1 : Int) == 0) = false := by rw [beq_eq_false_iff_ne]; omega
  have u0 : IntKind.i64.wrap ((nl : Int) - 1) = (n1 : Int) := by rw [IntWalk.i64_in _ (by omega)]; omega
  have u1 : IntKind.i64.wrap (ak : Int) = (ak : Int) := IntWalk.i64_in _ (by omega)
  have u2 : Int.tmod (ak : Int) (n1 : Int) = (kl : Int) := by rw [hkl]; rfl
  have u3 : IntKind.i64.wrap (kl : Int) = (kl : Int) := IntWalk.i64_in _ (by omega)
  have u4 : (kl : Int) < (nl : Int) := by omega
  have u5 : (n1 : Int) < (nl : Int) := by omega
  have HN1 := Lib.hid hn1
  clear hkl hn1
  go_upto_region 16 with (first | (go_at_call 24; (with_reducible refine (CR.out _).mono ?_); rintro e w7 ⟨rfl, hb7⟩) | (go_at_call 11; (with_reducible refine (CN.out _).mono ?_); rintro e w8 ⟨Tb, M, rfl, ht8, hb8⟩))
  obtain ⟨F, hF⟩ : ∃ F : Nat → Prop, F = fun k => k < w6.heap.size := ⟨_, rfl⟩
  have HT0 : Hid (TF F Tb M room64 [] w8) := Lib.hid (by rw [hF]; exact ht8.mono fun k hk => Nat.lt_of_lt_of_le hk hb7.size)
  have H68 : Below w6.heap.size w6 w8 := hb7.trans (hb8.mono hb7.size)
  have HK0 : Hid (Kp F w6 w8) := Lib.hid (by rw [hF]; exact Kp.of_below H68 (fun k hk => hk))
  have HF : Hid ((∀ k, k < w6.heap.size → F k) ∧ ∀ k, F k → k < w6.heap.size) := Lib.hid ⟨fun k hk => by rw [hF]; exact hk, fun k hk => by rw [hF] at hk; exact hk⟩
  clear hF ht8 hb8 hb7 H68 CN CR
  have CX : Hid (∀ (q : Nat) (V : World), q < nl → Kp F w6 V → ∃ x, putE (pcs h' pay z q).h (pcs h' pay z q).s = .ok x ∧ V.cell? ⟨g, q, none⟩ = some (.string (bs x))) := Lib.hid (by
    intro q V hq hkp
    obtain ⟨x, hx, hlx⟩ := HCUT.out.at' q hq
    have hr2 : SRow w4.heap.size (.slice (some ⟨g, 0, none⟩) l.length capl) l V := HROW.out.same fun b hb => hkp.block b (HF.out.1 b (by obtain ⟨cur, hc⟩ := HROW.out.obj hb; exact heap_lt hc))
    obtain ⟨g', c', e1, e2⟩ := hr2.at q (by rw [HCUT.out.len]; exact hq)
    injection e1 with e1
    injection e1 with e1
    injection e1 with e1
    rw [← e1] at e2
    have e3 : l[q]'(by rw [HCUT.out.len]; exact hq) = bs x := by
      have := List.getElem?_eq_getElem (l := l) (i := q) (by rw [HCUT.out.len]; exact hq)
      rw [hlx] at this; exact (Option.some.inj this).symm
    rw [e3] at e2
    exact ⟨x, hx, e2⟩)
  -- the piece that is turned
  obtain ⟨xk, hxk, ck⟩ := CX.out kl w8 (by omega) HK0.out
  have hkz := pcs_len h' pay z kl
  have hmore := (more_iff HCUT.out.ok (show kl < nl by omega)).2 (show kl + 1 < nl by omega)
  have hmul : (kl + 1) * z = kl * z + z := by rw [Nat.add_mul, Nat.one_mul]
  have hz0 := HCUT.out.ok.z0
  have hks0 : 0 < (pcs h' pay z kl).s.length := by omega
  have hksl : (pcs h' pay z kl).s.length ≤ 65535 := by have := HCUT.out.ok.len; omega
  have hxl := (putE_inv hxk).2.2
  obtain ⟨KS, hKS⟩ : ∃ s, s = bs (pcs h' pay z kl).s := ⟨_, rfl⟩
  obtain ⟨a0, a1, a2, a3, a4, a5, a6, a7, a8, a9, hkh⟩ : ∃ a0 a1 a2 a3 a4 a5 a6 a7 a8 a9, hv (pcs h' pay z kl).h = .agg #[.int .i64 a0, .int .i64 a1, .int .i64 a2, .int .i64 a3, .int .i64 a4, .bool a5, .bool a6, .string a7, .string a8, .string a9] := ⟨_, _, _, _, _, _, _, _, _, _, rfl⟩
  have GET : Hid (∀ V, Calls Try.prog 25 #[.string (bs xk)] V fun e w' => e = .returned (.tuple #[.agg #[.int .i64 a0, .int .i64 a1, .int .i64 a2, .int .i64 a3, .int .i64 a4, .bool a5, .bool a6, .string a7, .string a8, .string a9], .string KS, .int .i64 0]) ∧ Below V.heap.size V w') := Lib.hid (fun V => by
    have h1 := rget_any (bs xk) V (by rw [bs_size]; omega)
    rw [bs_list, get_put hxk] at h1
    have h2 : getR (.ok ((pcs h' pay z kl).h, (pcs h' pay z kl).s)) = .tuple #[hv (pcs h' pay z kl).h, .string (bs (pcs h' pay z kl).s), .int .i64 0] := rfl
    rw [h2, hkh, ← hKS] at h1
    exact h1)
  obtain ⟨b0, sr, hsr⟩ : ∃ b0 sr, (pcs h' pay z kl).s = b0 :: sr := by
    cases hq : (pcs h' pay z kl).s with
    | nil => rw [hq] at hks0; simp at hks0
    | cons b t => exact ⟨b, t, rfl⟩
  have hKSz : KS.size = sr.length + 1 := by rw [hKS, bs_size, hsr]; rfl
  obtain ⟨b1, hb1⟩ : ∃ b1, b1 = b0 ^^^ bz := ⟨_, rfl⟩
  have PUTB : ∃ bad, putE (pcs h' pay z kl).h (b1 :: sr) = .ok bad ∧ Hid (∀ V, Calls Try.prog 22 #[.agg #[.int .i64 a0, .int .i64 a1, .int .i64 a2, .int .i64 a3, .int .i64 a4, .bool a5, .bool a6, .string a7, .string a8, .string a9], .string (bs (b1 :: sr))] V fun e w' => e = .returned (.tuple #[.string (bs bad), .int .i64 0]) ∧ Below V.heap.size V w') := by
    have hok := pcs_hok HCUT.out.ok (show kl < nl by omega)
    have hl2 : (b1 :: sr).length = (pcs h' pay z kl).s.length := by rw [hsr]; rfl
    obtain ⟨bad, hbad, _⟩ := putE_ok hok (s := b1 :: sr) (by have := (putE_inv hxk).2; rw [hl2]; omega)
    refine ⟨bad, hbad, Lib.hid (fun V => ?_)⟩
    have h1 := rput_any (pcs h' pay z kl).h (b1 :: sr) V ⟨by have := hok.src; omega, by have := hok.dst; omega, by have := hok.opt; omega⟩ (by rw [hl2]; omega)
    rw [hbad, hkh] at h1
    exact h1
  obtain ⟨bad, hbad, PUTB⟩ := PUTB
  have HBAD := Lib.hid hbad
  have HB1 := Lib.hid hb1
  clear hb1
  have HSR := Lib.hid hsr
  have HHKS := Lib.hid hKS
  have HKSZ := Lib.hid hKSz
  have h0ks : (0 : Int) < (KS.size : Int) := by omega
  clear hxk hkz hmore hmul hks0 hksl hxl hbad hsr hKS hKSz hkh
  go_upto_region 17 with (go_at_call 25; (with_reducible refine (GET.out _).mono ?_); rintro e w9 ⟨rfl, hb9⟩)
  obtain ⟨X9, hX9⟩ : ∃ k, k = w9.heap.size := ⟨_, rfl⟩
  obtain ⟨W9, hW9⟩ : ∃ W, W = w9.alloc (.cells #[.int .i64 a0, .int .i64 a1, .int .i64 a2, .int .i64 a3, .int .i64 a4, .bool a5, .bool a6, .string a7, .string a8, .string a9] 43) := ⟨_, rfl⟩
  have HW9 : Hid (W9.heap[X9]? = some (.cells #[.int .i64 a0, .int .i64 a1, .int .i64 a2, .int .i64 a3, .int .i64 a4, .bool a5, .bool a6, .string a7, .string a8, .string a9] 43 (0, 0)) ∧ Below w8.heap.size w8 W9) := Lib.hid (by rw [hW9, hX9]; exact ⟨alloc_new _ _, hb9.alloc hb9.size _⟩)
  rw [← hW9, ← hX9]
  clear hW9 hX9 hb9 GET
  obtain ⟨W10, cap10, hconv, hb10, hrow10⟩ := conv_any W9 KS
  obtain ⟨g2, hg2⟩ : ∃ k, k = W9.heap.size := ⟨_, rfl⟩
  rw [← hg2] at hconv hrow10
  have HB10 := Lib.hid hb10
  have hrow10' : BRow W10 g2 (b0 :: sr) := by rw [HHKS.out, bs_list, HSR.out] at hrow10; exact hrow10
  have HR10 := Lib.hid hrow10'
  have HG2 := Lib.hid hg2
  have cb := HR10.out.cell (j := 0) (by simp)
  have fb := HR10.out.free (j := 0) (by simp)
  simp only [List.getD_cons_zero] at cb
  have hxor : bits .xor .u8 (b0.toNat : Int) (byn : Int) = (b1.toNat : Int) := by rw [HBYN.out, HB1.out]; exact xor_b b0 bz
  clear hb10 hrow10 hrow10' hg2
  go_upto_region 21 with (fail)
  obtain ⟨W11, hW11⟩ : ∃ W, W = W10.setCell ⟨g2, 0, none⟩ (.int .u8 (b1.toNat : Nat)) := ⟨_, rfl⟩
  have HR11 : Hid (BRow W11 g2 (b1 :: sr)) := Lib.hid (by rw [hW11]; exact HR10.out.set 0 b1)
  have HW11 : Hid (W11.heap[X9]? = some (.cells #[.int .i64 a0, .int .i64 a1, .int .i64 a2, .int .i64 a3, .int .i64 a4, .bool a5, .bool a6, .string a7, .string a8, .string a9] 43 (0, 0)) ∧ Below w8.heap.size w8 W11) := Lib.hid (by
    have hx := heap_lt HW9.out.1
    have hg := HG2.out
    rw [hW11]
    refine ⟨?_, (HW9.out.2.trans (HB10.out.mono HW9.out.2.size)).setCell (p := ⟨g2, 0, none⟩) (by rw [hg]; exact HW9.out.2.size) _⟩
    rw [Below.heap_setCell _ _ _ _ (by show X9 ≠ g2; omega)]
    exact (HB10.out.block _ hx).trans HW9.out.1)
  rw [← hW11]
  have hback := back_any HR11.out KS.size cap10 (by rw [HKSZ.out]; rfl)
  rw [show (⟨(b1 :: sr).toArray⟩ : ByteArray) = bs (b1 :: sr) from rfl] at hback
  obtain ⟨KT, hKT⟩ : ∃ s, s = bs (b1 :: sr) := ⟨_, rfl⟩
  rw [← hKT] at hback PUTB
  have k0 := cellAt (i := 0) (v := .int .i64 a0) HW11.out.1 rfl
  have k1 := cellAt (i := 1) (v := .int .i64 a1) HW11.out.1 rfl
  have k2 := cellAt (i := 2) (v := .int .i64 a2) HW11.out.1 rfl
  have k3 := cellAt (i := 3) (v := .int .i64 a3) HW11.out.1 rfl
  have k4 := cellAt (i := 4) (v := .int .i64 a4) HW11.out.1 rfl
  have k5 := cellAt (i := 5) (v := .bool a5) HW11.out.1 rfl
  have k6 := cellAt (i := 6) (v := .bool a6) HW11.out.1 rfl
  have k7 := cellAt (i := 7) (v := .string a7) HW11.out.1 rfl
  have k8 := cellAt (i := 8) (v := .string a8) HW11.out.1 rfl
  have k9 := cellAt (i := 9) (v := .string a9) HW11.out.1 rfl
  clear hW11 hconv cb fb hxor hKT
  go_upto_region 24 with (go_at_call 22; (with_reducible refine (PUTB.out _).mono ?_); rintro e w12 ⟨rfl, hb12⟩)
  have HK12 : Hid (Kp F w6 w12 ∧ TF F Tb M room64 [] w12) := Lib.hid (by
    have h1 : Below w8.heap.size w8 w12 := HW11.out.2.trans (hb12.mono HW11.out.2.size)
    exact ⟨HK0.out.trans (Kp.of_below h1 (fun k hk => Nat.lt_of_lt_of_le (HF.out.2 k hk) HK0.out.size)), HT0.out.below h1⟩)
  clear hb12 k0 k1 k2 k3 k4 k5 k6 k7 k8 k9 hback ck PUTB
  go_wp2_with (fail)
  go_loopw [24] (fun i V => ∃ (j : Nat) (S' : Nat → Bool) (L : List En), j ≤ n1 ∧ i = .int .i64 (j : Int) ∧ Hid (TF F Tb M room64 L V) ∧ Hid (Kp F w6 V) ∧ Hid (OSt h' pay z nl S' L 0 ∧ GoodT room64 L) ∧ Hid (∀ i, i < nl → (S' i = true ↔ i < j))) (fun i _ => n1 - (intOf i).toNat)
  case atStart => exact ⟨0, _, [], by omega, rfl, Lib.hid HK12.out.2, Lib.hid HK12.out.1, Lib.hid ⟨OSt.start hn0, GoodT.nil _⟩, Lib.hid (fun i _ => by simp)⟩
  case round =>
    obtain ⟨j, S', L, hj, rfl, htf, hkp, hos, hall⟩ := hrel
    have w4' : IntKind.i64.wrap ((j : Int) + 1) = ((j + 1 : Nat) : Int) := by rw [IntWalk.i64_in _ (by omega)]; rfl
    by_cases hlt : j < n1
    · have b0' : (j : Int) < (n1 : Int) := by omega
      have b1' : (j : Int) < (nl : Int) := by omega
      obtain ⟨x, hx, cx⟩ := CX.out j wr (by omega) hkp.out
      have hlast : S' n1 = false := by
        cases hq : S' n1 with
        | false => rfl
        | true => have := (hall.out n1 (by have := HN1.out; omega)).1 hq; omega
      obtain ⟨L', e1, e2⟩ := hole_step HCUT.out.ok (by rw [HH2.out]) (by rw [HH2.out]) HPUT.out (st := room64) (by decide) (by decide) hos.out.1 (show j < nl by omega) (show n1 < nl by have := HN1.out; omega) hlast (by omega) hx
      have hga := addT_good (x := x) hos.out.2
      have ADD := htf.out.add hos.out.2 ⟨by decide, by decide⟩ (bs x) (by have := (putE_inv hx).2; rw [bs_size]; omega)
      rw [bs_list, e1] at ADD
      rw [e1] at hga
      have HADD : Hid (Calls Try.prog 15 #[.pointer (some ⟨Tb, 0, none⟩), .string (bs x)] wr fun e w' => e = .returned (.tuple #[.string ⟨#[]⟩, .int .i64 10]) ∧ TF F Tb M room64 L' w' ∧ Kp F wr w') := Lib.hid ADD
      have HO2 : Hid (OSt h' pay z nl (fun i => S' i || decide (i = j)) L' 0 ∧ GoodT room64 L') := Lib.hid ⟨e2, hga⟩
      have HAL : Hid (∀ i, i < nl → ((S' i || decide (i = j)) = true ↔ i < j + 1)) := Lib.hid (fun i hi => by
        rw [Bool.or_eq_true, hall.out i hi, decide_eq_true_eq]; omega)
      clear hx hlast e1 e2 hga ADD
      go_wp2_with (go_at_call 15; (with_reducible refine (HADD.out).mono ?_); rintro e W6 ⟨rfl, htf6, hkp6⟩)
      exact ⟨⟨j + 1, _, L', by omega, by simp, Lib.hid htf6, Lib.hid (hkp.out.trans hkp6), HO2, HAL⟩, by simp [intOf]; omega⟩
    · have hjn : j = n1 := by omega
      have b0' : ¬ (j : Int) < (n1 : Int) := by omega
      have hn1 := HN1.out
      have hlast : S' n1 = false := by
        cases hq : S' n1 with
        | false => rfl
        | true => have := (hall.out n1 (by omega)).1 hq; omega
      have hSk : S' kl = true := (hall.out kl (by omega)).2 (by omega)
      have hL : L = [⟨kyOf h', part h' pay z nl S', false, 0⟩] := by
        rcases (hos.out.1.lacks (show n1 < nl by omega) hlast).2 with ⟨_, h2⟩ | h2
        · rw [h2 kl (by omega)] at hSk; cases hSk
        · exact h2
      have hne : (b1 :: sr) ≠ (pcs h' pay z kl).s := by
        rw [HSR.out, HB1.out]
        intro e
        injection e with e _
        have h3 : bz = 0 := by
          have := congrArg (fun q => b0 ^^^ q) e
          simp only [← UInt8.xor_assoc, UInt8.xor_self, UInt8.zero_xor] at this
          exact this
        have h4 := HBYN.out
        rw [h3] at h4
        exact HBY0.out (by rw [h4]; rfl)
      have hbs := bad_step HCUT.out.ok (st := room64) (S := S') (a := 0) (k := kl) (by omega) hSk (s' := b1 :: sr) (by rw [HSR.out]; rfl) hne HBAD.out
      rw [← hL] at hbs
      have ADB := htf.out.add hos.out.2 ⟨by decide, by decide⟩ (bs bad) (by have := (putE_inv HBAD.out).2; rw [bs_size]; omega)
      rw [bs_list, hbs] at ADB
      have HADB : Hid (Calls Try.prog 15 #[.pointer (some ⟨Tb, 0, none⟩), .string (bs bad)] wr fun e w' => e = .returned (.tuple #[.string ⟨#[]⟩, .int .i64 14]) ∧ TF F Tb M room64 L w' ∧ Kp F wr w') := Lib.hid ADB
      obtain ⟨B, hB⟩ : ∃ B, B = btsL L := ⟨_, rfl⟩
      have CB : Hid (∀ V, TF F Tb M room64 L V → Calls Try.prog 18 #[.pointer (some ⟨Tb, 0, none⟩)] V fun e w' => e = .returned (.int .i64 (B : Nat)) ∧ w' = V) := Lib.hid (fun V h => by rw [hB]; exact h.bytes)
      have ADL : Hid (∀ V, TF F Tb M room64 L V → Kp F w6 V → ∃ (x : ByteArray) (L2 : List En), V.cell? ⟨g, n1, none⟩ = some (.string x) ∧ Calls Try.prog 15 #[.pointer (some ⟨Tb, 0, none⟩), .string x] V fun e w' => e = .returned (.tuple #[.string X, .int .i64 0]) ∧ TF F Tb M room64 L2 w' ∧ Kp F V w') := Lib.hid (by
        intro V htV hkV
        obtain ⟨x, hx, cx⟩ := CX.out n1 V (by omega) hkV
        obtain ⟨r, L2, made2, g1, g2', g3⟩ := once_step HCUT.out.ok (by rw [HH2.out]) (by rw [HH2.out]) HPUT.out (st := room64) (by decide) (by decide) hos.out.1 (show n1 < nl by omega) hx
        have hallS : ∀ i, i < nl → (S' i || decide (i = n1)) = true := fun i hi => by
          rw [Bool.or_eq_true, hall.out i hi, decide_eq_true_eq]; omega
        have hA := htV.add hos.out.2 ⟨by decide, by decide⟩ (bs x) (by have := (putE_inv hx).2; rw [bs_size]; omega)
        rw [bs_list, g1] at hA
        refine ⟨bs x, L2, cx, ?_⟩
        rcases g3 with ⟨rfl, _, _⟩ | ⟨rfl, e⟩ | ⟨_, e, _⟩
        · exact hA
        · rcases g2' with ⟨_, _, e3⟩ | ⟨h9, _⟩
          · omega
          · exact absurd hallS h9
        · cases e)
      have HBF : Hid (∀ V V' : World, Kp F V V' → Below w.heap.size V V') := Lib.hid (fun V V' h => h.below (fun k hk => HF.out.1 k (Nat.lt_of_lt_of_le hk HB6.out.size)))
      clear hlast hSk hL hne hbs ADB hB hn1 hjn
      go_upto_region 32 with (first | (go_at_call 18; (with_reducible refine (CB.out _ htf.out).mono ?_); rintro e w5 ⟨rfl, hw5⟩; replace hw5 := hw5.symm; subst hw5) | (go_at_call 15; (with_reducible refine (HADB.out).mono ?_); rintro e W7 ⟨rfl, ht7, hk7⟩))
      have HT7 := Lib.hid ht7
      have HK7 := Lib.hid (hkp.out.trans hk7)
      clear ht7 hk7
      obtain ⟨x, L2, cx, hadl⟩ := ADL.out W7 HT7.out HK7.out
      have HADL := Lib.hid hadl
      clear hadl
      go_wp2_with (first | (go_at_call 18; (with_reducible refine (CB.out _ HT7.out).mono ?_); rintro e w5 ⟨rfl, hw5⟩; replace hw5 := hw5.symm; subst hw5) | (go_at_call 15; (with_reducible refine (HADL.out).mono ?_); rintro e W8 ⟨rfl, ht8, hk8⟩))
      go_ret
      exact ⟨rfl, HB6.out.trans ((HBF.out _ _ HK7.out).trans (HBF.out _ _ hk8))⟩
end Go.Proofs.Ythdkbocokefdhaa
