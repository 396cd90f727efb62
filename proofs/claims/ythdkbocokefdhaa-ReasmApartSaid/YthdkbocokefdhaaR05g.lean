import Derived.Test.YthdkbocokefdhaaR05p
/- The document's Get of layer 5. -/
namespace Go.Proofs.Ythdkbocokefdhaa
set_option maxRecDepth 100000
open Go.RowKit
theorem rget_end {g : Nat} {a0 a1 a2 a3 a4 a5 a6 a7 a8 a9 x y : Value} {W : World} {tmps : Array Value} (h2 : tmps.getD 2 undef = .pointer (some ⟨g, 0, none⟩)) (h3 : tmps.getD 3 undef = x) (h4 : tmps.getD 4 undef = y)
    (h : W.heap[g]? = some (.cells #[a0, a1, a2, a3, a4, a5, a6, a7, a8, a9] 43 (0, 0))) :
    (results Try.f25 tmps).run Try.prog W = .ok (.tuple #[.agg #[a0, a1, a2, a3, a4, a5, a6, a7, a8, a9], x, y]) W := by
  have c0 : W.cell? ⟨g, 0, none⟩ = some a0 := cellAt h rfl
  have c1 : W.cell? ⟨g, 1, none⟩ = some a1 := cellAt h rfl
  have c2 : W.cell? ⟨g, 2, none⟩ = some a2 := cellAt h rfl
  have c3 : W.cell? ⟨g, 3, none⟩ = some a3 := cellAt h rfl
  have c4 : W.cell? ⟨g, 4, none⟩ = some a4 := cellAt h rfl
  have c5 : W.cell? ⟨g, 5, none⟩ = some a5 := cellAt h rfl
  have c6 : W.cell? ⟨g, 6, none⟩ = some a6 := cellAt h rfl
  have c7 : W.cell? ⟨g, 7, none⟩ = some a7 := cellAt h rfl
  have c8 : W.cell? ⟨g, 8, none⟩ = some a8 := cellAt h rfl
  have c9 : W.cell? ⟨g, 9, none⟩ = some a9 := cellAt h rfl
  simp at h2 h3 h4
  simp [results, Try.results25, go_sem, h2, h3, h4, c0, c1, c2, c3, c4, c5, c6, c7, c8, c9]
theorem rget_endD {g : Nat} {a0 a1 a2 a3 a4 a5 a6 a7 a8 a9 x y : Value} {W : World} {tmps : Array Value} (h2 : tmps.getD 2 undef = .pointer (some ⟨g, 0, none⟩)) (h3 : tmps.getD 3 undef = x) (h4 : tmps.getD 4 undef = y)
    (h : W.heap[g]? = some (.cells #[a0, a1, a2, a3, a4, a5, a6, a7, a8, a9] 43 (0, 0))) :
    (results Try.f25 tmps).run Try.prog W.drew = .ok (.tuple #[.agg #[a0, a1, a2, a3, a4, a5, a6, a7, a8, a9], x, y]) W.drew := rget_end h2 h3 h4 h
set_option maxHeartbeats 16000000 in
theorem rget_any (s : ByteArray) (w : World) (hs : s.size ≤ 1000000) : Calls Try.prog 25 #[.string s] w fun e w' => e = .returned (getR (getE s.data.toList)) ∧ Below w.heap.size w w' := by
  obtain ⟨r, hr⟩ : ∃ r, r = getE s.data.toList := ⟨_, rfl⟩
  rw [← hr]
  obtain ⟨L, hL⟩ : ∃ L, L = s.data.toList := ⟨_, rfl⟩
  rw [← hL] at hr
  have hLs : L.length = s.size := by rw [hL]; simp
  have HL := Lib.hid hL
  have HLS := Lib.hid hLs
  have HR := Lib.hid hr
  obtain ⟨R, hR0⟩ : ∃ R, R = w.heap.size := ⟨_, rfl⟩
  obtain ⟨Z, hZ⟩ : ∃ Z, Z = w.heap.size + 1 := ⟨_, rfl⟩
  obtain ⟨W, hW⟩ : ∃ W, W = (w.alloc (.cells #[.int .i64 0, .int .i64 0, .int .i64 0, .int .i64 0, .int .i64 0, .bool false, .bool false, .string ⟨#[]⟩, .string ⟨#[]⟩, .string ⟨#[]⟩] 43)).alloc (.cells #[.int .i64 0, .int .i64 0, .int .i64 0, .int .i64 0, .int .i64 0, .bool false, .bool false, .string ⟨#[]⟩, .string ⟨#[]⟩, .string ⟨#[]⟩] 43) := ⟨_, rfl⟩
  have HW : Hid (W.heap[R]? = some (.cells #[.int .i64 0, .int .i64 0, .int .i64 0, .int .i64 0, .int .i64 0, .bool false, .bool false, .string ⟨#[]⟩, .string ⟨#[]⟩, .string ⟨#[]⟩] 43 (0, 0)) ∧ W.heap[Z]? = some (.cells #[.int .i64 0, .int .i64 0, .int .i64 0, .int .i64 0, .int .i64 0, .bool false, .bool false, .string ⟨#[]⟩, .string ⟨#[]⟩, .string ⟨#[]⟩] 43 (0, 0)) ∧ Below w.heap.size w W ∧ w.heap.size ≤ R) := Lib.hid (by
    refine ⟨?_, ?_, ?_, by omega⟩
    · rw [hW, Below.heap_alloc _ _ _ (by rw [World.size_alloc]; omega), hR0]; exact alloc_new _ _
    · have := alloc_new (w.alloc (.cells #[.int .i64 0, .int .i64 0, .int .i64 0, .int .i64 0, .int .i64 0, .bool false, .bool false, .string ⟨#[]⟩, .string ⟨#[]⟩, .string ⟨#[]⟩] 43)) (.cells #[.int .i64 0, .int .i64 0, .int .i64 0, .int .i64 0, .int .i64 0, .bool false, .bool false, .string ⟨#[]⟩, .string ⟨#[]⟩, .string ⟨#[]⟩] 43)
      rw [hW, hZ]; simpa using this
    · rw [hW]; exact ((Below.refl _ _).alloc (Nat.le_refl _) _).alloc (by simp) _)
  have nRZ : Z ≠ R := by omega
  have nZR : R ≠ Z := by omega
  have k0 := cellAt (i := 0) (v := .int .i64 0) HW.out.1 rfl
  have f0 := Lib.frozen_of_heap HW.out.1 0
  have z0 := cellAt (i := 0) (v := .int .i64 0) HW.out.2.1 rfl
  have k1 := cellAt (i := 1) (v := .int .i64 0) HW.out.1 rfl
  have f1 := Lib.frozen_of_heap HW.out.1 1
  have z1 := cellAt (i := 1) (v := .int .i64 0) HW.out.2.1 rfl
  have k2 := cellAt (i := 2) (v := .int .i64 0) HW.out.1 rfl
  have f2 := Lib.frozen_of_heap HW.out.1 2
  have z2 := cellAt (i := 2) (v := .int .i64 0) HW.out.2.1 rfl
  have k3 := cellAt (i := 3) (v := .int .i64 0) HW.out.1 rfl
  have f3 := Lib.frozen_of_heap HW.out.1 3
  have z3 := cellAt (i := 3) (v := .int .i64 0) HW.out.2.1 rfl
  have k4 := cellAt (i := 4) (v := .int .i64 0) HW.out.1 rfl
  have f4 := Lib.frozen_of_heap HW.out.1 4
  have z4 := cellAt (i := 4) (v := .int .i64 0) HW.out.2.1 rfl
  have k5 := cellAt (i := 5) (v := .bool false) HW.out.1 rfl
  have f5 := Lib.frozen_of_heap HW.out.1 5
  have z5 := cellAt (i := 5) (v := .bool false) HW.out.2.1 rfl
  have k6 := cellAt (i := 6) (v := .bool false) HW.out.1 rfl
  have f6 := Lib.frozen_of_heap HW.out.1 6
  have z6 := cellAt (i := 6) (v := .bool false) HW.out.2.1 rfl
  have k7 := cellAt (i := 7) (v := .string ⟨#[]⟩) HW.out.1 rfl
  have f7 := Lib.frozen_of_heap HW.out.1 7
  have z7 := cellAt (i := 7) (v := .string ⟨#[]⟩) HW.out.2.1 rfl
  have k8 := cellAt (i := 8) (v := .string ⟨#[]⟩) HW.out.1 rfl
  have f8 := Lib.frozen_of_heap HW.out.1 8
  have z8 := cellAt (i := 8) (v := .string ⟨#[]⟩) HW.out.2.1 rfl
  have k9 := cellAt (i := 9) (v := .string ⟨#[]⟩) HW.out.1 rfl
  have f9 := Lib.frozen_of_heap HW.out.1 9
  have z9 := cellAt (i := 9) (v := .string ⟨#[]⟩) HW.out.2.1 rfl
  clear hr hL
  by_cases e1 : s.size < 20
  · have hE : Hid (r = .error 2) := Lib.hid (by rw [HR.out]; unfold getE; rw [if_pos (by omega)])
    have i1 : (s.size : Int) < 20 := by omega
    clear hLs
    go_enter Try.func25, Try.ntmps25
    go_upto_region 2 with (fail)
    rw [← hW, ← hZ, ← hR0]
    clear hW hZ hR0
    go_wp2_with (fail)
    refine bodyPost_ret (rget_end (g := R) rfl rfl rfl (set10 HW.out.1)) rfl ⟨by rw [hE.out]; rfl, below10 HW.out.2.2.1 HW.out.2.2.2⟩
  have i1 : ¬ (s.size : Int) < 20 := by omega
  have c0 : 0 < s.size := by omega
  have c0i : (0 : Int) < (s.size : Int) := by omega
  obtain ⟨v0, hv0⟩ : ∃ v, v = (s[0]'c0).toNat := ⟨_, rfl⟩
  have hv0l : v0 < 256 := by rw [hv0]; exact (s[0]'c0).toNat_lt
  have hbv : bv (L.take 1) = v0 := by
    have := bv_at s 0 c0
    rw [List.drop_zero] at this
    rw [HL.out, hv0]; exact this
  obtain ⟨q, hq⟩ : ∃ q, q = v0 / 16 := ⟨_, rfl⟩
  obtain ⟨n, hn⟩ : ∃ n, n = v0 % 16 * 4 := ⟨_, rfl⟩
  have u1 : (((s[0]'c0).toNat : Nat) : Int) / 16 = (q : Int) := by rw [← hv0]; omega
  have u2 : ((((s[0]'c0).toNat : Nat) : Int) % 16) * 4 = (n : Int) := by rw [← hv0]; omega
  have u3 : IntKind.i64.wrap ((((s[0]'c0).toNat : Nat) : Int) % 16) = (((s[0]'c0).toNat : Nat) : Int) % 16 := IntWalk.i64_in _ (by omega)
  have u4 : IntKind.i64.wrap (n : Int) = (n : Int) := IntWalk.i64_in _ (by omega)
  have u5 : IntKind.u8.wrap (q : Int) = (q : Int) := by rw [IntKind.wrap_u8]; omega
  have HN : Hid (n = bv (L.take 1) % 16 * 4) := Lib.hid (by rw [hbv]; exact hn)
  have HQ : Hid (q = bv (L.take 1) / 16) := Lib.hid (by rw [hbv]; exact hq)
  have hn9 : n < 64 := by omega
  clear hv0 hbv hq hn
  by_cases e2 : q = 4
  rotate_left
  · have hE : Hid (r = .error 3) := Lib.hid (by rw [HR.out]; unfold getE; rw [if_neg (by omega), ← HQ.out, if_pos e2])
    have i2 : ((q : Int) != 4) = true := by rw [bne_iff_ne]; omega
    clear hLs
    go_enter Try.func25, Try.ntmps25
    go_upto_region 2 with (fail)
    rw [← hW, ← hZ, ← hR0]
    clear hW hZ hR0
    go_wp2_with (fail)
    refine bodyPost_ret (rget_end (g := R) rfl rfl rfl (set10 HW.out.1)) rfl ⟨by rw [hE.out]; rfl, below10 HW.out.2.2.1 HW.out.2.2.2⟩
  have i2 : ((q : Int) != 4) = false := by rw [bne_eq_false_iff_eq]; omega
  by_cases e3 : n < 20
  · have hE : Hid (r = .error 4) := Lib.hid (by rw [HR.out]; unfold getE; rw [if_neg (by omega), ← HQ.out, if_neg (by omega), ← HN.out, if_pos (.inl e3)])
    have i3 : (n : Int) < 20 := by omega
    clear hLs
    go_enter Try.func25, Try.ntmps25
    go_upto_region 2 with (fail)
    rw [← hW, ← hZ, ← hR0]
    clear hW hZ hR0
    go_wp2_with (fail)
    refine bodyPost_ret (rget_end (g := R) rfl rfl rfl (set10 HW.out.1)) rfl ⟨by rw [hE.out]; rfl, below10 HW.out.2.2.1 HW.out.2.2.2⟩
  have i3 : ¬ (n : Int) < 20 := by omega
  by_cases e4 : s.size < n
  · have hE : Hid (r = .error 4) := Lib.hid (by rw [HR.out]; unfold getE; rw [if_neg (by omega), ← HQ.out, if_neg (by omega), ← HN.out, if_pos (.inr (.inl (by omega)))])
    have i4 : (n : Int) > (s.size : Int) := by omega
    clear hLs
    go_enter Try.func25, Try.ntmps25
    go_upto_region 2 with (fail)
    rw [← hW, ← hZ, ← hR0]
    clear hW hZ hR0
    go_wp2_with (fail)
    refine bodyPost_ret (rget_end (g := R) rfl rfl rfl (set10 HW.out.1)) rfl ⟨by rw [hE.out]; rfl, below10 HW.out.2.2.1 HW.out.2.2.2⟩
  have i4 : ¬ (n : Int) > (s.size : Int) := by omega
  obtain ⟨tt, htt⟩ : ∃ v, v = bv ((L.drop 2).take 2) := ⟨_, rfl⟩
  have AT2 : Hid (∀ V, Calls Try.prog 51 #[.string s, .int .i64 2, .int .i64 2] V fun e w' => e = .returned (.int .i64 (tt : Nat)) ∧ w' = V) := Lib.hid (fun V => by rw [htt, HL.out]; exact rat_any s 2 2 4 V rfl (by decide) (by omega) hs)
  by_cases e5 : tt = s.size
  rotate_left
  · have hE : Hid (r = .error 4) := Lib.hid (by rw [HR.out]; unfold getE; rw [if_neg (by omega), ← HQ.out, if_neg (by omega), ← HN.out, if_pos (.inr (.inr (by rw [← htt, hLs]; exact e5)))])
    have i5 : ((tt : Int) != (s.size : Int)) = true := by rw [bne_iff_ne]; omega
    clear hLs htt
    go_enter Try.func25, Try.ntmps25
    go_upto_region 2 with (fail)
    rw [← hW, ← hZ, ← hR0]
    clear hW hZ hR0
    go_wp2_with ((go_at_call 51; (with_reducible refine (AT2.out _).mono ?_); rintro e w5 ⟨rfl, hw5⟩; replace hw5 := hw5.symm; subst hw5))
    refine bodyPost_ret (rget_end (g := R) rfl rfl rfl (set10 HW.out.1)) rfl ⟨by rw [hE.out]; rfl, below10 HW.out.2.2.1 HW.out.2.2.2⟩
  have i5 : ((tt : Int) != (s.size : Int)) = false := by rw [bne_eq_false_iff_eq]; omega
  have HTT := Lib.hid htt
  clear htt
  have n0 : (0 : Int) ≤ (n : Int) := by omega
  have n1 : (n : Int).toNat = n := by omega
  have n2 : n ≤ s.size := by omega
  have n3 : (n : Int) ≤ (s.size : Int) := by omega
  obtain ⟨z, hz⟩ : ∃ z, z = sm (L.take n) := ⟨_, rfl⟩
  have CS : Hid (∀ V, Calls Try.prog 47 #[.string (s.extract 0 n)] V fun e w' => e = .returned (.int .i64 (z : Nat)) ∧ Below V.heap.size V w') := Lib.hid (fun V => by
    have h1 := rsum_any (s.extract 0 n) V (by rw [ByteArray.size_extract]; omega)
    rw [ext_list, ← HL.out, List.drop_zero, Nat.sub_zero, ← hz] at h1; exact h1)
  have SMA : Hid (∀ V V', V.heap[R]? = some (.cells #[.int .i64 0, .int .i64 0, .int .i64 0, .int .i64 0, .int .i64 0, .bool false, .bool false, .string ⟨#[]⟩, .string ⟨#[]⟩, .string ⟨#[]⟩] 43 (0, 0)) ∧ V.heap[Z]? = some (.cells #[.int .i64 0, .int .i64 0, .int .i64 0, .int .i64 0, .int .i64 0, .bool false, .bool false, .string ⟨#[]⟩, .string ⟨#[]⟩, .string ⟨#[]⟩] 43 (0, 0)) ∧ Below w.heap.size w V → Below V.heap.size V V' → V'.heap[R]? = some (.cells #[.int .i64 0, .int .i64 0, .int .i64 0, .int .i64 0, .int .i64 0, .bool false, .bool false, .string ⟨#[]⟩, .string ⟨#[]⟩, .string ⟨#[]⟩] 43 (0, 0)) ∧ V'.heap[Z]? = some (.cells #[.int .i64 0, .int .i64 0, .int .i64 0, .int .i64 0, .int .i64 0, .bool false, .bool false, .string ⟨#[]⟩, .string ⟨#[]⟩, .string ⟨#[]⟩] 43 (0, 0)) ∧ Below w.heap.size w V') := Lib.hid (fun V V' h hb => ⟨(hb.block _ (heap_lt h.1)).trans h.1, (hb.block _ (heap_lt h.2.1)).trans h.2.1, h.2.2.trans (hb.mono h.2.2.size)⟩)
  have hwR := HW.out.2.2.2
  by_cases e6 : z = 0
  rotate_left
  · have hE : Hid (r = .error 5) := Lib.hid (by rw [HR.out]; unfold getE; rw [if_neg (by omega), ← HQ.out, if_neg (by omega), ← HN.out, if_neg (by rw [← HTT.out, hLs]; omega), ← hz, if_pos e6])
    have i6 : ((z : Int) != 0) = true := by rw [bne_iff_ne]; omega
    clear hLs hz
    go_enter Try.func25, Try.ntmps25
    go_upto_region 2 with (fail)
    rw [← hW, ← hZ, ← hR0]
    clear hW hZ hR0
    go_wp2_with (first | (go_at_call 51; (with_reducible refine (AT2.out _).mono ?_); rintro e w5 ⟨rfl, hw5⟩; replace hw5 := hw5.symm; subst hw5) | (go_at_call 47; (with_reducible refine (CS.out _).mono ?_); rintro e V1 ⟨rfl, hV⟩; have G1 := Lib.hid (SMA.out _ _ ⟨HW.out.1, HW.out.2.1, HW.out.2.2.1⟩ hV); clear hV k0 k1 k2 k3 k4 k5 k6 k7 k8 k9 z0 z1 z2 z3 z4 z5 z6 z7 z8 z9 f0 f1 f2 f3 f4 f5 f6 f7 f8 f9; have k0 := cellAt (i := 0) (v := .int .i64 0) G1.out.1 rfl; have f0 := Lib.frozen_of_heap G1.out.1 0; have z0 := cellAt (i := 0) (v := .int .i64 0) G1.out.2.1 rfl; have k1 := cellAt (i := 1) (v := .int .i64 0) G1.out.1 rfl; have f1 := Lib.frozen_of_heap G1.out.1 1; have z1 := cellAt (i := 1) (v := .int .i64 0) G1.out.2.1 rfl; have k2 := cellAt (i := 2) (v := .int .i64 0) G1.out.1 rfl; have f2 := Lib.frozen_of_heap G1.out.1 2; have z2 := cellAt (i := 2) (v := .int .i64 0) G1.out.2.1 rfl; have k3 := cellAt (i := 3) (v := .int .i64 0) G1.out.1 rfl; have f3 := Lib.frozen_of_heap G1.out.1 3; have z3 := cellAt (i := 3) (v := .int .i64 0) G1.out.2.1 rfl; have k4 := cellAt (i := 4) (v := .int .i64 0) G1.out.1 rfl; have f4 := Lib.frozen_of_heap G1.out.1 4; have z4 := cellAt (i := 4) (v := .int .i64 0) G1.out.2.1 rfl; have k5 := cellAt (i := 5) (v := .bool false) G1.out.1 rfl; have f5 := Lib.frozen_of_heap G1.out.1 5; have z5 := cellAt (i := 5) (v := .bool false) G1.out.2.1 rfl; have k6 := cellAt (i := 6) (v := .bool false) G1.out.1 rfl; have f6 := Lib.frozen_of_heap G1.out.1 6; have z6 := cellAt (i := 6) (v := .bool false) G1.out.2.1 rfl; have k7 := cellAt (i := 7) (v := .string ⟨#[]⟩) G1.out.1 rfl; have f7 := Lib.frozen_of_heap G1.out.1 7; have z7 := cellAt (i := 7) (v := .string ⟨#[]⟩) G1.out.2.1 rfl; have k8 := cellAt (i := 8) (v := .string ⟨#[]⟩) G1.out.1 rfl; have f8 := Lib.frozen_of_heap G1.out.1 8; have z8 := cellAt (i := 8) (v := .string ⟨#[]⟩) G1.out.2.1 rfl; have k9 := cellAt (i := 9) (v := .string ⟨#[]⟩) G1.out.1 rfl; have f9 := Lib.frozen_of_heap G1.out.1 9; have z9 := cellAt (i := 9) (v := .string ⟨#[]⟩) G1.out.2.1 rfl))
    refine bodyPost_ret (rget_end (g := R) rfl rfl rfl (set10 G1.out.1)) rfl ⟨by rw [hE.out]; rfl, below10 G1.out.2.2 hwR⟩
  have i6 : ((z : Int) != 0) = false := by rw [bne_eq_false_iff_eq]; omega
  obtain ⟨fl, hfl⟩ : ∃ v, v = bv ((L.drop 6).take 2) := ⟨_, rfl⟩
  have hfl9 : fl < 65536 := by rw [hfl]; exact bv_tk2 _
  have AT6 : Hid (∀ V, Calls Try.prog 51 #[.string s, .int .i64 6, .int .i64 2] V fun e w' => e = .returned (.int .i64 (fl : Nat)) ∧ w' = V) := Lib.hid (fun V => by rw [hfl, HL.out]; exact rat_any s 6 2 8 V rfl (by decide) (by omega) hs)
  by_cases e7 : 32768 ≤ fl
  · have hE : Hid (r = .error 9) := Lib.hid (by rw [HR.out]; unfold getE; rw [if_neg (by omega), ← HQ.out, if_neg (by omega), ← HN.out, if_neg (by rw [← HTT.out, hLs]; omega), ← hz, if_neg (by omega), ← hfl, if_pos e7])
    have i7 : (fl : Int) ≥ 32768 := by omega
    clear hLs hz hfl
    go_enter Try.func25, Try.ntmps25
    go_upto_region 2 with (fail)
    rw [← hW, ← hZ, ← hR0]
    clear hW hZ hR0
    go_wp2_with (first | (go_at_call 51; (with_reducible refine (AT2.out _).mono ?_); rintro e w5 ⟨rfl, hw5⟩; replace hw5 := hw5.symm; subst hw5) | (go_at_call 47; (with_reducible refine (CS.out _).mono ?_); rintro e V1 ⟨rfl, hV⟩; have G1 := Lib.hid (SMA.out _ _ ⟨HW.out.1, HW.out.2.1, HW.out.2.2.1⟩ hV); clear hV k0 k1 k2 k3 k4 k5 k6 k7 k8 k9 z0 z1 z2 z3 z4 z5 z6 z7 z8 z9 f0 f1 f2 f3 f4 f5 f6 f7 f8 f9; have k0 := cellAt (i := 0) (v := .int .i64 0) G1.out.1 rfl; have f0 := Lib.frozen_of_heap G1.out.1 0; have z0 := cellAt (i := 0) (v := .int .i64 0) G1.out.2.1 rfl; have k1 := cellAt (i := 1) (v := .int .i64 0) G1.out.1 rfl; have f1 := Lib.frozen_of_heap G1.out.1 1; have z1 := cellAt (i := 1) (v := .int .i64 0) G1.out.2.1 rfl; have k2 := cellAt (i := 2) (v := .int .i64 0) G1.out.1 rfl; have f2 := Lib.frozen_of_heap G1.out.1 2; have z2 := cellAt (i := 2) (v := .int .i64 0) G1.out.2.1 rfl; have k3 := cellAt (i := 3) (v := .int .i64 0) G1.out.1 rfl; have f3 := Lib.frozen_of_heap G1.out.1 3; have z3 := cellAt (i := 3) (v := .int .i64 0) G1.out.2.1 rfl; have k4 := cellAt (i := 4) (v := .int .i64 0) G1.out.1 rfl; have f4 := Lib.frozen_of_heap G1.out.1 4; have z4 := cellAt (i := 4) (v := .int .i64 0) G1.out.2.1 rfl; have k5 := cellAt (i := 5) (v := .bool false) G1.out.1 rfl; have f5 := Lib.frozen_of_heap G1.out.1 5; have z5 := cellAt (i := 5) (v := .bool false) G1.out.2.1 rfl; have k6 := cellAt (i := 6) (v := .bool false) G1.out.1 rfl; have f6 := Lib.frozen_of_heap G1.out.1 6; have z6 := cellAt (i := 6) (v := .bool false) G1.out.2.1 rfl; have k7 := cellAt (i := 7) (v := .string ⟨#[]⟩) G1.out.1 rfl; have f7 := Lib.frozen_of_heap G1.out.1 7; have z7 := cellAt (i := 7) (v := .string ⟨#[]⟩) G1.out.2.1 rfl; have k8 := cellAt (i := 8) (v := .string ⟨#[]⟩) G1.out.1 rfl; have f8 := Lib.frozen_of_heap G1.out.1 8; have z8 := cellAt (i := 8) (v := .string ⟨#[]⟩) G1.out.2.1 rfl; have k9 := cellAt (i := 9) (v := .string ⟨#[]⟩) G1.out.1 rfl; have f9 := Lib.frozen_of_heap G1.out.1 9; have z9 := cellAt (i := 9) (v := .string ⟨#[]⟩) G1.out.2.1 rfl) | (go_at_call 51; (with_reducible refine (AT6.out _).mono ?_); rintro e w5 ⟨rfl, hw5⟩; replace hw5 := hw5.symm; subst hw5))
    refine bodyPost_ret (rget_end (g := R) rfl rfl rfl (set10 G1.out.1)) rfl ⟨by rw [hE.out]; rfl, below10 G1.out.2.2 hwR⟩
  have i7 : ¬ (fl : Int) ≥ 32768 := by omega
  have i7b : decide ((fl : Int) ≥ 32768) = false := decide_eq_false i7
  obtain ⟨idn, hid⟩ : ∃ v, v = bv ((L.drop 4).take 2) := ⟨_, rfl⟩
  have AT4 : Hid (∀ V, Calls Try.prog 51 #[.string s, .int .i64 4, .int .i64 2] V fun e w' => e = .returned (.int .i64 (idn : Nat)) ∧ w' = V) := Lib.hid (fun V => by rw [hid, HL.out]; exact rat_any s 4 2 6 V rfl (by decide) (by omega) hs)
  have c1 : 1 < s.size := by omega
  have c1i : (1 : Int) < (s.size : Int) := by omega
  have c8 : 8 < s.size := by omega
  have c8i : (8 : Int) < (s.size : Int) := by omega
  have c9 : 9 < s.size := by omega
  have c9i : (9 : Int) < (s.size : Int) := by omega
  have c16 : 16 ≤ s.size := by omega
  have c16i : (16 : Int) ≤ (s.size : Int) := by omega
  have c20 : 20 ≤ s.size := by omega
  have c20i : (20 : Int) ≤ (s.size : Int) := by omega
  have m20 : 20 ≤ n := by omega
  have m20i : (20 : Int) ≤ (n : Int) := by omega
  obtain ⟨tos, htos⟩ : ∃ v, v = (s[1]'c1).toNat := ⟨_, rfl⟩
  obtain ⟨ttl, httl⟩ : ∃ v, v = (s[8]'c8).toNat := ⟨_, rfl⟩
  obtain ⟨proto, hproto⟩ : ∃ v, v = (s[9]'c9).toNat := ⟨_, rfl⟩
  have HTOS : Hid (tos = bv ((L.drop 1).take 1)) := Lib.hid (by rw [HL.out, bv_at s 1 c1]; exact htos)
  have HTTL : Hid (ttl = bv ((L.drop 8).take 1)) := Lib.hid (by rw [HL.out, bv_at s 8 c8]; exact httl)
  have HPROTO : Hid (proto = bv ((L.drop 9).take 1)) := Lib.hid (by rw [HL.out, bv_at s 9 c9]; exact hproto)
  have b1 : (((s[1]'c1).toNat : Nat) : Int) = (tos : Int) := by omega
  have b8 : (((s[8]'c8).toNat : Nat) : Int) = (ttl : Int) := by omega
  have b9 : (((s[9]'c9).toNat : Nat) : Int) = (proto : Int) := by omega
  have b1w : IntKind.i64.wrap (tos : Int) = (tos : Int) := IntWalk.i64_in _ (by have := (s[1]'c1).toNat_lt; omega)
  have b8w : IntKind.i64.wrap (ttl : Int) = (ttl : Int) := IntWalk.i64_in _ (by have := (s[8]'c8).toNat_lt; omega)
  have b9w : IntKind.i64.wrap (proto : Int) = (proto : Int) := IntWalk.i64_in _ (by have := (s[9]'c9).toNat_lt; omega)
  obtain ⟨q14, hq14⟩ : ∃ q, q = fl / 16384 := ⟨_, rfl⟩
  obtain ⟨q13, hq13⟩ : ∃ q, q = fl / 8192 := ⟨_, rfl⟩
  obtain ⟨r13, hr13⟩ : ∃ q, q = q13 % 2 := ⟨_, rfl⟩
  obtain ⟨off, hoff⟩ : ∃ q, q = fl % 8192 := ⟨_, rfl⟩
  have d14 : (fl : Int) / 16384 = (q14 : Int) := by omega
  have d13 : (fl : Int) / 8192 = (q13 : Int) := by omega
  have dr : (q13 : Int).tmod 2 = (r13 : Int) := by rw [Int.tmod_eq_emod_of_nonneg (by omega)]; omega
  have doff : (fl : Int).tmod 8192 = (off : Int) := by rw [Int.tmod_eq_emod_of_nonneg (by omega)]; omega
  have w14 : IntKind.i64.wrap (q14 : Int) = (q14 : Int) := IntWalk.i64_in _ (by omega)
  have w13 : IntKind.i64.wrap (q13 : Int) = (q13 : Int) := IntWalk.i64_in _ (by omega)
  obtain ⟨df, hdf⟩ : ∃ b, b = decide (q14 = 1) := ⟨_, rfl⟩
  obtain ⟨mf, hmf⟩ : ∃ b, b = decide (r13 = 1) := ⟨_, rfl⟩
  have l14 : ((q14 : Int) == 1) = df := by rw [hdf, Bool.eq_iff_iff, beq_iff_eq, decide_eq_true_eq]; omega
  have l13 : ((r13 : Int) == 1) = mf := by rw [hmf, Bool.eq_iff_iff, beq_iff_eq, decide_eq_true_eq]; omega
  have HDF : Hid (df = decide (fl / 16384 % 2 = 1)) := Lib.hid (by rw [hdf, hq14, Bool.eq_iff_iff, decide_eq_true_eq, decide_eq_true_eq]; omega)
  have HMF : Hid (mf = decide (fl / 8192 % 2 = 1)) := Lib.hid (by rw [hmf, hr13, hq13])
  have HOFF : Hid ((off : Int) = ((fl % 8192 : Nat) : Int)) := Lib.hid (by rw [hoff])
  obtain ⟨sr, hsr⟩ : ∃ x, x = s.extract 12 16 := ⟨_, rfl⟩
  obtain ⟨ds, hds⟩ : ∃ x, x = s.extract 16 20 := ⟨_, rfl⟩
  obtain ⟨op, hop⟩ : ∃ x, x = s.extract 20 n := ⟨_, rfl⟩
  obtain ⟨rs, hrs⟩ : ∃ x, x = s.extract n s.size := ⟨_, rfl⟩
  have h12 := hsr.symm
  have h16 := hds.symm
  have h20 := hop.symm
  have h21 := hrs.symm
  have HSR : Hid (sr = bs ((L.drop 12).take 4)) := Lib.hid (by rw [hsr, HL.out]; exact extract_bs s 12 16)
  have HDS : Hid (ds = bs ((L.drop 16).take 4)) := Lib.hid (by rw [hds, HL.out]; exact extract_bs s 16 20)
  have HOP : Hid (op = bs ((L.drop 20).take (n - 20))) := Lib.hid (by rw [hop, HL.out]; exact extract_bs s 20 n)
  have HRS : Hid (rs = bs (L.drop n)) := Lib.hid (by rw [hrs, HL.out, extract_bs, List.take_of_length_le (by simp)])
  have hE : Hid (r = .ok (hdG L n fl, L.drop n)) := Lib.hid (by rw [HR.out]; unfold getE; rw [if_neg (by omega), ← HQ.out, if_neg (by omega), ← HN.out, if_neg (by rw [← HTT.out, hLs]; omega), ← hz, if_neg (by omega), ← hfl, if_neg e7])
  have HFIN : Hid (getR r = .tuple #[.agg #[.int .i64 (tos : Nat), .int .i64 (idn : Nat), .int .i64 (off : Nat), .int .i64 (ttl : Nat), .int .i64 (proto : Nat), .bool df, .bool mf, .string sr, .string ds, .string op], .string rs, .int .i64 0]) := Lib.hid (by
    rw [hE.out, HSR.out, HDS.out, HOP.out, HRS.out, HDF.out, HMF.out, HOFF.out, HTOS.out, HTTL.out, HPROTO.out, hid]
    rfl)
  have HID := Lib.hid hid
  have HFL := Lib.hid hfl
  clear hid hfl hz hLs htos httl hproto hq14 hq13 hr13 hoff hdf hmf hsr hds hop hrs
  go_enter Try.func25, Try.ntmps25
  go_upto_region 2 with (fail)
  rw [← hW, ← hZ, ← hR0]
  clear hW hZ hR0
  go_upto_region 14 with (first | (go_at_call 51; (with_reducible refine (AT2.out _).mono ?_); rintro e w5 ⟨rfl, hw5⟩; replace hw5 := hw5.symm; subst hw5) | (go_at_call 47; (with_reducible refine (CS.out _).mono ?_); rintro e V1 ⟨rfl, hV⟩; have G1 := Lib.hid (SMA.out _ _ ⟨HW.out.1, HW.out.2.1, HW.out.2.2.1⟩ hV); clear hV k0 k1 k2 k3 k4 k5 k6 k7 k8 k9 z0 z1 z2 z3 z4 z5 z6 z7 z8 z9 f0 f1 f2 f3 f4 f5 f6 f7 f8 f9; have k0 := cellAt (i := 0) (v := .int .i64 0) G1.out.1 rfl; have f0 := Lib.frozen_of_heap G1.out.1 0; have z0 := cellAt (i := 0) (v := .int .i64 0) G1.out.2.1 rfl; have k1 := cellAt (i := 1) (v := .int .i64 0) G1.out.1 rfl; have f1 := Lib.frozen_of_heap G1.out.1 1; have z1 := cellAt (i := 1) (v := .int .i64 0) G1.out.2.1 rfl; have k2 := cellAt (i := 2) (v := .int .i64 0) G1.out.1 rfl; have f2 := Lib.frozen_of_heap G1.out.1 2; have z2 := cellAt (i := 2) (v := .int .i64 0) G1.out.2.1 rfl; have k3 := cellAt (i := 3) (v := .int .i64 0) G1.out.1 rfl; have f3 := Lib.frozen_of_heap G1.out.1 3; have z3 := cellAt (i := 3) (v := .int .i64 0) G1.out.2.1 rfl; have k4 := cellAt (i := 4) (v := .int .i64 0) G1.out.1 rfl; have f4 := Lib.frozen_of_heap G1.out.1 4; have z4 := cellAt (i := 4) (v := .int .i64 0) G1.out.2.1 rfl; have k5 := cellAt (i := 5) (v := .bool false) G1.out.1 rfl; have f5 := Lib.frozen_of_heap G1.out.1 5; have z5 := cellAt (i := 5) (v := .bool false) G1.out.2.1 rfl; have k6 := cellAt (i := 6) (v := .bool false) G1.out.1 rfl; have f6 := Lib.frozen_of_heap G1.out.1 6; have z6 := cellAt (i := 6) (v := .bool false) G1.out.2.1 rfl; have k7 := cellAt (i := 7) (v := .string ⟨#[]⟩) G1.out.1 rfl; have f7 := Lib.frozen_of_heap G1.out.1 7; have z7 := cellAt (i := 7) (v := .string ⟨#[]⟩) G1.out.2.1 rfl; have k8 := cellAt (i := 8) (v := .string ⟨#[]⟩) G1.out.1 rfl; have f8 := Lib.frozen_of_heap G1.out.1 8; have z8 := cellAt (i := 8) (v := .string ⟨#[]⟩) G1.out.2.1 rfl; have k9 := cellAt (i := 9) (v := .string ⟨#[]⟩) G1.out.1 rfl; have f9 := Lib.frozen_of_heap G1.out.1 9; have z9 := cellAt (i := 9) (v := .string ⟨#[]⟩) G1.out.2.1 rfl) | (go_at_call 51; (with_reducible refine (AT6.out _).mono ?_); rintro e w5 ⟨rfl, hw5⟩; replace hw5 := hw5.symm; subst hw5))
  refine wp_region_held_drew (S := fun _ => True) (by kernel_rfl) trivial (fun hHeld => ?_)
  refine wpAnyH_take (i := 0) (oi := { dst := some 50, op := Op.move (Operand.tmp 0), type := 9, pos := "ref.go:75", after := #[], guard := none }) (v := ?_) rfl (by kernel_rfl) (by kernel_rfl) (by kernel_rfl) (fun _ _ _ h => h) (Or.inl ⟨by rfl, ?_⟩) (by assumption) ?_
  rotate_left 1
  · intro w hSw
    go_simp
    first | done | with_reducible rfl
  try simp only [Act.put, List.setIfInBounds_toArray, List.set_cons_zero, List.set_cons_succ]
  refine wpAnyH_take (i := 1) (oi := { dst := some 51, op := Op.index 9 (Operand.tmp 50) (Operand.const (Value.int IntKind.i64 1)), type := 5, pos := "ref.go:75", after := #[{ on := 0, ground := Ground.data }], guard := none }) (v := ?_) rfl (by kernel_rfl) (by kernel_rfl) (by kernel_rfl) (fun _ _ _ h => h) (Or.inl ⟨by rfl, ?_⟩) (by assumption) ?_
  rotate_left 1
  · intro w hSw
    go_simp
    first | done | with_reducible rfl
  try simp only [Act.put, List.setIfInBounds_toArray, List.set_cons_zero, List.set_cons_succ]
  refine wpAnyH_take (i := 2) (oi := { dst := some 52, op := Op.convert 5 3 (Operand.tmp 51), type := 3, pos := "ref.go:75", after := #[{ on := 1, ground := Ground.data }], guard := none }) (v := ?_) rfl (by kernel_rfl) (by kernel_rfl) (by kernel_rfl) (fun _ _ _ h => h) (Or.inl ⟨by rfl, ?_⟩) (by assumption) ?_
  rotate_left 1
  · intro w hSw
    go_simp
    first | done | with_reducible rfl
  try simp only [Act.put, List.setIfInBounds_toArray, List.set_cons_zero, List.set_cons_succ]
  refine wpAnyH_take (i := 3) (oi := { dst := some 53, op := Op.move (Operand.tmp 0), type := 9, pos := "ref.go:75", after := #[], guard := none }) (v := ?_) rfl (by kernel_rfl) (by kernel_rfl) (by kernel_rfl) (fun _ _ _ h => h) (Or.inl ⟨by rfl, ?_⟩) (by assumption) ?_
  rotate_left 1
  · intro w hSw
    go_simp
    first | done | with_reducible rfl
  try simp only [Act.put, List.setIfInBounds_toArray, List.set_cons_zero, List.set_cons_succ]
  refine wpAnyH_take (i := 5) (oi := { dst := some 55, op := Op.move (Operand.tmp 7), type := 3, pos := "ref.go:75", after := #[], guard := none }) (v := ?_) rfl (by kernel_rfl) (by kernel_rfl) (by kernel_rfl) (fun _ _ _ h => h) (Or.inl ⟨by rfl, ?_⟩) (by assumption) ?_
  rotate_left 1
  · intro w hSw
    go_simp
    first | done | with_reducible rfl
  try simp only [Act.put, List.setIfInBounds_toArray, List.set_cons_zero, List.set_cons_succ]
  refine wpAnyH_take (i := 6) (oi := { dst := some 56, op := Op.binOp BinOp.quo 3 (Operand.tmp 55) (Operand.const (Value.int IntKind.i64 16384)) 3, type := 3, pos := "ref.go:75", after := #[{ on := 5, ground := Ground.data }], guard := none }) (v := ?_) rfl (by kernel_rfl) (by kernel_rfl) (by kernel_rfl) (fun _ _ _ h => h) (Or.inl ⟨by rfl, ?_⟩) (by assumption) ?_
  rotate_left 1
  · intro w hSw
    go_simp
    first | done | with_reducible rfl
  try simp only [Act.put, List.setIfInBounds_toArray, List.set_cons_zero, List.set_cons_succ]
  refine wpAnyH_take (i := 7) (oi := { dst := some 57, op := Op.binOp BinOp.eql 3 (Operand.tmp 56) (Operand.const (Value.int IntKind.i64 1)) 3, type := 4, pos := "ref.go:75", after := #[{ on := 6, ground := Ground.data }], guard := none }) (v := ?_) rfl (by kernel_rfl) (by kernel_rfl) (by kernel_rfl) (fun _ _ _ h => h) (Or.inl ⟨by rfl, ?_⟩) (by assumption) ?_
  rotate_left 1
  · intro w hSw
    go_simp
    first | done | with_reducible rfl
  try simp only [Act.put, List.setIfInBounds_toArray, List.set_cons_zero, List.set_cons_succ]
  refine wpAnyH_take (i := 8) (oi := { dst := some 58, op := Op.move (Operand.tmp 7), type := 3, pos := "ref.go:75", after := #[], guard := none }) (v := ?_) rfl (by kernel_rfl) (by kernel_rfl) (by kernel_rfl) (fun _ _ _ h => h) (Or.inl ⟨by rfl, ?_⟩) (by assumption) ?_
  rotate_left 1
  · intro w hSw
    go_simp
    first | done | with_reducible rfl
  try simp only [Act.put, List.setIfInBounds_toArray, List.set_cons_zero, List.set_cons_succ]
  refine wpAnyH_take (i := 9) (oi := { dst := some 59, op := Op.binOp BinOp.quo 3 (Operand.tmp 58) (Operand.const (Value.int IntKind.i64 8192)) 3, type := 3, pos := "ref.go:75", after := #[{ on := 8, ground := Ground.data }], guard := none }) (v := ?_) rfl (by kernel_rfl) (by kernel_rfl) (by kernel_rfl) (fun _ _ _ h => h) (Or.inl ⟨by rfl, ?_⟩) (by assumption) ?_
  rotate_left 1
  · intro w hSw
    go_simp
    first | done | with_reducible rfl
  try simp only [Act.put, List.setIfInBounds_toArray, List.set_cons_zero, List.set_cons_succ]
  refine wpAnyH_take (i := 10) (oi := { dst := some 60, op := Op.binOp BinOp.rem 3 (Operand.tmp 59) (Operand.const (Value.int IntKind.i64 2)) 3, type := 3, pos := "ref.go:75", after := #[{ on := 9, ground := Ground.data }], guard := none }) (v := ?_) rfl (by kernel_rfl) (by kernel_rfl) (by kernel_rfl) (fun _ _ _ h => h) (Or.inl ⟨by rfl, ?_⟩) (by assumption) ?_
  rotate_left 1
  · intro w hSw
    go_simp
    first | done | with_reducible rfl
  try simp only [Act.put, List.setIfInBounds_toArray, List.set_cons_zero, List.set_cons_succ]
  refine wpAnyH_take (i := 11) (oi := { dst := some 61, op := Op.binOp BinOp.eql 3 (Operand.tmp 60) (Operand.const (Value.int IntKind.i64 1)) 3, type := 4, pos := "ref.go:75", after := #[{ on := 10, ground := Ground.data }], guard := none }) (v := ?_) rfl (by kernel_rfl) (by kernel_rfl) (by kernel_rfl) (fun _ _ _ h => h) (Or.inl ⟨by rfl, ?_⟩) (by assumption) ?_
  rotate_left 1
  · intro w hSw
    go_simp
    first | done | with_reducible rfl
  try simp only [Act.put, List.setIfInBounds_toArray, List.set_cons_zero, List.set_cons_succ]
  refine wpAnyH_take (i := 12) (oi := { dst := some 62, op := Op.move (Operand.tmp 7), type := 3, pos := "ref.go:75", after := #[], guard := none }) (v := ?_) rfl (by kernel_rfl) (by kernel_rfl) (by kernel_rfl) (fun _ _ _ h => h) (Or.inl ⟨by rfl, ?_⟩) (by assumption) ?_
  rotate_left 1
  · intro w hSw
    go_simp
    first | done | with_reducible rfl
  try simp only [Act.put, List.setIfInBounds_toArray, List.set_cons_zero, List.set_cons_succ]
  refine wpAnyH_take (i := 13) (oi := { dst := some 63, op := Op.binOp BinOp.rem 3 (Operand.tmp 62) (Operand.const (Value.int IntKind.i64 8192)) 3, type := 3, pos := "ref.go:75", after := #[{ on := 12, ground := Ground.data }], guard := none }) (v := ?_) rfl (by kernel_rfl) (by kernel_rfl) (by kernel_rfl) (fun _ _ _ h => h) (Or.inl ⟨by rfl, ?_⟩) (by assumption) ?_
  rotate_left 1
  · intro w hSw
    go_simp
    first | done | with_reducible rfl
  try simp only [Act.put, List.setIfInBounds_toArray, List.set_cons_zero, List.set_cons_succ]
  refine wpAnyH_take (i := 14) (oi := { dst := some 64, op := Op.move (Operand.tmp 0), type := 9, pos := "ref.go:75", after := #[], guard := none }) (v := ?_) rfl (by kernel_rfl) (by kernel_rfl) (by kernel_rfl) (fun _ _ _ h => h) (Or.inl ⟨by rfl, ?_⟩) (by assumption) ?_
  rotate_left 1
  · intro w hSw
    go_simp
    first | done | with_reducible rfl
  try simp only [Act.put, List.setIfInBounds_toArray, List.set_cons_zero, List.set_cons_succ]
  refine wpAnyH_take (i := 15) (oi := { dst := some 65, op := Op.index 9 (Operand.tmp 64) (Operand.const (Value.int IntKind.i64 8)), type := 5, pos := "ref.go:75", after := #[{ on := 14, ground := Ground.data }], guard := none }) (v := ?_) rfl (by kernel_rfl) (by kernel_rfl) (by kernel_rfl) (fun _ _ _ h => h) (Or.inl ⟨by rfl, ?_⟩) (by assumption) ?_
  rotate_left 1
  · intro w hSw
    go_simp
    first | done | with_reducible rfl
  try simp only [Act.put, List.setIfInBounds_toArray, List.set_cons_zero, List.set_cons_succ]
  refine wpAnyH_take (i := 16) (oi := { dst := some 66, op := Op.convert 5 3 (Operand.tmp 65), type := 3, pos := "ref.go:75", after := #[{ on := 15, ground := Ground.data }], guard := none }) (v := ?_) rfl (by kernel_rfl) (by kernel_rfl) (by kernel_rfl) (fun _ _ _ h => h) (Or.inl ⟨by rfl, ?_⟩) (by assumption) ?_
  rotate_left 1
  · intro w hSw
    go_simp
    first | done | with_reducible rfl
  try simp only [Act.put, List.setIfInBounds_toArray, List.set_cons_zero, List.set_cons_succ]
  refine wpAnyH_take (i := 17) (oi := { dst := some 67, op := Op.move (Operand.tmp 0), type := 9, pos := "ref.go:75", after := #[], guard := none }) (v := ?_) rfl (by kernel_rfl) (by kernel_rfl) (by kernel_rfl) (fun _ _ _ h => h) (Or.inl ⟨by rfl, ?_⟩) (by assumption) ?_
  rotate_left 1
  · intro w hSw
    go_simp
    first | done | with_reducible rfl
  try simp only [Act.put, List.setIfInBounds_toArray, List.set_cons_zero, List.set_cons_succ]
  refine wpAnyH_take (i := 18) (oi := { dst := some 68, op := Op.index 9 (Operand.tmp 67) (Operand.const (Value.int IntKind.i64 9)), type := 5, pos := "ref.go:75", after := #[{ on := 17, ground := Ground.data }], guard := none }) (v := ?_) rfl (by kernel_rfl) (by kernel_rfl) (by kernel_rfl) (fun _ _ _ h => h) (Or.inl ⟨by rfl, ?_⟩) (by assumption) ?_
  rotate_left 1
  · intro w hSw
    go_simp
    first | done | with_reducible rfl
  try simp only [Act.put, List.setIfInBounds_toArray, List.set_cons_zero, List.set_cons_succ]
  refine wpAnyH_take (i := 19) (oi := { dst := some 69, op := Op.convert 5 3 (Operand.tmp 68), type := 3, pos := "ref.go:75", after := #[{ on := 18, ground := Ground.data }], guard := none }) (v := ?_) rfl (by kernel_rfl) (by kernel_rfl) (by kernel_rfl) (fun _ _ _ h => h) (Or.inl ⟨by rfl, ?_⟩) (by assumption) ?_
  rotate_left 1
  · intro w hSw
    go_simp
    first | done | with_reducible rfl
  try simp only [Act.put, List.setIfInBounds_toArray, List.set_cons_zero, List.set_cons_succ]
  refine wpAnyH_take (i := 20) (oi := { dst := some 70, op := Op.move (Operand.tmp 0), type := 9, pos := "ref.go:75", after := #[], guard := none }) (v := ?_) rfl (by kernel_rfl) (by kernel_rfl) (by kernel_rfl) (fun _ _ _ h => h) (Or.inl ⟨by rfl, ?_⟩) (by assumption) ?_
  rotate_left 1
  · intro w hSw
    go_simp
    first | done | with_reducible rfl
  try simp only [Act.put, List.setIfInBounds_toArray, List.set_cons_zero, List.set_cons_succ]
  refine wpAnyH_take (i := 21) (oi := { dst := some 71, op := Op.slice 9 (Operand.tmp 70) (some (Operand.const (Value.int IntKind.i64 12))) (some (Operand.const (Value.int IntKind.i64 16))) none, type := 9, pos := "ref.go:75", after := #[{ on := 20, ground := Ground.data }], guard := none }) (v := ?_) rfl (by kernel_rfl) (by kernel_rfl) (by kernel_rfl) (fun _ _ _ h => h) (Or.inl ⟨by rfl, ?_⟩) (by assumption) ?_
  rotate_left 1
  · intro w hSw
    go_simp
    first | done | with_reducible rfl
  try simp only [Act.put, List.setIfInBounds_toArray, List.set_cons_zero, List.set_cons_succ]
  refine wpAnyH_take (i := 22) (oi := { dst := some 72, op := Op.move (Operand.tmp 0), type := 9, pos := "ref.go:75", after := #[], guard := none }) (v := ?_) rfl (by kernel_rfl) (by kernel_rfl) (by kernel_rfl) (fun _ _ _ h => h) (Or.inl ⟨by rfl, ?_⟩) (by assumption) ?_
  rotate_left 1
  · intro w hSw
    go_simp
    first | done | with_reducible rfl
  try simp only [Act.put, List.setIfInBounds_toArray, List.set_cons_zero, List.set_cons_succ]
  refine wpAnyH_take (i := 23) (oi := { dst := some 73, op := Op.slice 9 (Operand.tmp 72) (some (Operand.const (Value.int IntKind.i64 16))) (some (Operand.const (Value.int IntKind.i64 20))) none, type := 9, pos := "ref.go:75", after := #[{ on := 22, ground := Ground.data }], guard := none }) (v := ?_) rfl (by kernel_rfl) (by kernel_rfl) (by kernel_rfl) (fun _ _ _ h => h) (Or.inl ⟨by rfl, ?_⟩) (by assumption) ?_
  rotate_left 1
  · intro w hSw
    go_simp
    first | done | with_reducible rfl
  try simp only [Act.put, List.setIfInBounds_toArray, List.set_cons_zero, List.set_cons_succ]
  refine wpAnyH_take (i := 24) (oi := { dst := some 74, op := Op.move (Operand.tmp 0), type := 9, pos := "ref.go:75", after := #[], guard := none }) (v := ?_) rfl (by kernel_rfl) (by kernel_rfl) (by kernel_rfl) (fun _ _ _ h => h) (Or.inl ⟨by rfl, ?_⟩) (by assumption) ?_
  rotate_left 1
  · intro w hSw
    go_simp
    first | done | with_reducible rfl
  try simp only [Act.put, List.setIfInBounds_toArray, List.set_cons_zero, List.set_cons_succ]
  refine wpAnyH_take (i := 25) (oi := { dst := some 75, op := Op.move (Operand.tmp 6), type := 3, pos := "ref.go:75", after := #[], guard := none }) (v := ?_) rfl (by kernel_rfl) (by kernel_rfl) (by kernel_rfl) (fun _ _ _ h => h) (Or.inl ⟨by rfl, ?_⟩) (by assumption) ?_
  rotate_left 1
  · intro w hSw
    go_simp
    first | done | with_reducible rfl
  try simp only [Act.put, List.setIfInBounds_toArray, List.set_cons_zero, List.set_cons_succ]
  refine wpAnyH_take (i := 26) (oi := { dst := some 76, op := Op.slice 9 (Operand.tmp 74) (some (Operand.const (Value.int IntKind.i64 20))) (some (Operand.tmp 75)) none, type := 9, pos := "ref.go:75", after := #[{ on := 24, ground := Ground.data }, { on := 25, ground := Ground.data }], guard := none }) (v := ?_) rfl (by kernel_rfl) (by kernel_rfl) (by kernel_rfl) (fun _ _ _ h => h) (Or.inl ⟨by rfl, ?_⟩) (by assumption) ?_
  rotate_left 1
  · intro w hSw
    go_simp
    first | done | with_reducible rfl
  try simp only [Act.put, List.setIfInBounds_toArray, List.set_cons_zero, List.set_cons_succ]
  refine wpAnyH_take (i := 28) (oi := { dst := some 78, op := Op.move (Operand.tmp 0), type := 9, pos := "ref.go:75", after := #[], guard := none }) (v := ?_) rfl (by kernel_rfl) (by kernel_rfl) (by kernel_rfl) (fun _ _ _ h => h) (Or.inl ⟨by rfl, ?_⟩) (by assumption) ?_
  rotate_left 1
  · intro w hSw
    go_simp
    first | done | with_reducible rfl
  try simp only [Act.put, List.setIfInBounds_toArray, List.set_cons_zero, List.set_cons_succ]
  refine wpAnyH_take (i := 29) (oi := { dst := some 79, op := Op.move (Operand.tmp 6), type := 3, pos := "ref.go:75", after := #[], guard := none }) (v := ?_) rfl (by kernel_rfl) (by kernel_rfl) (by kernel_rfl) (fun _ _ _ h => h) (Or.inl ⟨by rfl, ?_⟩) (by assumption) ?_
  rotate_left 1
  · intro w hSw
    go_simp
    first | done | with_reducible rfl
  try simp only [Act.put, List.setIfInBounds_toArray, List.set_cons_zero, List.set_cons_succ]
  refine wpAnyH_take (i := 30) (oi := { dst := some 80, op := Op.slice 9 (Operand.tmp 78) (some (Operand.tmp 79)) none none, type := 9, pos := "ref.go:75", after := #[{ on := 28, ground := Ground.data }, { on := 29, ground := Ground.data }], guard := none }) (v := ?_) rfl (by kernel_rfl) (by kernel_rfl) (by kernel_rfl) (fun _ _ _ h => h) (Or.inl ⟨by rfl, ?_⟩) (by assumption) ?_
  rotate_left 1
  · intro w hSw
    go_simp
    first | done | with_reducible rfl
  try simp only [Act.put, List.setIfInBounds_toArray, List.set_cons_zero, List.set_cons_succ]
  refine wpAnyH_ready (rs := [4]) (by kernel_rfl) (by simp) ?_
  refine AllReadyH.cons (o := { dst := some 54, op := Op.call { callee := Callee.value (Operand.func 51), args := #[Operand.tmp 53, Operand.const (Value.int IntKind.i64 4), Operand.const (Value.int IntKind.i64 2)], argTypes := #[9, 3, 3] }, type := 3, pos := "ref.go:75", after := #[{ on := 3, ground := Ground.data }], guard := none }) rfl (fun K hK => ?_) AllReadyH.nil
  go_simp
  (go_at_call 51; (with_reducible refine (AT4.out _).mono ?_); rintro e w5 ⟨rfl, hw5⟩; replace hw5 := hw5.symm; subst hw5)
  go_simp
  refine hK.out _ _ trivial (fun hHeld => ?_)
  clear hK K
  try simp only [Act.put, List.setIfInBounds_toArray, List.set_cons_zero, List.set_cons_succ]
  refine wpAnyH_take (i := 27) (oi := { dst := some 77, op := Op.build 43 #[(0, Operand.tmp 52), (1, Operand.tmp 54), (5, Operand.tmp 57), (6, Operand.tmp 61), (2, Operand.tmp 63), (3, Operand.tmp 66), (4, Operand.tmp 69), (7, Operand.tmp 71), (8, Operand.tmp 73), (9, Operand.tmp 76)], type := 43, pos := "ref.go:75", after := #[{ on := 2, ground := Ground.data }, { on := 4, ground := Ground.data }, { on := 7, ground := Ground.data }, { on := 11, ground := Ground.data }, { on := 13, ground := Ground.data }, { on := 16, ground := Ground.data }, { on := 19, ground := Ground.data }, { on := 21, ground := Ground.data }, { on := 23, ground := Ground.data }, { on := 26, ground := Ground.data }], guard := none }) (v := ?_) rfl (by kernel_rfl) (by kernel_rfl) (by kernel_rfl) (fun _ _ _ h => h) (Or.inl ⟨by rfl, ?_⟩) (by assumption) ?_
  rotate_left 1
  · intro w hSw
    go_simp
    first | done | with_reducible rfl
  try simp only [Act.put, List.setIfInBounds_toArray, List.set_cons_zero, List.set_cons_succ]
  refine wpAnyH_ready (rs := [31]) (by kernel_rfl) (by simp) ?_
  refine AllReadyH.cons (o := { dst := none, op := Op.store 43 (Operand.tmp 2) (Operand.tmp 77), type := 0, pos := "ref.go:75", after := #[{ on := 27, ground := Ground.data }, { on := 4, ground := Ground.chain }, { on := 0, ground := Ground.phase }, { on := 1, ground := Ground.phase }, { on := 2, ground := Ground.phase }, { on := 3, ground := Ground.phase }, { on := 4, ground := Ground.phase }, { on := 5, ground := Ground.phase }, { on := 6, ground := Ground.phase }, { on := 7, ground := Ground.phase }, { on := 8, ground := Ground.phase }, { on := 9, ground := Ground.phase }, { on := 10, ground := Ground.phase }, { on := 11, ground := Ground.phase }, { on := 12, ground := Ground.phase }, { on := 13, ground := Ground.phase }, { on := 14, ground := Ground.phase }, { on := 15, ground := Ground.phase }, { on := 16, ground := Ground.phase }, { on := 17, ground := Ground.phase }, { on := 18, ground := Ground.phase }, { on := 19, ground := Ground.phase }, { on := 20, ground := Ground.phase }, { on := 21, ground := Ground.phase }, { on := 22, ground := Ground.phase }, { on := 23, ground := Ground.phase }, { on := 24, ground := Ground.phase }, { on := 25, ground := Ground.phase }, { on := 26, ground := Ground.phase }, { on := 27, ground := Ground.phase }, { on := 28, ground := Ground.textOnly Departure.lateStores }, { on := 29, ground := Ground.textOnly Departure.lateStores }, { on := 30, ground := Ground.textOnly Departure.lateStoresUnsure }], guard := none }) rfl (fun K hK => ?_) AllReadyH.nil
  go_simp
  refine hK.out _ _ trivial (fun hHeld => ?_)
  clear hK K
  try simp only [Act.put, List.setIfInBounds_toArray, List.set_cons_zero, List.set_cons_succ]
  refine wpAnyH_ready (rs := [32]) (by kernel_rfl) (by simp) ?_
  refine AllReadyH.cons (o := { dst := some 3, op := Op.assign (Operand.tmp 80), type := 9, pos := "ref.go:75", after := #[{ on := 30, ground := Ground.data }, { on := 31, ground := Ground.chain }, { on := 0, ground := Ground.phase }, { on := 1, ground := Ground.phase }, { on := 2, ground := Ground.phase }, { on := 3, ground := Ground.phase }, { on := 4, ground := Ground.phase }, { on := 5, ground := Ground.phase }, { on := 6, ground := Ground.phase }, { on := 7, ground := Ground.phase }, { on := 8, ground := Ground.phase }, { on := 9, ground := Ground.phase }, { on := 10, ground := Ground.phase }, { on := 11, ground := Ground.phase }, { on := 12, ground := Ground.phase }, { on := 13, ground := Ground.phase }, { on := 14, ground := Ground.phase }, { on := 15, ground := Ground.phase }, { on := 16, ground := Ground.phase }, { on := 17, ground := Ground.phase }, { on := 18, ground := Ground.phase }, { on := 19, ground := Ground.phase }, { on := 20, ground := Ground.phase }, { on := 21, ground := Ground.phase }, { on := 22, ground := Ground.phase }, { on := 23, ground := Ground.phase }, { on := 24, ground := Ground.phase }, { on := 25, ground := Ground.phase }, { on := 26, ground := Ground.phase }, { on := 27, ground := Ground.phase }, { on := 28, ground := Ground.phase }, { on := 29, ground := Ground.phase }, { on := 30, ground := Ground.phase }, { on := 31, ground := Ground.phase }], guard := none }) rfl (fun K hK => ?_) AllReadyH.nil
  go_simp
  refine hK.out _ _ hHeld (fun hHeld => ?_)
  clear hK K
  try simp only [Act.put, List.setIfInBounds_toArray, List.set_cons_zero, List.set_cons_succ]
  refine wpAnyH_ready (rs := [33]) (by kernel_rfl) (by simp) ?_
  refine AllReadyH.cons (o := { dst := some 4, op := Op.assign (Operand.const (Value.int IntKind.i64 0)), type := 3, pos := "ref.go:75", after := #[{ on := 32, ground := Ground.chain }, { on := 0, ground := Ground.phase }, { on := 1, ground := Ground.phase }, { on := 2, ground := Ground.phase }, { on := 3, ground := Ground.phase }, { on := 4, ground := Ground.phase }, { on := 5, ground := Ground.phase }, { on := 6, ground := Ground.phase }, { on := 7, ground := Ground.phase }, { on := 8, ground := Ground.phase }, { on := 9, ground := Ground.phase }, { on := 10, ground := Ground.phase }, { on := 11, ground := Ground.phase }, { on := 12, ground := Ground.phase }, { on := 13, ground := Ground.phase }, { on := 14, ground := Ground.phase }, { on := 15, ground := Ground.phase }, { on := 16, ground := Ground.phase }, { on := 17, ground := Ground.phase }, { on := 18, ground := Ground.phase }, { on := 19, ground := Ground.phase }, { on := 20, ground := Ground.phase }, { on := 21, ground := Ground.phase }, { on := 22, ground := Ground.phase }, { on := 23, ground := Ground.phase }, { on := 24, ground := Ground.phase }, { on := 25, ground := Ground.phase }, { on := 26, ground := Ground.phase }, { on := 27, ground := Ground.phase }, { on := 28, ground := Ground.phase }, { on := 29, ground := Ground.phase }, { on := 30, ground := Ground.phase }, { on := 31, ground := Ground.phase }, { on := 32, ground := Ground.phase }], guard := none }) rfl (fun K hK => ?_) AllReadyH.nil
  go_simp
  refine hK.out _ _ hHeld (fun hHeld => ?_)
  clear hK K
  try simp only [Act.put, List.setIfInBounds_toArray, List.set_cons_zero, List.set_cons_succ]
  refine wpAnyH_done (by kernel_rfl) ?_ _
  try simp only [Exit.then]
  go_wp2_with (fail)
  refine bodyPost_ret (rget_endD (g := R) rfl rfl rfl (set10 G1.out.1)) rfl ⟨?_, (below10 G1.out.2.2 hwR).drew⟩
  rw [HFIN.out]
  rfl

end Go.Proofs.Ythdkbocokefdhaa
