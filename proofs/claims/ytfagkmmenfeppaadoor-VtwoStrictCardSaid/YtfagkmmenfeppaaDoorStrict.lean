import Derived.Test.YtfagkmmenfeppaaDoorStrictT
/- VtwoStrict, walked. -/
namespace Go.Proofs.YtfagkmmenfeppaaDoor
set_option maxRecDepth 100000
open Go.RowKit
theorem getR_err {l : List UInt8} {c : Nat} (h : getR l = .error c) : ∃ c', getE l = .error c' ∧ c = more c' := by
  unfold getR at h
  cases hE : getE l with
  | error c' =>
    rw [hE] at h
    injection h with h
    exact ⟨c', rfl, h.symm⟩
  | ok r => rw [hE] at h; cases h
theorem getR_ne2 {l : List UInt8} {c : Nat} (h : getR l = .error c) : c ≠ 0 := by
  obtain ⟨c', h1, rfl⟩ := getR_err h
  have := getE_ne h1
  unfold more; split <;> omega
theorem getR_ok2 {l : List UInt8} {r : Bool × Hd × List Fd × Nat × Nat} (h : getR l = .ok r) : getE l = .ok r := by
  unfold getR at h
  cases hE : getE l with
  | error c' => rw [hE] at h; cases h
  | ok r' => rw [hE] at h; exact h
theorem getR_more {l : List UInt8} {c : Nat} (h : getR l = .error c) (hc : c ≠ 10) (R : List UInt8) : getR (l ++ R) = .error c := by
  obtain ⟨c', h1, h2⟩ := getR_err h
  have hc2 : c' ≠ 2 := fun q => hc (by rw [h2, q]; rfl)
  unfold getR
  rw [get_fault h1 hc2 R]
  rw [h2]
set_option maxHeartbeats 8000000 in
theorem strict_walk (b r : ByteArray) (w : World) (hf : FamAt w) (hbs : b.size ≤ 9223372036854775807) (hrs : r.size ≤ 9223372036854775807) :
    Calls Tryd.prog 6 #[.string b, .string r] w fun e w' => e = .returned (.bool true) ∧ Below w.heap.size w w' := by
  have HC : Hid (∀ V, Below w.heap.size w V → FamAt V) := fun V hV => hf.below hf.pos hV
  have AW : Hid (∀ V, Below w.heap.size w V → Calls Tryd.prog 9 #[] V fun e w' => e = .returned (.bool true) ∧ Below w.heap.size w w') := fun V hV => (awake_any V (HC.out V hV)).mono fun e w' h => ⟨h.1, hV.trans (h.2.mono hV.size)⟩
  have HB0 : Hid (Below w.heap.size w w) := Below.refl _ _
  clear hf
  obtain ⟨bn, hbn⟩ : ∃ n, n = b.size := ⟨_, rfl⟩
  obtain ⟨rn, hrn⟩ : ∃ n, n = r.size := ⟨_, rfl⟩
  have hbn2 : b.size = bn := hbn.symm
  have hrn2 : r.size = rn := hrn.symm
  rw [hbn2] at hbs
  rw [hrn2] at hrs
  clear hbn hrn
  go_enter Tryd.func6, Tryd.ntmps6
  by_cases hb5 : 5000 < bn
  · have e1 : decide (5000 < (bn : Int)) = true := decide_eq_true (by omega)
    clear hb5
    go_wp2_with (first | (go_at_call 9; (with_reducible refine (AW.out _ HB0.out).mono ?_); rintro e w1 ⟨rfl, hb1⟩))
    go_ret
    exact ⟨rfl, hb1⟩
  · have e1 : decide (5000 < (bn : Int)) = false := decide_eq_false (by omega)
    by_cases hr3 : 3000 < rn
    · have e2 : decide (3000 < (rn : Int)) = true := decide_eq_true (by omega)
      clear hb5 hr3
      go_wp2_with (first | (go_at_call 9; (with_reducible refine (AW.out _ HB0.out).mono ?_); rintro e w1 ⟨rfl, hb1⟩))
      go_ret
      exact ⟨rfl, hb1⟩
    · have e2 : decide (3000 < (rn : Int)) = false := decide_eq_false (by omega)
      have HB5 := Lib.hid hb5
      have HR3 := Lib.hid hr3
      clear hb5 hr3
      go_wp2_with (first | (go_at_call 9; (with_reducible refine (AW.out _ HB0.out).mono ?_); rintro e w1 ⟨rfl, hb1⟩))
      refine (get_any b w1 (HC.out _ hb1) (by have := HB5.out; omega)).mono ?_
      rintro e w2 ⟨hb2, h2⟩
      have HB2 : Hid (Below w.heap.size w w2) := hb1.trans (hb2.mono hb1.size)
      clear hb1 hb2
      rcases h2 with ⟨c, hc, rfl⟩ | ⟨loc, h, fs, a, m, v, hg, rfl, hrow⟩
      · have HCN : Hid (c ≠ 0) := getR_ne2 hc
        have z1 : ((c : Int) != 0) = true := by rw [bne, beq_eq_false_iff_ne.2 (by have := HCN.out; omega)]; rfl
        have hst : ∀ wx, (Op.stringOp .add b r).run Tryd.prog wx = .ok (.string (b ++ r)) wx := fun wx => run_string_add_sum wx _ _ (by rw [hbn2, hrn2]; have := HB5.out; have := HR3.out; omega)
        have SZ : Hid (∀ V, Calls Tryd.prog 16 #[.agg #[.bool false, .int .i64 0, .string ⟨#[]⟩, .string ⟨#[]⟩, .int .i64 0, .int .i64 0, .slice none 0 0], .agg #[.bool false, .int .i64 0, .string ⟨#[]⟩, .string ⟨#[]⟩, .int .i64 0, .int .i64 0, .slice none 0 0]] V fun e w' => e = .returned (.bool true) ∧ Below V.heap.size V w') := fun V => same_any false 0 [] [] 0 0 [] none none 0 0 V (FdIn.nil _ _) (FdIn.nil _ _) (by simp)
        obtain ⟨W2, hW2⟩ : ∃ W, W = w2.alloc (.cells #[.bool false, .int .i64 0, .string ⟨#[]⟩, .string ⟨#[]⟩, .int .i64 0, .int .i64 0, .slice none 0 0] 24) := ⟨_, rfl⟩
        have hS : W2.heap[w2.heap.size]? = some (.cells #[.bool false, .int .i64 0, .string ⟨#[]⟩, .string ⟨#[]⟩, .int .i64 0, .int .i64 0, .slice none 0 0] 24 (0, 0)) := by rw [hW2]; exact alloc_new _ _
        have HBW : Hid (Below w.heap.size w W2) := by show Below _ _ _; rw [hW2]; exact HB2.out.alloc HB2.out.size _
        have HD : Hid (∀ V, Below W2.heap.size W2 V → V.cell? ⟨w2.heap.size, 0, none⟩ = some (.bool false) ∧ V.cell? ⟨w2.heap.size, 1, none⟩ = some (.int .i64 0) ∧ V.cell? ⟨w2.heap.size, 2, none⟩ = some (.string ⟨#[]⟩) ∧ V.cell? ⟨w2.heap.size, 3, none⟩ = some (.string ⟨#[]⟩) ∧ V.cell? ⟨w2.heap.size, 4, none⟩ = some (.int .i64 0) ∧ V.cell? ⟨w2.heap.size, 5, none⟩ = some (.int .i64 0) ∧ V.cell? ⟨w2.heap.size, 6, none⟩ = some (.slice none 0 0) ∧ Below w.heap.size w V) := fun V hV => by
          have h1 := (hV.block _ (heap_lt hS)).trans hS
          exact ⟨cellAt h1 rfl, cellAt h1 rfl, cellAt h1 rfl, cellAt h1 rfl, cellAt h1 rfl, cellAt h1 rfl, cellAt h1 rfl, HBW.out.trans (hV.mono HBW.out.size)⟩
        have GT : Hid (Calls Tryd.prog 13 #[.string (b ++ r)] W2 fun e w' => ∃ lo fa s d sp dp v is m f, e = .returned (.tuple #[.agg #[.bool lo, .int .i64 fa, .string s, .string d, .int .i64 sp, .int .i64 dp, v], .bool is, .int .i64 m, .int .i64 f]) ∧ (∃ a n c, v = .slice a n c) ∧ (c ≠ 10 → f = (c : Int)) ∧ Below W2.heap.size W2 w') := (get_any (b ++ r) W2 (HC.out _ HBW.out) (by rw [ByteArray.size_append]; have := HB5.out; have := HR3.out; omega)).mono fun e w' h => by
          have hl : (b ++ r).data.toList = b.data.toList ++ r.data.toList := by simp only [ByteArray.data_append, Array.toList_append]
          obtain ⟨hb, ⟨c', hc', rfl⟩ | ⟨lo, h, gs, aa, m, v, hg, rfl, hrow⟩⟩ := h
          · refine ⟨_, _, _, _, _, _, _, _, _, _, rfl, ⟨_, _, _, rfl⟩, fun q => ?_, hb⟩
            have := getR_more hc q r.data.toList
            rw [← hl, hc'] at this
            injection this with this
            rw [this]
          · obtain ⟨a', c2, rfl, _⟩ := row_in hrow
            refine ⟨_, _, _, _, _, _, _, _, _, _, rfl, ⟨_, _, _, rfl⟩, fun q => ?_, hb⟩
            have := getR_more hc q r.data.toList
            rw [← hl, hg] at this
            cases this
        clear hS hc
        unfold zeroS
        go_upto_region 6 with (fail)
        rw [← hW2]
        clear hW2
        go_wp2_with (first | (go_at_call 13; (with_reducible refine GT.out.mono ?_); rintro e w5 ⟨lo, fa, s, d, sp, dp, v, is, m, f, rfl, ⟨a, n, cp, rfl⟩, hcf, hb5⟩; obtain ⟨k0, k1, k2, k3, k4, k5, k6, hbx⟩ := HD.out _ (hb5.alloc hb5.size (.cells #[.bool lo, .int .i64 fa, .string s, .string d, .int .i64 sp, .int .i64 dp, .slice a n cp] 24)); have HBX := Lib.hid hbx; have HCF := Lib.hid hcf; clear hb5 hcf hbx))
        refine (SZ.out _).mono ?_
        rintro e w6 ⟨rfl, hb6⟩
        have HB6 : Hid (Below w.heap.size w w6) := HBX.out.trans (hb6.mono HBX.out.size)
        clear hb6 k0 k1 k2 k3 k4 k5 k6 HBX
        by_cases hc10 : c = 10
        · have z2 : ((c : Int) == 10) = true := by rw [hc10]; rfl
          clear hc10
          go_wp2_with (fail)
          go_ret
          exact ⟨rfl, HB6.out⟩
        · have z2 : ((c : Int) == 10) = false := by rw [beq_eq_false_iff_ne]; omega
          obtain rfl := HCF.out hc10
          have z3 : ((c : Int) == c) = true := beq_self_eq_true _
          clear hc10 HCF
          go_wp2_with (fail)
          go_ret
          exact ⟨rfl, HB6.out⟩
      · obtain ⟨a1, c1, rfl, hin1⟩ := row_in hrow
        have hg2 := getR_ok2 hg
        obtain ⟨h16, hml, hag⟩ := get_again hg2 r.data.toList
        obtain ⟨x, hx1, hx2, hx3, hx4, hx5, hok⟩ := strict_law hg2
        obtain ⟨s, hs⟩ : ∃ s, s = stmOf loc h fs := ⟨_, rfl⟩
        obtain ⟨sl, hsl⟩ : ∃ sl, sl = decide (0 < a) := ⟨_, rfl⟩
        have hsv : ∀ aa cc, streamV loc h (.slice aa fs.length cc) = s.val aa cc := fun aa cc => by
          rw [hs]; unfold streamV Stm.val stmOf; simp only [List.length_map]
        have hsf : fs.map castF = s.fs := by rw [hs]; rfl
        have hsl2 : loc = s.loc := by rw [hs]; rfl
        have hx4' : s.loc = false → sl = false → x = b.data.toList.take m := fun q1 q2 => hx4 (by rw [hsl2]; exact q1) (by rw [hsl] at q2; have := of_decide_eq_false q2; omega)
        have hbl : b.data.toList.length = bn := by rw [Array.length_toList]; exact hbn2
        rw [hbl] at hml
        rw [hsf] at hin1
        rw [hsv, ← hsl]
        rw [← hs, ← hsl] at hx1 hx5
        rw [← hs] at hok
        rw [hsl2] at hx3
        have hexl : (b.extract 0 m ++ r).data.toList = b.data.toList.take m ++ r.data.toList := by simp [ByteArray.data_append, ByteArray.data_extract]
        have GT0 : ∀ V, FamAt V → Calls Tryd.prog 13 #[.string (b.extract 0 m ++ r)] V fun e w' => ∃ a2 c2, e = .returned (.tuple #[s.val a2 c2, .bool sl, .int .i64 (m : Int), .int .i64 0]) ∧ FdIn w' a2 s.fs ∧ Below V.heap.size V w' := fun V hV => (get_any (b.extract 0 m ++ r) V hV (by rw [ByteArray.size_append, ByteArray.size_extract]; have := HB5.out; have := HR3.out; omega)).mono fun e w' h => by
          obtain ⟨hb, ⟨c', hc', rfl⟩ | ⟨lo, h', gs, aa, m', v, hg', rfl, hrow⟩⟩ := h
          · unfold getR at hc'
            rw [hexl, hag] at hc'
            cases hc'
          · unfold getR at hg'
            rw [hexl, hag] at hg'
            cases hg'
            obtain ⟨a', c2, rfl, hin2⟩ := row_in hrow
            rw [hsf] at hin2
            exact ⟨a', c2, by rw [hsv, ← hsl], hin2, hb⟩
        have CK0 : ∀ V, FamAt V → FdIn V a1 s.fs → Calls Tryd.prog 15 #[s.val a1 c1, .bool sl] V fun e w' => e = .returned (.int .i64 0) ∧ Below V.heap.size V w' := fun V h1 h2 => (vcheck_any s sl a1 c1 V h1 h2 hok).mono fun e w' h => by
          rw [hx5] at h; exact h
        have PU0 : ∀ V, FamAt V → FdIn V a1 s.fs → Calls Tryd.prog 11 #[s.val a1 c1, .bool sl] V fun e w' => e = .returned (.tuple #[.string (bs x), .int .i64 0]) ∧ Below V.heap.size V w' := fun V h1 h2 => (put_any s sl a1 c1 V h1 h2 hok).mono fun e w' h => by
          obtain ⟨hb, ⟨c, _, hc, _⟩ | ⟨l, hl, he⟩⟩ := h
          · rw [hx1] at hc; cases hc
          · rw [hx1] at hl; cases hl; exact ⟨he, hb⟩
        have hfn := hok.hn
        clear hsv hsf hsl2 hs hsl hg hg2 hag hx1 hx4 hx5 hok hrow hexl hbl
        obtain ⟨loc, fam, src, dst, sp, dp, fs⟩ := s
        simp only [Stm.val] at GT0 CK0 PU0 hin1 hx3 hx4' hfn ⊢
        have SM0 : ∀ a' c' V, FdIn V a' fs → FdIn V a1 fs → Calls Tryd.prog 16 #[.agg #[.bool loc, .int .i64 fam, .string (bs src), .string (bs dst), .int .i64 sp, .int .i64 dp, .slice a1 fs.length c1], .agg #[.bool loc, .int .i64 fam, .string (bs src), .string (bs dst), .int .i64 sp, .int .i64 dp, .slice a' fs.length c']] V fun e w' => e = .returned (.bool true) ∧ Below V.heap.size V w' := fun a' c' V h1 h2 => same_any loc fam src dst sp dp fs a1 a' c1 c' V h2 h1 hfn
        obtain ⟨W2, hW2⟩ : ∃ W, W = w2.alloc (.cells #[.bool loc, .int .i64 fam, .string (bs src), .string (bs dst), .int .i64 sp, .int .i64 dp, .slice a1 fs.length c1] 24) := ⟨_, rfl⟩
        have hS : W2.heap[w2.heap.size]? = some (.cells #[.bool loc, .int .i64 fam, .string (bs src), .string (bs dst), .int .i64 sp, .int .i64 dp, .slice a1 fs.length c1] 24 (0, 0)) := by rw [hW2]; exact alloc_new _ _
        have HBW : Hid (Below w.heap.size w W2) := by show Below _ _ _; rw [hW2]; exact HB2.out.alloc HB2.out.size _
        have HBW2 : Hid (Below w2.heap.size w2 W2) := by show Below _ _ _; rw [hW2]; exact (Below.refl _ _).alloc (Nat.le_refl _) _
        have HD : Hid (∀ V, Below W2.heap.size W2 V → V.cell? ⟨w2.heap.size, 0, none⟩ = some (.bool loc) ∧ V.cell? ⟨w2.heap.size, 1, none⟩ = some (.int .i64 fam) ∧ V.cell? ⟨w2.heap.size, 2, none⟩ = some (.string (bs src)) ∧ V.cell? ⟨w2.heap.size, 3, none⟩ = some (.string (bs dst)) ∧ V.cell? ⟨w2.heap.size, 4, none⟩ = some (.int .i64 sp) ∧ V.cell? ⟨w2.heap.size, 5, none⟩ = some (.int .i64 dp) ∧ V.cell? ⟨w2.heap.size, 6, none⟩ = some (.slice a1 fs.length c1) ∧ Below w.heap.size w V) := fun V hV => by
          have h1 := (hV.block _ (heap_lt hS)).trans hS
          exact ⟨cellAt h1 rfl, cellAt h1 rfl, cellAt h1 rfl, cellAt h1 rfl, cellAt h1 rfl, cellAt h1 rfl, cellAt h1 rfl, HBW.out.trans (hV.mono HBW.out.size)⟩
        have HIN : Hid (∀ V, Below W2.heap.size W2 V → FdIn V a1 fs) := fun V hV => (hin1.below HBW2.out).below hV
        have HF2 : Hid (∀ V, Below W2.heap.size W2 V → FamAt V) := fun V hV => HC.out V (HBW.out.trans (hV.mono HBW.out.size))
        have GT : Hid (Calls Tryd.prog 13 #[.string (b.extract 0 m ++ r)] W2 fun e w' => ∃ a2 c2, e = .returned (.tuple #[.agg #[.bool loc, .int .i64 fam, .string (bs src), .string (bs dst), .int .i64 sp, .int .i64 dp, .slice a2 fs.length c2], .bool sl, .int .i64 (m : Int), .int .i64 0]) ∧ FdIn w' a2 fs ∧ Below W2.heap.size W2 w') := GT0 W2 (HC.out _ HBW.out)
        have CK : Hid (∀ V, Below W2.heap.size W2 V → Calls Tryd.prog 15 #[.agg #[.bool loc, .int .i64 fam, .string (bs src), .string (bs dst), .int .i64 sp, .int .i64 dp, .slice a1 fs.length c1], .bool sl] V fun e w' => e = .returned (.int .i64 0) ∧ Below W2.heap.size W2 w') := fun V hV => (CK0 V (HF2.out V hV) (HIN.out V hV)).mono fun e w' h => ⟨h.1, hV.trans (h.2.mono hV.size)⟩
        have PU : Hid (∀ V, Below W2.heap.size W2 V → Calls Tryd.prog 11 #[.agg #[.bool loc, .int .i64 fam, .string (bs src), .string (bs dst), .int .i64 sp, .int .i64 dp, .slice a1 fs.length c1], .bool sl] V fun e w' => e = .returned (.tuple #[.string (bs x), .int .i64 0]) ∧ Below W2.heap.size W2 w') := fun V hV => (PU0 V (HF2.out V hV) (HIN.out V hV)).mono fun e w' h => ⟨h.1, hV.trans (h.2.mono hV.size)⟩
        have SM : Hid (∀ a' c' V, FdIn V a' fs → Below W2.heap.size W2 V → Calls Tryd.prog 16 #[.agg #[.bool loc, .int .i64 fam, .string (bs src), .string (bs dst), .int .i64 sp, .int .i64 dp, .slice a1 fs.length c1], .agg #[.bool loc, .int .i64 fam, .string (bs src), .string (bs dst), .int .i64 sp, .int .i64 dp, .slice a' fs.length c']] V fun e w' => e = .returned (.bool true) ∧ Below W2.heap.size W2 w') := fun a' c' V h1 hV => (SM0 a' c' V h1 (HIN.out V hV)).mono fun e w' h => ⟨h.1, hV.trans (h.2.mono hV.size)⟩
        clear hS hin1 GT0 CK0 PU0 SM0 hfn HIN HF2
        have s1 : (0 : Int) ≤ (m : Int) := by omega
        have s2 : (m : Int) ≤ (bn : Int) := by omega
        have s3 : (m : Int).toNat = m := by omega
        have hst : ∀ wx, (Op.stringOp .add (b.extract 0 m) r).run Tryd.prog wx = .ok (.string (b.extract 0 m ++ r)) wx := fun wx => run_string_add_sum wx _ _ (by rw [ByteArray.size_extract, hbn2, hrn2]; have := HB5.out; have := HR3.out; omega)
        have g1 : (sl != sl) = false := by cases sl <;> rfl
        have g2 : ((m : Int) != m) = false := by simp
        have g3 : decide ((m : Int) < 16) = false := decide_eq_false (by omega)
        have g3' : decide (m < 16) = false := decide_eq_false (by omega)
        have g4 : decide ((bn : Int) < m) = false := decide_eq_false (by omega)
        have g4' : decide (bn < m) = false := decide_eq_false (by omega)
        have H16 := Lib.hid h16
        have HX2 := Lib.hid hx2
        have HX3 := Lib.hid hx3
        have HX4 := Lib.hid hx4'
        clear h16 hx2 hx3 hx4'
        go_upto_region 6 with (fail)
        rw [← hW2]
        clear hW2
        go_wp2_with (first | (go_at_call 13; (with_reducible refine GT.out.mono ?_); rintro e w5 ⟨a2, c2, rfl, hfd, hb5⟩; have hal := (Below.refl w5.heap.size w5).alloc (Nat.le_refl _) (.cells #[.bool loc, .int .i64 fam, .string (bs src), .string (bs dst), .int .i64 sp, .int .i64 dp, .slice a2 fs.length c2] 24); have HFD := Lib.hid (hfd.below hal); have HB6 := Lib.hid (hb5.alloc hb5.size (.cells #[.bool loc, .int .i64 fam, .string (bs src), .string (bs dst), .int .i64 sp, .int .i64 dp, .slice a2 fs.length c2] 24)); obtain ⟨k0, k1, k2, k3, k4, k5, k6, _⟩ := HD.out _ HB6.out; clear hb5 hfd hal) | fail)
        refine (SM.out a2 c2 _ HFD.out HB6.out).mono ?_
        rintro e w6 ⟨rfl, hb7⟩
        have HB7 := Lib.hid hb7
        clear k0 k1 k2 k3 k4 k5 k6 HFD HB6
        obtain ⟨k0, k1, k2, k3, k4, k5, k6, _⟩ := HD.out _ hb7
        clear hb7
        go_wp2_with (first | (go_at_call 15; (with_reducible refine (CK.out _ HB7.out).mono ?_); rintro e w7 ⟨rfl, hb8⟩; have HB8 := Lib.hid hb8; obtain ⟨k0, k1, k2, k3, k4, k5, k6, _⟩ := HD.out _ hb8; clear hb8) | fail)
        refine (PU.out _ HB8.out).mono ?_
        rintro e w8 ⟨rfl, hb9⟩
        have HB9 := Lib.hid hb9
        obtain ⟨k0, k1, k2, k3, k4, k5, k6, _⟩ := HD.out _ hb9
        clear hb9
        obtain ⟨X, hX⟩ : ∃ X, X = bs x := ⟨_, rfl⟩
        obtain ⟨N, hN⟩ : ∃ N, N = x.length := ⟨_, rfl⟩
        have hXs : X.size = N := by rw [hX, bs_size, hN]
        have hXe : loc = false → sl = false → X = b.extract 0 m := fun q1 q2 => by
          have h := HX4.out q1 q2
          rw [hX]
          apply ByteArray.ext
          apply Array.toList_inj.1
          rw [bs_list, h]
          simp [ByteArray.data_extract]
        have hNm : decide ((m : Int) < N) = false := decide_eq_false (by have := HX2.out; rw [← hN] at this; omega)
        have hNm' : decide (m < N) = false := decide_eq_false (by have := HX2.out; rw [← hN] at this; omega)
        have hNe : loc = false → ((N : Int) != m) = false := fun q => by have := HX3.out q; rw [← hN] at this; rw [this]; simp
        rw [← hX]
        have HXX := Lib.hid hX
        have HNN := Lib.hid hN
        clear hX hN
        cases loc with
        | true =>
          clear hXe hNe
          go_wp2_with (fail)
          go_ret
          exact ⟨rfl, (HD.out _ HB9.out).2.2.2.2.2.2.2⟩
        | false =>
          have hNe2 := hNe rfl
          have HXE := Lib.hid (hXe rfl)
          clear hNe hXe
          cases sl with
          | true =>
            go_wp2_with (fail)
            go_ret
            exact ⟨rfl, (HD.out _ HB9.out).2.2.2.2.2.2.2⟩
          | false =>
            have HX5 := Lib.hid (HXE.out rfl)
            go_wp2_with (fail)
            go_ret
            refine ⟨?_, (HD.out _ HB9.out).2.2.2.2.2.2.2⟩
            rw [HX5.out]
            simp
end Go.Proofs.YtfagkmmenfeppaaDoor
