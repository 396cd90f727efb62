import Derived.Test.YtmijfhfjhbckdaaReads
import Derived.Test.YtmijfhfjhbckdaaBackP
/- ScriptBack, walked. -/
namespace Go.Proofs.Ytmijfhfjhbckdaa
set_option maxRecDepth 100000
open Go.RowKit
set_option maxHeartbeats 16000000 in
theorem back_walk (w : World) (l : List ActL) (a : Option Addr) (cap : Nat) (y0 : ByteArray) (y1 : Int) (y2 y3 : Bool) (y4 : Nat) (y5 : Bool) (y6 y7 y8 : Int) (z0 z1 z2 : Int) (more : ByteArray) (hin : ActIn w a l) (hcame : ∀ y ∈ l, y.came) (h4 : y4 < 4294967296) (i1 : inI y1) (i6 : inI y6) (i7 : inI y7) (j0 : inI z0) (j2 : inI z2) :
    Calls Try.prog 4 #[.slice a l.length cap, .agg #[.string y0, .int .i64 y1, .bool y2, .bool y3, .int .u32 (y4 : Nat), .bool y5, .int .i64 y6, .int .i64 y7, .int .i64 y8], .agg #[.int .i64 z0, .int .i64 z1, .int .i64 z2], .string more] w fun e w' => e = .returned (.bool true) ∧ Below w.heap.size w w' := by
  have AW := Lib.hid awake_any
  obtain ⟨A, hA⟩ : ∃ A, A = w.heap.size := ⟨_, rfl⟩
  obtain ⟨B, hB⟩ : ∃ B, B = w.heap.size + 1 := ⟨_, rfl⟩
  obtain ⟨W, hW⟩ : ∃ V, V = (w.alloc (.cells #[.string y0, .int .i64 y1, .bool y2, .bool y3, .int .u32 (y4 : Nat), .bool y5, .int .i64 y6, .int .i64 y7, .int .i64 y8] 27)).alloc (.cells #[.int .i64 z0, .int .i64 z1, .int .i64 z2] 29) := ⟨_, rfl⟩
  have T0 := Two.lay (C := #[.string y0, .int .i64 y1, .bool y2, .bool y3, .int .u32 (y4 : Nat), .bool y5, .int .i64 y6, .int .i64 y7, .int .i64 y8]) (S := #[.int .i64 z0, .int .i64 z1, .int .i64 z2]) (Below.refl w.heap.size w)
  rw [← hB, ← hA, ← hW] at T0
  have HV : Hid (∀ V, Below W.heap.size W V → Two A B #[.string y0, .int .i64 y1, .bool y2, .bool y3, .int .u32 (y4 : Nat), .bool y5, .int .i64 y6, .int .i64 y7, .int .i64 y8] #[.int .i64 z0, .int .i64 z1, .int .i64 z2] w V ∧ ActIn V a l) := fun V hV => by
    have h := T0.below hV
    exact ⟨h, hin.below h.bl⟩
  obtain ⟨n, hn⟩ : ∃ n, n = l.length := ⟨_, rfl⟩
  rw [← hn]

  have HN := Lib.hid hn
  have HCM := Lib.hid hcame
  have HY : Hid (y4 < 4294967296 ∧ inI y1 ∧ inI y6 ∧ inI y7 ∧ inI z0 ∧ inI z2) := ⟨h4, i1, i6, i7, j0, j2⟩
  have a0 := cellAt (i := 0) (v := .string y0) T0.hA rfl
  clear hin hcame h4 i1 i6 i7 j0 j2 hn T0
  by_cases big : 60 < n ∨ 1000 < more.size ∨ 300 < y0.size
  · go_enter Try.func4, Try.ntmps4
    go_upto_region 1 with (fail)
    rw [← hW, ← hB, ← hA]
    clear hW hB hA
    go_wp2_with (fail)
    (with_reducible refine (AW.out _).mono ?_)
    rintro e w1 ⟨rfl, hb1⟩
    have T1 := (HV.out _ hb1).1
    have b0 := cellAt (i := 0) (v := .string y0) T1.hA rfl
    have BL := Lib.hid T1.bl
    clear T1 a0 hb1 AW HV HCM HY
    by_cases h1 : 60 < n
    · have d1 : decide ((60 : Int) < (n : Int)) = true := decide_eq_true (by omega)
      have d1' : decide (60 < n) = true := decide_eq_true h1
      go_wp2_with (fail)
      go_ret
      exact ⟨rfl, BL.out⟩
    · have d1 : decide ((60 : Int) < (n : Int)) = false := decide_eq_false (by omega)
      have d1' : decide (60 < n) = false := decide_eq_false h1
      by_cases h2 : 1000 < more.size
      · have d2 : decide ((1000 : Int) < (more.size : Int)) = true := decide_eq_true (by omega)
        have d2' : decide (1000 < more.size) = true := decide_eq_true h2
        go_wp2_with (fail)
        go_ret
        exact ⟨rfl, BL.out⟩
      · have d2 : decide ((1000 : Int) < (more.size : Int)) = false := decide_eq_false (by omega)
        have d2' : decide (1000 < more.size) = false := decide_eq_false h2
        have d3 : decide ((300 : Int) < (y0.size : Int)) = true := decide_eq_true (by omega)
        have d3' : decide (300 < y0.size) = true := decide_eq_true (by omega)
        go_wp2_with (fail)
        go_ret
        exact ⟨rfl, BL.out⟩
  · have hb1 : ¬ 60 < n := fun h => big (.inl h)
    have hb2 : ¬ 1000 < more.size := fun h => big (.inr (.inl h))
    have hb3 : ¬ 300 < y0.size := fun h => big (.inr (.inr h))
    have d1 : decide ((60 : Int) < (n : Int)) = false := decide_eq_false (by omega)
    have d1' : decide (60 < n) = false := decide_eq_false hb1
    have d2 : decide ((1000 : Int) < (more.size : Int)) = false := decide_eq_false (by omega)
    have d2' : decide (1000 < more.size) = false := decide_eq_false hb2
    have d3 : decide ((300 : Int) < (y0.size : Int)) = false := decide_eq_false (by omega)
    have d3' : decide (300 < y0.size) = false := decide_eq_false hb3
    have sf := store_float
    clear big
    go_enter Try.func4, Try.ntmps4
    go_upto_region 1 with (fail)
    rw [← hW, ← hB, ← hA]
    clear hW hB hA
    go_wp2_with (fail)
    (with_reducible refine (AW.out _).mono ?_)
    rintro e w1 ⟨rfl, hbw1⟩
    have T1 := (HV.out _ hbw1).1
    have b0 := cellAt (i := 0) (v := .string y0) T1.hA rfl
    have R1 := Lib.hid (RSt.nil (E := 51) hbw1 hbw1.size)
    clear T1 a0 AW hbw1
    go_wp2_with (fail)
    clear b0
    go_loopw [9, 10, 11] (fun t9 t10 t11 wr => ∃ (j : Nat) (tx : List UInt8) (done : List EntP), j ≤ n ∧ t11 = .int .i64 j ∧ t9 = .string (bs tx) ∧ done.length ≤ j ∧ Hid (Told tx done) ∧ tx.length ≤ 280000 ∧ Hid (RSt 51 W.heap.size W t10 done wr)) (fun _ _ t11 _ => n - (intOf t11).toNat)
    case atStart => exact ⟨0, [], [], by omega, rfl, rfl, by simp, told_nil, by simp, R1.out⟩
    case round =>
      obtain ⟨j, tx, done, hj, rfl, rfl, hdl, told, htx, st⟩ := hrel
      obtain ⟨X, hX⟩ : ∃ X, X = bs tx := ⟨_, rfl⟩
      have hXs : X.size = tx.length := by rw [hX, bs_size]
      rw [← hX]
      by_cases hlt : j < n
      · have hlt' : (j : Int) < (n : Int) := by omega
        have hjl : j < l.length := by rw [← HN.out]; exact hlt
        obtain ⟨q, hq⟩ : ∃ q, q = l[j] := ⟨_, rfl⟩
        have qcame := HCM.out l[j] (List.getElem_mem hjl)
        rw [← hq] at qcame
        obtain ⟨k, p, id, ad, wt, md, sm, ky, va, df, tl, ts, nn, d⟩ := q
        obtain ⟨x, hx⟩ : ∃ x, a = some x := by obtain ⟨x, h, _⟩ := (HV.out _ (Below.refl _ _)).2 j hjl; exact ⟨x, h⟩
        have QC : Hid (∀ V, Below W.heap.size W V → V.cell? (x.add (j * 14)) = some (.int .i64 k) ∧ V.cell? { block := (x.add (j * 14)).block, off := (x.add (j * 14)).off + 1 } = some (.string p) ∧ V.cell? { block := (x.add (j * 14)).block, off := (x.add (j * 14)).off + 2 } = some (.int .i64 id) ∧ V.cell? { block := (x.add (j * 14)).block, off := (x.add (j * 14)).off + 3 } = some (.string ad) ∧ V.cell? { block := (x.add (j * 14)).block, off := (x.add (j * 14)).off + 4 } = some (.float .f64 wt) ∧ V.cell? { block := (x.add (j * 14)).block, off := (x.add (j * 14)).off + 5 } = some (.int .i64 md) ∧ V.cell? { block := (x.add (j * 14)).block, off := (x.add (j * 14)).off + 6 } = some (.bool sm) ∧ V.cell? { block := (x.add (j * 14)).block, off := (x.add (j * 14)).off + 7 } = some (.bool ky) ∧ V.cell? { block := (x.add (j * 14)).block, off := (x.add (j * 14)).off + 8 } = some (.int .u32 (va : Nat)) ∧ V.cell? { block := (x.add (j * 14)).block, off := (x.add (j * 14)).off + 9 } = some (.bool df) ∧ V.cell? { block := (x.add (j * 14)).block, off := (x.add (j * 14)).off + 10 } = some (.int .i64 tl) ∧ V.cell? { block := (x.add (j * 14)).block, off := (x.add (j * 14)).off + 11 } = some (.int .i64 ts) ∧ V.cell? { block := (x.add (j * 14)).block, off := (x.add (j * 14)).off + 12 } = some (.int .i64 nn) ∧ V.cell? { block := (x.add (j * 14)).block, off := (x.add (j * 14)).off + 13 } = some (.int .i64 d)) := fun V hV => by
          obtain ⟨x', h1, h2, h3⟩ := (HV.out V hV).2 j hjl
          rw [hx] at h1
          obtain rfl := Option.some.inj h1
          rw [← hq] at h2 h3
          exact ⟨h2, h3 1 _ rfl, h3 2 _ rfl, h3 3 _ rfl, h3 4 _ rfl, h3 5 _ rfl, h3 6 _ rfl, h3 7 _ rfl, h3 8 _ rfl, h3 9 _ rfl, h3 10 _ rfl, h3 11 _ rfl, h3 12 _ rfl, h3 13 _ rfl⟩
        rw [hx]
        have FW := Lib.hid (fun V => few_any ⟨k, p, id, ad, wt, md, sm, ky, va, df, tl, ts, nn, d⟩ V)
        obtain ⟨F, hF⟩ : ∃ F, F = (decide (p.size ≤ 70000) && decide (ad.size ≤ 300)) := ⟨_, rfl⟩
        have FW : Hid (∀ V, Calls Try.prog 12 #[.agg #[.int .i64 k, .string p, .int .i64 id, .string ad, .float .f64 wt, .int .i64 md, .bool sm, .bool ky, .int .u32 (va : Nat), .bool df, .int .i64 tl, .int .i64 ts, .int .i64 nn, .int .i64 d]] V fun e w' => e = .returned (.bool F) ∧ Below V.heap.size V w') := fun V => by rw [hF]; exact FW.out V
        obtain ⟨c0, c1, c2, c3, c4, c5, c6, c7, c8, c9, c10, c11, c12, c13⟩ := QC.out wr st.out.bel
        have ST := Lib.hid st.out
        have TOLD := Lib.hid told.out
        have HXs := Lib.hid hXs
        have HX := Lib.hid hX
        have QCM := Lib.hid qcame
        have HFF := Lib.hid hF
        have HDL : Hid (done.length ≤ j ∧ tx.length ≤ 280000 ∧ X.size = tx.length) := ⟨hdl, htx, hXs⟩
        clear st told hX hq qcame hF hjl hx hdl htx R1
        go_wp2_with (fail)
        (with_reducible refine (FW.out _).mono ?_)
        clear FW c0 c1 c2 c3 c4 c5 c6 c7 c8 c9 c10 c11 c12 c13
        rintro e w2 ⟨rfl, hb2w⟩
        have ST2 := Lib.hid (ST.out.keep hb2w)
        clear hb2w ST
        cases F with
        | false =>
          go_wp2_with (fail)
          go_ret
          exact ⟨rfl, (HV.out _ ST2.out.bel).1.bl⟩
        | true =>
          by_cases hbig : 200000 < X.size
          · have e1 : decide ((200000 : Int) < (X.size : Int)) = true := decide_eq_true (by omega)
            have e1' : decide (200000 < X.size) = true := decide_eq_true hbig
            go_wp2_with (fail)
            go_ret
            exact ⟨rfl, (HV.out _ ST2.out.bel).1.bl⟩
          · have e1 : decide ((200000 : Int) < (X.size : Int)) = false := decide_eq_false (by omega)
            have e1' : decide (200000 < X.size) = false := decide_eq_false hbig
            have fw : p.size ≤ 70000 ∧ ad.size ≤ 300 := by
              have h := HFF.out.symm
              simp only [Bool.and_eq_true, decide_eq_true_eq] at h
              exact h
            have aok : ActL.ok ⟨k, p, id, ad, wt, md, sm, ky, va, df, tl, ts, nn, d⟩ := ⟨QCM.out.wt, QCM.out.va, QCM.out.md, QCM.out.tl, QCM.out.ts, by show p.size ≤ 1000000; omega, by show ad.size ≤ 1000000; omega⟩
            obtain ⟨T, c, hpf, hpc⟩ := put_form _ aok
            have PU : Hid (∀ V, Calls Try.prog 13 #[.agg #[.int .i64 k, .string p, .int .i64 id, .string ad, .float .f64 wt, .int .i64 md, .bool sm, .bool ky, .int .u32 (va : Nat), .bool df, .int .i64 tl, .int .i64 ts, .int .i64 nn, .int .i64 d]] V fun e w' => e = .returned (.tuple #[.string T, .int .i64 c]) ∧ Below V.heap.size V w') := fun V => by rw [← hpf]; exact put_any _ aok V
            obtain ⟨c0, c1, c2, c3, c4, c5, c6, c7, c8, c9, c10, c11, c12, c13⟩ := QC.out w2 ST2.out.bel
            have HPC := Lib.hid hpc
            have FWW := Lib.hid fw
            clear hpf hpc aok fw
            go_wp2_with (fail)
            (with_reducible refine (PU.out _).mono ?_)
            clear PU c0 c1 c2 c3 c4 c5 c6 c7 c8 c9 c10 c11 c12 c13
            rintro e w3 ⟨rfl, hb3w⟩
            have ST3 := Lib.hid (ST2.out.keep hb3w)
            clear hb3w ST2
            rcases HPC.out with hc0 | ⟨rfl, kn, body, bd, hT, hk11, hget, hact, hTs⟩
            · have e2 : (c == 0) = false := by simpa using hc0
              go_wp2_with (fail)
              exact ⟨⟨j + 1, tx, done, by omega, by go_num, by rw [HX.out], by have := HDL.out.1; omega, TOLD.out, HDL.out.2.1, ST3.out⟩, by simp [intOf] <;> omega⟩
            · have hTl : (kn :: body).length = T.size := by rw [hT, bs_size]
              have hsum : X.size + T.size ≤ 280000 := by
                have := FWW.out
                omega
              obtain ⟨Z, hZ⟩ : ∃ Z, Z = X ++ T := ⟨_, rfl⟩
              have hst : ∀ wx, (Op.stringOp .add X T).run Try.prog wx = .ok (.string Z) wx := fun wx => by rw [hZ]; exact run_string_add_sum wx _ _ (by omega)
              have hZb : Z = bs (tx ++ kn :: body) := by rw [hZ, HX.out, hT, bs_append]
              obtain ⟨c0, c1, c2, c3, c4, c5, c6, c7, c8, c9, c10, c11, c12, c13⟩ := QC.out w3 ST3.out.bel
              have hdl6 : done.length ≤ 1000000 := by have := HDL.out.1; omega
              obtain ⟨v', w', hr0, st', _⟩ := app_ent 38 51 Try.underlying38 info51 (ST3.out.alloc (.cells (entC (.ok (kn.toNat, bd))).toArray 51)) 38 w3.heap.size 1 (.ok (kn.toNat, bd)) (alloc_new _ _) hdl6
              have he : (entC (.ok (kn.toNat, bd))).toArray = #[.int .i64 k, .string p, .int .i64 id, .string ad, .float .f64 wt, .int .i64 md, .bool sm, .bool ky, .int .u32 (va : Nat), .bool df, .int .i64 tl, .int .i64 ts, .int .i64 nn, .int .i64 d, .int .i64 0] := by show ((actC kn.toNat bd).toList ++ _).toArray = _; rw [hact]; rfl
              rw [he] at hr0
              have HR := Lib.hid hr0
              have ST4 := Lib.hid st'
              have HZ := Lib.hid hZb
              have TOLD2 := Lib.hid (told_one TOLD.out hk11 hget)
              have HTX : Hid ((tx ++ kn :: body).length ≤ 280000) := by show _ ≤ _; rw [List.length_append, hTl]; have := HDL.out.2.2; omega
              have HSUM := Lib.hid hsum
              clear hT hk11 hget hact hTs hTl hsum hZ hZb hdl6 hr0 st' he
              go_wp2_with (at_builtin; refine wpList_append_ok rfl (.tmp 66) (.tmp 72) 38 rfl _ _ _ _ rfl rfl HR.out ?_)
              exact ⟨⟨j + 1, tx ++ kn :: body, done ++ [.ok (kn.toNat, bd)], by omega, by go_num, by rw [HZ.out], by rw [List.length_append]; have := HDL.out.1; simp; omega, TOLD2, HTX.out, ST4⟩, by simp [intOf] <;> omega⟩
      · obtain rfl : j = n := by omega
        have EN : Hid (∀ V, Calls Try.prog 10 #[.string X] V fun e w' => ∃ v, e = .returned v ∧ RSt 66 V.heap.size V v done w') := fun V => by
          have h := entries_any X V (by omega)
          have e : X.data.toList = tx := by rw [hX]; rfl
          rw [e, told_all told.out] at h
          exact h
        have ST := Lib.hid st.out
        have hd6 : done.length ≤ 1000000 := by omega
        have PC : Hid (∀ V, Calls Try.prog 14 #[.agg #[.string y0, .int .i64 y1, .bool y2, .bool y3, .int .u32 (y4 : Nat), .bool y5, .int .i64 y6, .int .i64 y7, .int .i64 y8], .agg #[.int .i64 z0, .int .i64 z1, .int .i64 z2]] V fun e w' => e = .returned (cfgR (cfgOk y0 y1 y2 y3 y4 y5 y6 y7 y8 z0 z1 z2) (cfgB y0 y1 y2 y3 y4 y5 y6 y7 y8 z0 z1 z2)) ∧ Below V.heap.size V w') := fun V => putcfg_any y0 y1 y2 y3 y4 y5 y6 y7 y8 z0 z1 z2 V (by omega) HY.out.1 HY.out.2.1 HY.out.2.2.1 HY.out.2.2.2.1 HY.out.2.2.2.2.1 HY.out.2.2.2.2.2
        have HD6 := Lib.hid hd6
        have e27 := fun W => eqr27 y0 y1 y2 y3 (y4 : Nat) y5 y6 y7 y8 W
        have e29 := fun W => eqr29 z0 z1 z2 W
        have g27 := guard27
        have g29 := guard29
        clear st told hX R1 hd6 hXs htx
        go_wp2_with (fail)
        (with_reducible refine (EN.out _).mono ?_)
        clear EN
        rintro e w4 ⟨v4, rfl, st4⟩
        have ST4 := Lib.hid (ST.out.keep st4.bel)
        have CM := Lib.hid (cmp_any v4 _ done w4 st4.lies ST4.out.lies HD6.out)
        clear st4 ST
        go_wp2_with (fail)
        (with_reducible refine CM.out.mono ?_)
        clear CM
        rintro e w5 ⟨rfl, hb5⟩
        have BW5 := Lib.hid ((ST4.out.keep hb5).bel)
        clear hb5 ST4
        have T5 := (HV.out _ BW5.out).1
        have a0 := cellAt (i := 0) (v := .string y0) T5.hA rfl
        have a1 := cellAt (i := 1) (v := .int .i64 y1) T5.hA rfl
        have a2 := cellAt (i := 2) (v := .bool y2) T5.hA rfl
        have a3 := cellAt (i := 3) (v := .bool y3) T5.hA rfl
        have a4 := cellAt (i := 4) (v := .int .u32 (y4 : Nat)) T5.hA rfl
        have a5 := cellAt (i := 5) (v := .bool y5) T5.hA rfl
        have a6 := cellAt (i := 6) (v := .int .i64 y6) T5.hA rfl
        have a7 := cellAt (i := 7) (v := .int .i64 y7) T5.hA rfl
        have a8 := cellAt (i := 8) (v := .int .i64 y8) T5.hA rfl
        have b0 := cellAt (i := 0) (v := .int .i64 z0) T5.hB rfl
        have b1 := cellAt (i := 1) (v := .int .i64 z1) T5.hB rfl
        have b2 := cellAt (i := 2) (v := .int .i64 z2) T5.hB rfl
        clear T5
        go_upto_region 18 with (fail)
        obtain ⟨ok, hok⟩ : ∃ ok, ok = cfgOk y0 y1 y2 y3 y4 y5 y6 y7 y8 z0 z1 z2 := ⟨_, rfl⟩
        cases ok with
        | false =>
          have PC2 : Hid (∀ V, Calls Try.prog 14 #[.agg #[.string y0, .int .i64 y1, .bool y2, .bool y3, .int .u32 (y4 : Nat), .bool y5, .int .i64 y6, .int .i64 y7, .int .i64 y8], .agg #[.int .i64 z0, .int .i64 z1, .int .i64 z2]] V fun e w' => e = .returned (.tuple #[.string ⟨#[]⟩, .int .i64 1]) ∧ Below V.heap.size V w') := fun V => by
            have h := PC.out V
            rw [← hok] at h
            exact h
          clear hok PC
          go_wp2_with (fail)
          (with_reducible refine (PC2.out _).mono ?_)
          rintro e w6 ⟨rfl, hb6⟩
          have BL := Lib.hid ((HV.out _ (BW5.out.trans (hb6.mono BW5.out.size))).1.bl)
          clear hb6 a0 a1 a2 a3 a4 a5 a6 a7 a8 b0 b1 b2
          go_wp2_with (fail)
          go_ret
          exact ⟨rfl, BL.out⟩
        | true =>
          obtain ⟨cb, hcb⟩ : ∃ c, c = bs (cfgB y0 y1 y2 y3 y4 y5 y6 y7 y8 z0 z1 z2) := ⟨_, rfl⟩
          have PC2 : Hid (∀ V, Calls Try.prog 14 #[.agg #[.string y0, .int .i64 y1, .bool y2, .bool y3, .int .u32 (y4 : Nat), .bool y5, .int .i64 y6, .int .i64 y7, .int .i64 y8], .agg #[.int .i64 z0, .int .i64 z1, .int .i64 z2]] V fun e w' => e = .returned (.tuple #[.string cb, .int .i64 0]) ∧ Below V.heap.size V w') := fun V => by
            have h := PC.out V
            rw [← hok] at h
            rw [hcb]
            exact h
          have hcbs : cb.size ≤ 1000 := by
            rw [hcb, bs_size]
            unfold cfgB
            have e : y0.data.toList.length = y0.size := by simp
            simp only [List.length_append, be_length, tunB_length, e]
            omega
          obtain ⟨Z, hZ⟩ : ∃ Z, Z = cb ++ more := ⟨_, rfl⟩
          have hst : ∀ wx, (Op.stringOp .add cb more).run Try.prog wx = .ok (.string Z) wx := fun wx => by rw [hZ]; exact run_string_add_sum wx _ _ (by omega)
          have hZl : Z.data.toList = cfgB y0 y1 y2 y3 y4 y5 y6 y7 y8 z0 z1 z2 ++ more.data.toList := by rw [hZ, hcb, ← bs_of more, bs_append]; rfl
          have hback := cfg_back y0 y1 y2 y3 y4 y5 y6 y7 y8 z0 z1 z2 HY.out.1 hok.symm more.data.toList
          have CF : Hid (∀ V, Calls Try.prog 7 #[.string Z] V fun e w' => e = .returned (.tuple #[.agg #[.string y0, .int .i64 y1, .bool y2, .bool y3, .int .u32 (y4 : Nat), .bool y5, .int .i64 y6, .int .i64 y7, .int .i64 y8], .agg #[.int .i64 z0, .int .i64 z1, .int .i64 z2], .string more, .int .i64 0]) ∧ Below V.heap.size V w') := fun V => by
            have h := config_any Z V (by rw [hZ, ByteArray.size_append]; show _ ≤ 9223372036854775807; omega)
            rw [hZl] at h
            refine h.mono ?_
            rintro e w' ⟨hb, ⟨h1, _⟩ | ⟨_, rfl⟩⟩
            · have := hback.1; omega
            · refine ⟨?_, hb⟩
              unfold cfgV stoV
              rw [hback.2.1, hback.2.2.1, hback.2.2.2, bs_of]
          have BWW := Lib.hid BW5.out
          clear hok PC hcb hcbs hZ hZl hback
          go_wp2_with (fail)
          (with_reducible refine (PC2.out _).mono ?_)
          clear PC2
          rintro e w6 ⟨rfl, hb6⟩
          have BW6 := Lib.hid (BW5.out.trans (hb6.mono BW5.out.size))
          clear hb6 a0 a1 a2 a3 a4 a5 a6 a7 a8 b0 b1 b2
          go_wp2_with (fail)
          (with_reducible refine (CF.out _).mono ?_)
          clear CF
          rintro e w7 ⟨rfl, hb7⟩
          have BW7 := Lib.hid (BW6.out.trans (hb7.mono BW6.out.size))
          have U7 := Lib.hid (Two.lay (C := #[.string y0, .int .i64 y1, .bool y2, .bool y3, .int .u32 (y4 : Nat), .bool y5, .int .i64 y6, .int .i64 y7, .int .i64 y8]) (S := #[.int .i64 z0, .int .i64 z1, .int .i64 z2]) (Below.refl w7.heap.size w7))
          obtain ⟨G, hG⟩ : ∃ A, A = w7.heap.size := ⟨_, rfl⟩
          obtain ⟨H, hH⟩ : ∃ B, B = w7.heap.size + 1 := ⟨_, rfl⟩
          obtain ⟨W7, hW7⟩ : ∃ V, V = (w7.alloc (.cells #[.string y0, .int .i64 y1, .bool y2, .bool y3, .int .u32 (y4 : Nat), .bool y5, .int .i64 y6, .int .i64 y7, .int .i64 y8] 27)).alloc (.cells #[.int .i64 z0, .int .i64 z1, .int .i64 z2] 29) := ⟨_, rfl⟩
          have bw7 : Below W.heap.size W W7 := by rw [hW7]; exact (BW7.out.alloc BW7.out.size _).alloc (by have := BW7.out.size; simp; omega) _
          rw [← hH, ← hG, ← hW7] at U7
          have T7 := (HV.out _ bw7).1
          clear hb7 bw7
          go_upto_region 22 with (fail)
          rw [← hW7, ← hH, ← hG]
          clear hW7 hH hG
          have a0 := cellAt (i := 0) (v := .string y0) T7.hA rfl
          have a1 := cellAt (i := 1) (v := .int .i64 y1) T7.hA rfl
          have a2 := cellAt (i := 2) (v := .bool y2) T7.hA rfl
          have a3 := cellAt (i := 3) (v := .bool y3) T7.hA rfl
          have a4 := cellAt (i := 4) (v := .int .u32 (y4 : Nat)) T7.hA rfl
          have a5 := cellAt (i := 5) (v := .bool y5) T7.hA rfl
          have a6 := cellAt (i := 6) (v := .int .i64 y6) T7.hA rfl
          have a7 := cellAt (i := 7) (v := .int .i64 y7) T7.hA rfl
          have a8 := cellAt (i := 8) (v := .int .i64 y8) T7.hA rfl
          have b0 := cellAt (i := 0) (v := .int .i64 z0) T7.hB rfl
          have b1 := cellAt (i := 1) (v := .int .i64 z1) T7.hB rfl
          have b2 := cellAt (i := 2) (v := .int .i64 z2) T7.hB rfl
          have g0 := cellAt (i := 0) (v := .string y0) U7.out.hA rfl
          have g1 := cellAt (i := 1) (v := .int .i64 y1) U7.out.hA rfl
          have g2 := cellAt (i := 2) (v := .bool y2) U7.out.hA rfl
          have g3 := cellAt (i := 3) (v := .bool y3) U7.out.hA rfl
          have g4 := cellAt (i := 4) (v := .int .u32 (y4 : Nat)) U7.out.hA rfl
          have g5 := cellAt (i := 5) (v := .bool y5) U7.out.hA rfl
          have g6 := cellAt (i := 6) (v := .int .i64 y6) U7.out.hA rfl
          have g7 := cellAt (i := 7) (v := .int .i64 y7) U7.out.hA rfl
          have g8 := cellAt (i := 8) (v := .int .i64 y8) U7.out.hA rfl
          have h0 := cellAt (i := 0) (v := .int .i64 z0) U7.out.hB rfl
          have h1 := cellAt (i := 1) (v := .int .i64 z1) U7.out.hB rfl
          have h2 := cellAt (i := 2) (v := .int .i64 z2) U7.out.hB rfl
          have BL := Lib.hid T7.bl
          clear T7
          go_wp2_with (fail)
          go_ret
          exact ⟨rfl, BL.out⟩
end Go.Proofs.Ytmijfhfjhbckdaa
