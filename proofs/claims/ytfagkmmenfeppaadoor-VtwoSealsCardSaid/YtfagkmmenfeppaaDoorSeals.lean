import Derived.Test.YtfagkmmenfeppaaDoorSealsR
import Derived.Test.YtfagkmmenfeppaaDoorBytes
/- VtwoSeals, walked. -/
namespace Go.Proofs.YtfagkmmenfeppaaDoor
set_option maxRecDepth 100000
open Go.RowKit
theorem seals_len {s : Stm} {l : List UInt8} (hfs : s.fs = []) (h : s.put true = .ok l) : 17 ≤ l.length ∧ l.length ≤ 500 := by
  obtain ⟨f, S, hf, hm, hS, hl, _, _⟩ := put_seal2 hfs h
  obtain ⟨m1, m2, m3, m4, m5, m6, m7⟩ := may_facts hm
  have hz : f.2.2 ≤ 16 := by
    simp [fams] at hf
    rcases hf with rfl | rfl | rfl | rfl | rfl <;> decide
  have := head_len f s.src s.dst s.sp.toNat s.dp.toNat m5 m6
  rw [hl, frameB_len]
  simp only [List.length_append, hS, this]
  simp
  split <;> omega
theorem getR_ne {l : List UInt8} {c : Nat} (h : getR l = .error c) : c ≠ 0 := by
  unfold getR at h
  cases hE : getE l with
  | error c' =>
    rw [hE] at h
    injection h with h
    have := getE_ne hE
    rw [← h]; unfold more; split <;> omega
  | ok r => rw [hE] at h; cases h
theorem getR_ok {l : List UInt8} {r : Bool × Hd × List Fd × Nat × Nat} (h : getR l = .ok r) : getE l = .ok r := by
  unfold getR at h
  cases hE : getE l with
  | error c' => rw [hE] at h; cases h
  | ok r' => rw [hE] at h; exact h
set_option maxHeartbeats 8000000 in
theorem seals_walk (s : Stm) (a : Option Addr) (cap : Nat) (bit : Int) (w : World) (hf : FamAt w) (hin : FdIn w a s.fs) (hn : s.fs.length ≤ 9223372036854775807) (hs : s.src.length ≤ 9223372036854775807) (hd : s.dst.length ≤ 9223372036854775807)
    (ht : ∀ x ∈ s.fs, x.2.length ≤ 9223372036854775807) : Calls Tryd.prog 5 #[s.val a cap, .int .i64 bit] w fun e w' => e = .returned (.bool true) ∧ Below w.heap.size w w' := by
  obtain ⟨loc, fam, src, dst, sp, dp, fs⟩ := s
  obtain ⟨W, hW⟩ : ∃ W, W = w.alloc (.cells #[.bool loc, .int .i64 fam, .string (bs src), .string (bs dst), .int .i64 sp, .int .i64 dp, .slice a fs.length cap] 24) := ⟨_, rfl⟩
  have hS : W.heap[w.heap.size]? = some (.cells #[.bool loc, .int .i64 fam, .string (bs src), .string (bs dst), .int .i64 sp, .int .i64 dp, .slice a fs.length cap] 24 (0, 0)) := by rw [hW]; exact alloc_new _ _
  have HB : Hid (Below w.heap.size w W) := by show Below _ _ _; rw [hW]; exact (Below.refl _ _).alloc (Nat.le_refl _) _
  have HWs : Hid (W.heap.size = w.heap.size + 1) := by show _ = _; rw [hW]; simp
  have HC : Hid (∀ V, Below W.heap.size W V → V.cell? ⟨w.heap.size, 0, none⟩ = some (.bool loc) ∧ V.cell? ⟨w.heap.size, 1, none⟩ = some (.int .i64 fam) ∧ V.cell? ⟨w.heap.size, 2, none⟩ = some (.string (bs src)) ∧ V.cell? ⟨w.heap.size, 3, none⟩ = some (.string (bs dst)) ∧ V.cell? ⟨w.heap.size, 4, none⟩ = some (.int .i64 sp) ∧ V.cell? ⟨w.heap.size, 5, none⟩ = some (.int .i64 dp) ∧ V.cell? ⟨w.heap.size, 6, none⟩ = some (.slice a fs.length cap) ∧ FamAt V ∧ FdIn V a fs ∧ Below w.heap.size w V) := fun V hV => by
    have h1 := (hV.block _ (heap_lt hS)).trans hS
    have hB := HB.out.trans (hV.mono HB.out.size)
    exact ⟨cellAt h1 rfl, cellAt h1 rfl, cellAt h1 rfl, cellAt h1 rfl, cellAt h1 rfl, cellAt h1 rfl, cellAt h1 rfl, hf.below hf.pos hB, hin.below hB, hB⟩
  have AW : Hid (∀ V, Below W.heap.size W V → Calls Tryd.prog 9 #[] V fun e w' => e = .returned (.bool true) ∧ Below W.heap.size W w') := fun V hV => (awake_any V (HC.out V hV).2.2.2.2.2.2.2.1).mono fun e w' h => ⟨h.1, hV.trans (h.2.mono hV.size)⟩
  have FW : Hid (∀ V, Below W.heap.size W V → Calls Tryd.prog 10 #[.agg #[.bool loc, .int .i64 fam, .string (bs src), .string (bs dst), .int .i64 sp, .int .i64 dp, .slice a fs.length cap]] V fun e w' => (e = .returned (.bool false) ∧ Below W.heap.size W w') ∨ (e = .returned (.bool true) ∧ Below W.heap.size W w' ∧ Stm.few ⟨loc, fam, src, dst, sp, dp, fs⟩ ∧ w'.cell? ⟨w.heap.size, 0, none⟩ = some (.bool loc) ∧ w'.cell? ⟨w.heap.size, 1, none⟩ = some (.int .i64 fam) ∧ w'.cell? ⟨w.heap.size, 2, none⟩ = some (.string (bs src)) ∧ w'.cell? ⟨w.heap.size, 3, none⟩ = some (.string (bs dst)) ∧ w'.cell? ⟨w.heap.size, 4, none⟩ = some (.int .i64 sp) ∧ w'.cell? ⟨w.heap.size, 5, none⟩ = some (.int .i64 dp) ∧ w'.cell? ⟨w.heap.size, 6, none⟩ = some (.slice a fs.length cap) ∧ FamAt w' ∧ FdIn w' a fs ∧ Below w.heap.size w w')) := fun V hV => (few_or ⟨loc, fam, src, dst, sp, dp, fs⟩ a cap V (HC.out V hV).2.2.2.2.2.2.2.2.1 hn hs hd).mono fun e w' h => by
    rcases h with ⟨h1, h2⟩ | ⟨h1, h2, h3⟩
    · exact .inl ⟨h1, hV.trans (h2.mono hV.size)⟩
    · exact .inr ⟨h1, hV.trans (h2.mono hV.size), h3, HC.out _ (hV.trans (h2.mono hV.size))⟩
  obtain ⟨k0, k1, k2, k3, k4, k5, k6, _⟩ := HC.out W (Below.refl _ _)
  have PU : Hid (∀ V, Below W.heap.size W V → Stm.few ⟨loc, fam, src, dst, sp, dp, fs⟩ → Calls Tryd.prog 11 #[.agg #[.bool loc, .int .i64 fam, .string (bs src), .string (bs dst), .int .i64 sp, .int .i64 dp, .slice a fs.length cap], .bool true] V fun e w' => (∃ c : Nat, ((c : Int) == 0) = false ∧ e = .returned (.tuple #[.string ⟨#[]⟩, .int .i64 c]) ∧ Below W.heap.size W w') ∨ (∃ l, Stm.put ⟨loc, fam, src, dst, sp, dp, fs⟩ true = .ok l ∧ e = .returned (.tuple #[.string (bs l), .int .i64 0]) ∧ Below W.heap.size W w')) := fun V hV hfew => (put_any ⟨loc, fam, src, dst, sp, dp, fs⟩ true a cap V (HC.out V hV).2.2.2.2.2.2.2.1 (HC.out V hV).2.2.2.2.2.2.2.2.1 ⟨by have := hfew.2.2; omega, hs, hd, ht⟩).mono fun e w' h => by
    obtain ⟨hb, ⟨c, hc, _, he⟩ | ⟨l, hl, he⟩⟩ := h
    · exact .inl ⟨c, by rw [beq_eq_false_iff_ne]; omega, he, hV.trans (hb.mono hV.size)⟩
    · exact .inr ⟨l, hl, he, hV.trans (hb.mono hV.size)⟩
  clear hS hf hin hn hs hd ht
  simp only [Stm.val]
  go_enter Tryd.func5, Tryd.ntmps5
  go_upto_region 1 with (fail)
  rw [← hW]
  clear hW
  by_cases hr : 0 < fs.length
  · have e1 : decide (0 < (fs.length : Int)) = true := decide_eq_true (by omega)
    have e1' : decide (0 < fs.length) = true := decide_eq_true hr
    go_wp2_with (first | (go_at_call 9; (with_reducible refine (AW.out _ (Below.refl _ _)).mono ?_); rintro e w1 ⟨rfl, hb1⟩; obtain ⟨k0, k1, k2, k3, k4, k5, k6, _⟩ := HC.out _ hb1; have HB1 := Lib.hid hb1) | (go_at_call 10; (with_reducible refine (FW.out _ HB1.out).mono ?_); rintro e w2 (⟨rfl, hb2⟩ | ⟨rfl, hb2, hfew, k0, k1, k2, k3, k4, k5, k6, _⟩)))
    all_goals (go_ret; exact ⟨rfl, (HC.out _ hb2).2.2.2.2.2.2.2.2.2⟩)
  · have HFS : Hid (fs = []) := List.length_eq_zero_iff.1 (by omega)
    have e1 : decide (0 < (fs.length : Int)) = false := decide_eq_false (by omega)
    have e1' : decide (0 < fs.length) = false := decide_eq_false hr
    clear hr
    go_wp2_with (first | (go_at_call 9; (with_reducible refine (AW.out _ (Below.refl _ _)).mono ?_); rintro e w1 ⟨rfl, hb1⟩; obtain ⟨k0, k1, k2, k3, k4, k5, k6, _⟩ := HC.out _ hb1; have HB1 := Lib.hid hb1) | (go_at_call 10; (with_reducible refine (FW.out _ HB1.out).mono ?_); rintro e w2 (⟨rfl, hb2⟩ | ⟨rfl, hb2, hfew, k0, k1, k2, k3, k4, k5, k6, _⟩)))
    · go_ret
      exact ⟨rfl, (HC.out _ hb2).2.2.2.2.2.2.2.2.2⟩
    · refine (PU.out _ hb2 hfew).mono ?_
      clear hfew
      rintro e w3 (⟨c, hc0, rfl, hb3⟩ | ⟨l, hl, rfl, hb3⟩)
      · have r1 : ((c : Int) != 0) = true := by rw [bne, hc0]; rfl
        go_wp2_with (fail)
        go_ret
        exact ⟨rfl, (HC.out _ hb3).2.2.2.2.2.2.2.2.2⟩
      · obtain ⟨g17, g500⟩ := seals_len HFS.out hl
        obtain ⟨X, hX⟩ : ∃ X, X = bs l := ⟨_, rfl⟩
        obtain ⟨N, hN⟩ : ∃ N, N = l.length := ⟨_, rfl⟩
        have hXs : X.size = N := by rw [hX, bs_size, hN]
        have hXl : X.data.toList = l := by rw [hX, bs_list]
        rw [← hX]
        rw [← hN] at g17 g500
        have r1 : decide (500 < (N : Int)) = false := decide_eq_false (by omega)
        have r2 : decide (16 < (N : Int)) = true := decide_eq_true (by omega)
        have r3 : IntKind.i64.wrap (8 * (N : Int)) = 8 * (N : Int) := IntWalk.i64_in _ (by omega)
        have HX := Lib.hid hX
        have HN := Lib.hid hN
        have HL := Lib.hid hl
        have HB3 := Lib.hid hb3
        clear hX hN hl hb3
        by_cases hbit : 0 ≤ bit ∧ bit < 8 * N
        · obtain ⟨p, rfl⟩ : ∃ p : Nat, bit = p := ⟨bit.toNat, by omega⟩
          have c1 : decide ((p : Int) < 0) = false := decide_eq_false (by omega)
          have c2 : decide (8 * (N : Int) ≤ (p : Int)) = false := decide_eq_false (by omega)
          have hp : p < 8 * N := by omega
          have HP := Lib.hid hp
          obtain ⟨W1, cap', hconv, hbv0, hrow0⟩ := conv_any w3 X
          rw [hXs] at hconv
          go_wp2_with (fail)
          have hlen : X.data.toList.length = N := by rw [hXl, HN.out]
          obtain ⟨i1, j1, b1, d1, V1, hc1, hf1, ep1, eq1, ei1, ej1, el1, ex1, HV1, hrow1, hbe1⟩ := flip_facts hrow0 N hlen p hp
          have hbv1 := hbe1 w3 (Nat.le_refl _) hbv0
          clear hbe1
          go_region
          all_goals rw [HV1.out]
          clear hc1 hf1 eq1 ej1 el1 ex1
          have hback := back_any hrow1 N cap' (by simp only [Crc.flip_length]; exact hlen)
          go_wp2_with (fail)
          have HV1b : Hid (Below W.heap.size W V1) := HB3.out.trans (hbv1.mono HB3.out.size)
          have hfl : (Crc.flip l p).length = N := by rw [Crc.flip_length, HN.out]
          obtain ⟨N7, hN7⟩ : ∃ n, n = N - 7 := ⟨_, rfl⟩
          have w7 : IntKind.i64.wrap ((N : Int) - 7) = (N7 : Int) := by rw [IntWalk.i64_in _ (by omega)]; omega
          have hgr : ∀ {r : Bool × Hd × List Fd × Nat × Nat}, getR (Crc.flip l p) = .ok r → r.2.2.2.1 = 0 ∧ (i1 = N7 ∨ i1 = 14 ∨ i1 = 15) := fun hg => by
            have h := seals_law ⟨loc, fam, src, dst, sp, dp, fs⟩ HFS.out HL.out p (by rw [← HN.out]; exact hp) (getR_ok hg)
            rw [← HN.out] at h
            refine ⟨h.1, ?_⟩
            have h2 := h.2
            omega
          have SZ : Hid (∀ V, Calls Tryd.prog 16 #[.agg #[.bool false, .int .i64 0, .string ⟨#[]⟩, .string ⟨#[]⟩, .int .i64 0, .int .i64 0, .slice none 0 0], .agg #[.bool false, .int .i64 0, .string ⟨#[]⟩, .string ⟨#[]⟩, .int .i64 0, .int .i64 0, .slice none 0 0]] V fun e w' => e = .returned (.bool true) ∧ Below V.heap.size V w') := fun V => same_any false 0 [] [] 0 0 [] none none 0 0 V (FdIn.nil _ _) (FdIn.nil _ _) (by simp)
          refine (get_any ⟨(Crc.flip l p).toArray⟩ V1 (HC.out _ HV1b.out).2.2.2.2.2.2.2.1 (by show (Crc.flip l p).toArray.size ≤ _; rw [List.size_toArray, hfl]; omega)).mono ?_
          rintro e w5 ⟨hb5, h5⟩
          have HB5 : Hid (Below W.heap.size W w5) := HV1b.out.trans (hb5.mono HV1b.out.size)
          clear hb5 hbv0 hbv1 hconv hrow0 hrow1 hback
          rcases h5 with ⟨c, hc, rfl⟩ | ⟨lo, h, gs, aa, m, v, hg, rfl, hrow⟩
          · have hcn := getR_ne hc
            have z1 : ((c : Int) == 0) = false := by rw [beq_eq_false_iff_ne]; omega
            clear hc hcn hgr
            unfold zeroS
            go_wp2_with (fail)
            have hb9 := HB5.out.alloc HB5.out.size (.cells #[.bool false, .int .i64 0, .string ⟨#[]⟩, .string ⟨#[]⟩, .int .i64 0, .int .i64 0, .slice none 0 0] 24)
            refine (SZ.out _).mono ?_
            rintro e w10 ⟨rfl, hb10⟩
            have HB11 : Hid (Below W.heap.size W w10) := hb9.trans (hb10.mono hb9.size)
            clear hb9 hb10
            go_wp2_with (fail)
            go_ret
            exact ⟨rfl, (HC.out _ HB11.out).2.2.2.2.2.2.2.2.2⟩
          · obtain ⟨ha, hi⟩ := hgr hg
            obtain rfl : aa = 0 := ha
            obtain ⟨a', c', rfl, _⟩ := row_in hrow
            have z0 : decide (0 < 0) = false := rfl
            unfold streamV
            clear hg hrow hgr
            by_cases hi7 : i1 = N7
            · have z1 : ((i1 : Int) == (N7 : Int)) = true := by rw [beq_iff_eq]; omega
              have HH := Lib.hid hi7
              clear hi hi7 hN7
              go_wp2_with (fail)
              go_ret
              exact ⟨rfl, (HC.out _ (HB5.out.alloc HB5.out.size _)).2.2.2.2.2.2.2.2.2⟩
            · have z1 : ((i1 : Int) == (N7 : Int)) = false := by rw [beq_eq_false_iff_ne]; omega
              by_cases hi14 : i1 = 14
              · have z2 : ((i1 : Int) == 14) = true := by rw [beq_iff_eq]; omega
                clear hi hi7 hi14 hN7
                go_wp2_with (fail)
                go_ret
                exact ⟨rfl, (HC.out _ (HB5.out.alloc HB5.out.size _)).2.2.2.2.2.2.2.2.2⟩
              · have z2 : ((i1 : Int) == 14) = false := by rw [beq_eq_false_iff_ne]; omega
                have z3 : ((i1 : Int) == 15) = true := by rw [beq_iff_eq]; omega
                clear hi hi7 hi14 hN7
                go_wp2_with (fail)
                go_ret
                exact ⟨rfl, (HC.out _ (HB5.out.alloc HB5.out.size _)).2.2.2.2.2.2.2.2.2⟩
        · by_cases hneg : bit < 0
          · have c1 : decide (bit < 0) = true := decide_eq_true hneg
            clear hbit
            go_wp2_with (fail)
            go_ret
            exact ⟨rfl, (HC.out _ HB3.out).2.2.2.2.2.2.2.2.2⟩
          · have c1 : decide (bit < 0) = false := decide_eq_false hneg
            have c2 : decide (8 * (N : Int) ≤ bit) = true := decide_eq_true (by omega)
            clear hbit
            go_wp2_with (fail)
            go_ret
            exact ⟨rfl, (HC.out _ HB3.out).2.2.2.2.2.2.2.2.2⟩
end Go.Proofs.YtfagkmmenfeppaaDoor
