import Derived.Test.YtfagkmmenfeppaaDoorBackP
/- VtwoBack, walked. -/
namespace Go.Proofs.YtfagkmmenfeppaaDoor
set_option maxRecDepth 100000
open Go.RowKit
theorem put_len {s : Stm} {sl : Bool} {l : List UInt8} (h : s.put sl = .ok l) : l.length ≤ 65551 := by
  obtain ⟨f, T, at', hf, hm, hT, rfl, _⟩ := put_all h
  rw [frameB_len]; omega
theorem put_cast {s : Stm} {sl : Bool} {l : List UInt8} (h : s.put sl = .ok l) : (s.fs.map natF).map castF = s.fs := by
  obtain ⟨f, T, at', hf, hm, hT, rfl, _⟩ := put_all h
  exact cast_nat (fun x hx => ((may_facts hm).2.2.2.2.2.2 x hx).1)
set_option maxHeartbeats 8000000 in
theorem back_walk (s : Stm) (a : Option Addr) (cap : Nat) (sl : Bool) (rest : ByteArray) (cut : Int) (w : World) (hf : FamAt w) (hin : FdIn w a s.fs) (hn : s.fs.length ≤ 9223372036854775807) (hs : s.src.length ≤ 9223372036854775807) (hd : s.dst.length ≤ 9223372036854775807)
    (ht : ∀ x ∈ s.fs, x.2.length ≤ 9223372036854775807) : Calls Tryd.prog 4 #[s.val a cap, .bool sl, .string rest, .int .i64 cut] w fun e w' => e = .returned (.bool true) ∧ Below w.heap.size w w' := by
  obtain ⟨loc, fam, src, dst, sp, dp, fs⟩ := s
  obtain ⟨W, hW⟩ : ∃ W, W = w.alloc (.cells #[.bool loc, .int .i64 fam, .string (bs src), .string (bs dst), .int .i64 sp, .int .i64 dp, .slice a fs.length cap] 24) := ⟨_, rfl⟩
  have hS : W.heap[w.heap.size]? = some (.cells #[.bool loc, .int .i64 fam, .string (bs src), .string (bs dst), .int .i64 sp, .int .i64 dp, .slice a fs.length cap] 24 (0, 0)) := by rw [hW]; exact alloc_new _ _
  have HB : Hid (Below w.heap.size w W) := by show Below _ _ _; rw [hW]; exact (Below.refl _ _).alloc (Nat.le_refl _) _
  have HWs : Hid (W.heap.size = w.heap.size + 1) := by show _ = _; rw [hW]; simp
  have HC : Hid (∀ V, Below W.heap.size W V → V.cell? ⟨w.heap.size, 0, none⟩ = some (.bool loc) ∧ V.cell? ⟨w.heap.size, 1, none⟩ = some (.int .i64 fam) ∧ V.cell? ⟨w.heap.size, 2, none⟩ = some (.string (bs src)) ∧ V.cell? ⟨w.heap.size, 3, none⟩ = some (.string (bs dst)) ∧ V.cell? ⟨w.heap.size, 4, none⟩ = some (.int .i64 sp) ∧ V.cell? ⟨w.heap.size, 5, none⟩ = some (.int .i64 dp) ∧ V.cell? ⟨w.heap.size, 6, none⟩ = some (.slice a fs.length cap) ∧ FamAt V ∧ FdIn V a fs ∧ Below w.heap.size w V) := fun V hV => by
    have h1 := (hV.block _ (heap_lt hS)).trans hS
    have hB := HB.out.trans (hV.mono HB.out.size)
    exact ⟨cellAt h1 rfl, cellAt h1 rfl, cellAt h1 rfl, cellAt h1 rfl, cellAt h1 rfl, cellAt h1 rfl, cellAt h1 rfl, hf.below hf.pos hB, hin.below hB, hB⟩
  have AW : Hid (∀ V, Below W.heap.size W V → Calls Tryd.prog 9 #[] V fun e w' => e = .returned (.bool true) ∧ Below W.heap.size W w') := fun V hV => (awake_any V (HC.out V hV).2.2.2.2.2.2.2.1).mono fun e w' h => ⟨h.1, hV.trans (h.2.mono hV.size)⟩
  have FW : Hid (∀ V, Below W.heap.size W V → Calls Tryd.prog 10 #[.agg #[.bool loc, .int .i64 fam, .string (bs src), .string (bs dst), .int .i64 sp, .int .i64 dp, .slice a fs.length cap]] V fun e w' => (e = .returned (.bool false) ∧ Below W.heap.size W w') ∨ (e = .returned (.bool true) ∧ Below W.heap.size W w' ∧ Stm.few ⟨loc, fam, src, dst, sp, dp, fs⟩ ∧ w'.cell? ⟨w.heap.size, 0, none⟩ = some (.bool loc) ∧ w'.cell? ⟨w.heap.size, 1, none⟩ = some (.int .i64 fam) ∧ w'.cell? ⟨w.heap.size, 2, none⟩ = some (.string (bs src)) ∧ w'.cell? ⟨w.heap.size, 3, none⟩ = some (.string (bs dst)) ∧ w'.cell? ⟨w.heap.size, 4, none⟩ = some (.int .i64 sp) ∧ w'.cell? ⟨w.heap.size, 5, none⟩ = some (.int .i64 dp) ∧ w'.cell? ⟨w.heap.size, 6, none⟩ = some (.slice a fs.length cap) ∧ FamAt w' ∧ FdIn w' a fs ∧ Below w.heap.size w w')) := fun V hV => (few_or ⟨loc, fam, src, dst, sp, dp, fs⟩ a cap V (HC.out V hV).2.2.2.2.2.2.2.2.1 hn hs hd).mono fun e w' h => by
    rcases h with ⟨h1, h2⟩ | ⟨h1, h2, h3⟩
    · exact .inl ⟨h1, hV.trans (h2.mono hV.size)⟩
    · exact .inr ⟨h1, hV.trans (h2.mono hV.size), h3, HC.out _ (hV.trans (h2.mono hV.size))⟩
  obtain ⟨k0, k1, k2, k3, k4, k5, k6, _⟩ := HC.out W (Below.refl _ _)
  have PU : Hid (∀ V, Below W.heap.size W V → Stm.few ⟨loc, fam, src, dst, sp, dp, fs⟩ → Calls Tryd.prog 11 #[.agg #[.bool loc, .int .i64 fam, .string (bs src), .string (bs dst), .int .i64 sp, .int .i64 dp, .slice a fs.length cap], .bool sl] V fun e w' => (∃ c : Nat, ((c : Int) == 0) = false ∧ e = .returned (.tuple #[.string ⟨#[]⟩, .int .i64 c]) ∧ Below W.heap.size W w') ∨ (∃ l, Stm.put ⟨loc, fam, src, dst, sp, dp, fs⟩ sl = .ok l ∧ e = .returned (.tuple #[.string (bs l), .int .i64 0]) ∧ Below W.heap.size W w')) := fun V hV hfew => (put_any ⟨loc, fam, src, dst, sp, dp, fs⟩ sl a cap V (HC.out V hV).2.2.2.2.2.2.2.1 (HC.out V hV).2.2.2.2.2.2.2.2.1 ⟨by have := hfew.2.2; omega, hs, hd, ht⟩).mono fun e w' h => by
    obtain ⟨hb, ⟨c, hc, _, he⟩ | ⟨l, hl, he⟩⟩ := h
    · exact .inl ⟨c, by rw [beq_eq_false_iff_ne]; omega, he, hV.trans (hb.mono hV.size)⟩
    · exact .inr ⟨l, hl, he, hV.trans (hb.mono hV.size)⟩
  clear hS hf hin hn hs hd ht
  simp only [Stm.val]
  go_enter Tryd.func4, Tryd.ntmps4
  go_upto_region 1 with (fail)
  rw [← hW]
  clear hW
  obtain ⟨rn, hrn⟩ : ∃ n, n = rest.size := ⟨_, rfl⟩
  have hrn2 : rest.size = rn := hrn.symm
  clear hrn
  by_cases hr : 3000 < rn
  · have e1 : decide (3000 < (rn : Int)) = true := decide_eq_true (by omega)
    go_wp2_with (first | (go_at_call 9; (with_reducible refine (AW.out _ (Below.refl _ _)).mono ?_); rintro e w1 ⟨rfl, hb1⟩; obtain ⟨k0, k1, k2, k3, k4, k5, k6, _⟩ := HC.out _ hb1; have HB1 := Lib.hid hb1) | (go_at_call 10; (with_reducible refine (FW.out _ HB1.out).mono ?_); rintro e w2 (⟨rfl, hb2⟩ | ⟨rfl, hb2, hfew, k0, k1, k2, k3, k4, k5, k6, _⟩)))
    all_goals (go_ret; exact ⟨rfl, (HC.out _ hb2).2.2.2.2.2.2.2.2.2⟩)
  · have e1 : decide (3000 < (rn : Int)) = false := decide_eq_false (by omega)
    go_wp2_with (first | (go_at_call 9; (with_reducible refine (AW.out _ (Below.refl _ _)).mono ?_); rintro e w1 ⟨rfl, hb1⟩; obtain ⟨k0, k1, k2, k3, k4, k5, k6, _⟩ := HC.out _ hb1; have HB1 := Lib.hid hb1) | (go_at_call 10; (with_reducible refine (FW.out _ HB1.out).mono ?_); rintro e w2 (⟨rfl, hb2⟩ | ⟨rfl, hb2, hfew, k0, k1, k2, k3, k4, k5, k6, _⟩)))
    · go_ret
      exact ⟨rfl, (HC.out _ hb2).2.2.2.2.2.2.2.2.2⟩
    · have HFW := Lib.hid hfew
      refine (PU.out _ hb2 hfew).mono ?_
      clear hfew
      rintro e w3 (⟨c, hc0, rfl, hb3⟩ | ⟨l, hl, rfl, hb3⟩)
      · go_wp2_with (fail)
        go_ret
        exact ⟨rfl, (HC.out _ hb3).2.2.2.2.2.2.2.2.2⟩
      · have hl2 := put_len hl
        have hff := put_cast hl
        have hcu := back_cut hl
        obtain ⟨h, at', hG, hat, q1, q2, q3, q4, q5⟩ := back_get hl rest.data.toList
        obtain ⟨X, hX⟩ : ∃ X, X = bs l := ⟨_, rfl⟩
        obtain ⟨N, hN⟩ : ∃ N, N = l.length := ⟨_, rfl⟩
        have hXs : X.size = N := by rw [hX, bs_size, hN]
        rw [← hX]
        rw [← hN] at hl2 hG hcu
        have hXl : (X ++ rest).data.toList = l ++ rest.data.toList := by rw [hX]; simp only [ByteArray.data_append, Array.toList_append, bs_list]
        have hst : ∀ wx, (Op.stringOp .add X rest).run Tryd.prog wx = .ok (.string (X ++ rest)) wx := fun wx => run_string_add_sum wx _ _ (by omega)
        have GT : Hid (∀ V, Below W.heap.size W V → Calls Tryd.prog 13 #[.string (X ++ rest)] V fun e w' => ∃ a' c', e = .returned (.tuple #[.agg #[.bool loc, .int .i64 fam, .string (bs src), .string (bs dst), .int .i64 sp, .int .i64 dp, .slice a' fs.length c'], .bool sl, .int .i64 (N : Int), .int .i64 0]) ∧ Below W.heap.size W w' ∧ FdIn w' a' fs ∧ (∀ o, (w'.alloc o).cell? ⟨w.heap.size, 0, none⟩ = some (.bool loc) ∧ (w'.alloc o).cell? ⟨w.heap.size, 1, none⟩ = some (.int .i64 fam) ∧ (w'.alloc o).cell? ⟨w.heap.size, 2, none⟩ = some (.string (bs src)) ∧ (w'.alloc o).cell? ⟨w.heap.size, 3, none⟩ = some (.string (bs dst)) ∧ (w'.alloc o).cell? ⟨w.heap.size, 4, none⟩ = some (.int .i64 sp) ∧ (w'.alloc o).cell? ⟨w.heap.size, 5, none⟩ = some (.int .i64 dp) ∧ (w'.alloc o).cell? ⟨w.heap.size, 6, none⟩ = some (.slice a fs.length cap))) := fun V hV => (get_any (X ++ rest) V (HC.out V hV).2.2.2.2.2.2.2.1 (by rw [ByteArray.size_append]; omega)).mono fun e w' h => by
          obtain ⟨hb, ⟨c, hc, _⟩ | ⟨lo, h, gs, aa, m, v, hg, he, hrow⟩⟩ := h
          · rw [hXl, hG] at hc; cases hc
          · rw [hXl, hG] at hg
            cases hg
            obtain ⟨a', c', rfl, hfd⟩ := row_in hrow
            rw [hff] at hfd
            rw [List.length_map] at he
            unfold streamV at he
            rw [q1, q2, q3, q4, q5, hat] at he
            have hbb := hV.trans (hb.mono hV.size)
            refine ⟨a', c', he, hbb, hfd, fun o => ?_⟩
            obtain ⟨c0, c1, c2, c3, c4, c5, c6, _⟩ := HC.out _ (hbb.alloc hbb.size o)
            exact ⟨c0, c1, c2, c3, c4, c5, c6⟩
        have GE : Hid (∀ k V, k < N → Below W.heap.size W V → Calls Tryd.prog 13 #[.string (X.extract 0 k)] V fun e w' => e = .returned (.tuple #[zeroS, .bool false, .int .i64 0, .int .i64 10]) ∧ Below W.heap.size W w') := fun k V hk hV => (get_any (X.extract 0 k) V (HC.out V hV).2.2.2.2.2.2.2.1 (by rw [ByteArray.size_extract]; omega)).mono fun e w' h => by
          have hE : (X.extract 0 k).data.toList = l.take k := by rw [hX, bs_extract, bs_list, List.drop_zero, Nat.sub_zero]
          obtain ⟨hb, ⟨c, hc, he⟩ | ⟨lo, h, gs, aa, m, v, hg, he, hrow⟩⟩ := h
          · rw [hE, hcu k hk] at hc
            cases hc
            exact ⟨he, hV.trans (hb.mono hV.size)⟩
          · rw [hE, hcu k hk] at hg; cases hg
        have SM : Hid (∀ a' c' V, FdIn V a' fs → FdIn V a fs → Calls Tryd.prog 16 #[.agg #[.bool loc, .int .i64 fam, .string (bs src), .string (bs dst), .int .i64 sp, .int .i64 dp, .slice a' fs.length c'], .agg #[.bool loc, .int .i64 fam, .string (bs src), .string (bs dst), .int .i64 sp, .int .i64 dp, .slice a fs.length cap]] V fun e w' => e = .returned (.bool true) ∧ Below V.heap.size V w') := fun a' c' V h1 h2 => same_any loc fam src dst sp dp fs a' a c' cap V h1 h2 (by have : fs.length ≤ 100 := HFW.out.2.2; omega)
        have SZ : Hid (∀ V, Calls Tryd.prog 16 #[.agg #[.bool false, .int .i64 0, .string ⟨#[]⟩, .string ⟨#[]⟩, .int .i64 0, .int .i64 0, .slice none 0 0], .agg #[.bool false, .int .i64 0, .string ⟨#[]⟩, .string ⟨#[]⟩, .int .i64 0, .int .i64 0, .slice none 0 0]] V fun e w' => e = .returned (.bool true) ∧ Below V.heap.size V w') := fun V => same_any false 0 [] [] 0 0 [] none none 0 0 V (FdIn.nil _ _) (FdIn.nil _ _) (by simp)
        have HB3 := Lib.hid hb3
        have es : (sl != sl) = false := by cases sl <;> rfl
        have es2 : (sl == sl) = true := by cases sl <;> rfl
        have HL2 := Lib.hid hl2
        clear hl hN hX hXl hff hG hcu hat q1 q2 q3 q4 q5 hb3 hl2
        have hnn : ((N : Int) == N) = true := beq_self_eq_true _
        go_wp2_with (first | (go_at_call 13; (with_reducible refine (GT.out _ HB3.out).mono ?_); rintro e w4 ⟨a', c', rfl, hb4, hfd, k7⟩; have HB4 := Lib.hid hb4; have HFD := Lib.hid hfd; clear hb4 hfd))
        have hal := (Below.refl w4.heap.size w4).alloc (Nat.le_refl _) (.cells #[.bool loc, .int .i64 fam, .string (bs src), .string (bs dst), .int .i64 sp, .int .i64 dp, .slice a' fs.length c'] 24)
        have hb5 := HB4.out.alloc HB4.out.size (.cells #[.bool loc, .int .i64 fam, .string (bs src), .string (bs dst), .int .i64 sp, .int .i64 dp, .slice a' fs.length c'] 24)
        refine (SM.out a' c' _ (HFD.out.below hal) (HC.out _ hb5).2.2.2.2.2.2.2.2.1).mono ?_
        rintro e w6 ⟨rfl, hb6⟩
        have HB7 : Hid (Below W.heap.size W w6) := hb5.trans (hb6.mono hb5.size)
        clear hal hb5 hb6 k7
        by_cases hcut : 0 ≤ cut ∧ cut < N
        · obtain ⟨k, rfl⟩ : ∃ k : Nat, cut = k := ⟨cut.toNat, by omega⟩
          have hk : k < N := by omega
          have c1 : decide ((k : Int) < 0) = false := decide_eq_false (by omega)
          have c2 : decide ((N : Int) ≤ (k : Int)) = false := decide_eq_false (by omega)
          have c3 : decide (N ≤ k) = false := decide_eq_false (by omega)
          have c4 : (0 : Int) ≤ (k : Int) := by omega
          have c5 : (k : Int) ≤ (N : Int) := by omega
          have c6 : k ≤ N := by omega
          have c7 : (k : Int).toNat = k := by omega
          have HK := Lib.hid hk
          clear hcut hk
          go_wp2_with (fail)
          have GE2 := Lib.hid (GE.out k w6 HK.out HB7.out)
          unfold zeroS at GE2
          refine GE2.out.mono ?_
          rintro e w8 ⟨rfl, hb8⟩
          have HB8 := Lib.hid hb8
          clear hb8
          go_wp2_with (fail)
          have hb9 := HB8.out.alloc HB8.out.size (.cells #[.bool false, .int .i64 0, .string ⟨#[]⟩, .string ⟨#[]⟩, .int .i64 0, .int .i64 0, .slice none 0 0] 24)
          refine (SZ.out _).mono ?_
          rintro e w10 ⟨rfl, hb10⟩
          have HB11 : Hid (Below W.heap.size W w10) := hb9.trans (hb10.mono hb9.size)
          clear hb9 hb10
          go_wp2_with (fail)
          go_ret
          exact ⟨rfl, (HC.out _ HB11.out).2.2.2.2.2.2.2.2.2⟩
        · by_cases hneg : cut < 0
          · have c1 : decide (cut < 0) = true := decide_eq_true hneg
            clear hcut
            go_wp2_with (fail)
            go_ret
            exact ⟨rfl, (HC.out _ HB7.out).2.2.2.2.2.2.2.2.2⟩
          · have c1 : decide (cut < 0) = false := decide_eq_false hneg
            have c2 : decide ((N : Int) ≤ cut) = true := decide_eq_true (by omega)
            clear hcut
            go_wp2_with (fail)
            go_ret
            exact ⟨rfl, (HC.out _ HB7.out).2.2.2.2.2.2.2.2.2⟩
end Go.Proofs.YtfagkmmenfeppaaDoor
