import Derived.Test.YtfagkmmenfeppaaDoorLawP
import Derived.Test.YtfagkmmenfeppaaDoorSame
/- VtwoLocal, walked. -/
namespace Go.Proofs.YtfagkmmenfeppaaDoor
set_option maxRecDepth 100000
open Go.RowKit
theorem few_or (s : Stm) (a : Option Addr) (cap : Nat) (w : World) (hin : FdIn w a s.fs) (hn : s.fs.length ≤ 9223372036854775807) (ho : s.src.length ≤ 9223372036854775807) (ho2 : s.dst.length ≤ 9223372036854775807) :
    Calls Tryd.prog 10 #[s.val a cap] w fun e w' => (e = .returned (.bool false) ∧ Below w.heap.size w w') ∨ (e = .returned (.bool true) ∧ Below w.heap.size w w' ∧ s.few) :=
  (few_any s a cap w hin hn ho ho2).mono fun e w' ⟨r, h1, h2, h3⟩ => by
    cases r with
    | false => exact .inl ⟨h1, h2⟩
    | true => exact .inr ⟨h1, h2, h3 rfl⟩
theorem fcells_at (fs : List Fd) : ∀ j (hj : j < fs.length), (fflat fs)[j * 2]? = some (.int .i64 fs[j].1) ∧ (fflat fs)[j * 2 + 1]? = some (.string (bs fs[j].2)) := by
  induction fs with
  | nil => intro j hj; simp at hj
  | cons f fs ih =>
    intro j hj
    cases j with
    | zero => exact ⟨rfl, rfl⟩
    | succ j =>
      have h := ih j (by simpa using hj)
      have e : fflat (f :: fs) = .int .i64 f.1 :: .string (bs f.2) :: fflat fs := rfl
      rw [e, show (j + 1) * 2 = j * 2 + 1 + 1 from by omega]
      simpa using h
theorem row_in {w : World} {base : Nat} {v : Value} {fs : List Fd} (h : w.ownsRow base 45 2 v fs.length (fflat fs)) :
    ∃ a cap, v = .slice a fs.length cap ∧ FdIn w a (fs.map castF) := by
  obtain ⟨hl, ⟨rfl, h0⟩ | ⟨g, cap, cur, rfl, hb, hg, h1, h2, h3, h4⟩⟩ := h
  · refine ⟨none, 0, by rw [h0], fun j hj => ?_⟩
    rw [List.length_map] at hj; omega
  · refine ⟨some ⟨g, 0, none⟩, cap, rfl, fun j hj => ?_⟩
    rw [List.length_map] at hj
    obtain ⟨q1, q2⟩ := fcells_at fs j hj
    rw [← h4, List.getElem?_take] at q1 q2
    rw [if_pos (by omega)] at q1 q2
    have c : ∀ i, w.cell? ⟨g, i, none⟩ = cur.toList[i]? := fun i => by rw [Lib.cell_of_heap hg]; simp
    have ea : ∀ n, (⟨g, 0, none⟩ : Addr).add n = ⟨g, n, none⟩ := fun n => by
      unfold Addr.add
      by_cases hn : n = 0
      · simp [hn]
      · simp [hn]
    refine ⟨_, rfl, ?_, ?_⟩
    · rw [ea]
      have := (c (j * 2)).trans q1
      simpa [castF] using this
    · rw [ea]
      have := (c (j * 2 + 1)).trans q2
      simpa [castF] using this
/-- what is told of a header whose command was made Local -/
theorem local_get (s : Stm) (f : Fam) (R : List UInt8) (hf : famN s.fam = some f) (hm : s.may f = true) (hT : (s.rest f).length < 65536) :
    getR (((frameB 33 f (s.rest f)).take 12 ++ [32]) ++ (frameB 33 f (s.rest f)).drop 13 ++ R) = .ok (true, (0, [], [], 0, 0), s.fs.map natF, 0, 16 + (s.rest f).length) := by
  have hy : ((frameB 33 f (s.rest f)).take 12 ++ [32]) ++ (frameB 33 f (s.rest f)).drop 13 = frameB 32 f (s.rest f) := by
    have e1 : (frameB 33 f (s.rest f)).take 12 = signL := by rw [frameB_eq]; exact List.take_left' rfl
    have e2 : (frameB 33 f (s.rest f)).drop 13 = be f.2.1 1 ++ (be (s.rest f).length 2 ++ s.rest f) := by
      rw [frameB_eq, ← List.append_assoc]; exact List.drop_left' rfl
    rw [e1, e2, frameB_eq, List.append_assoc]
    rfl
  have hm2 := famN_mem hf
  unfold getR
  rw [hy, getE_put 32 f (s.rest f) R (.inl rfl) hm2 hT, foll_rest s 32 f hm2 hm]
  rfl
theorem put_frame {s : Stm} {l : List UInt8} (hl : s.loc = false) (h : s.put false = .ok l) : ∃ f, famN s.fam = some f ∧ s.may f = true ∧ (s.rest f).length < 65536 ∧ l = frameB 33 f (s.rest f) := by
  unfold Stm.put at h
  by_cases hc : s.check false = 0
  · obtain ⟨f, hf, hm, ht⟩ := check_zero hc
    rw [if_pos hc, hf] at h
    have ht2 : s.tail false f = s.rest f := by unfold Stm.tail; simp
    rw [ht2] at ht
    refine ⟨f, hf, hm, by omega, ?_⟩
    injection h with h
    rw [← h]
    show s.bytes false f = _
    unfold Stm.bytes frameB Stm.cmd
    rw [ht2, hl]; rfl
  · rw [if_neg hc] at h; cases h
set_option maxHeartbeats 8000000 in
theorem local_walk (s : Stm) (a : Option Addr) (cap : Nat) (rest : ByteArray) (w : World) (hf : FamAt w) (hin : FdIn w a s.fs) (hn : s.fs.length ≤ 9223372036854775807) (hs : s.src.length ≤ 9223372036854775807) (hd : s.dst.length ≤ 9223372036854775807)
    (ht : ∀ x ∈ s.fs, x.2.length ≤ 9223372036854775807) : Calls Tryd.prog 7 #[s.val a cap, .string rest] w fun e w' => e = .returned (.bool true) ∧ Below w.heap.size w w' := by
  obtain ⟨loc, fam, src, dst, sp, dp, fs⟩ := s
  obtain ⟨W, hW⟩ : ∃ W, W = w.alloc (.cells #[.bool loc, .int .i64 fam, .string (bs src), .string (bs dst), .int .i64 sp, .int .i64 dp, .slice a fs.length cap] 24) := ⟨_, rfl⟩
  have hS : W.heap[w.heap.size]? = some (.cells #[.bool loc, .int .i64 fam, .string (bs src), .string (bs dst), .int .i64 sp, .int .i64 dp, .slice a fs.length cap] 24 (0, 0)) := by rw [hW]; exact alloc_new _ _
  have HB : Hid (Below w.heap.size w W) := by show Below _ _ _; rw [hW]; exact (Below.refl _ _).alloc (Nat.le_refl _) _
  have HWs : Hid (W.heap.size = w.heap.size + 1) := by show _ = _; rw [hW]; simp
  have HC : Hid (∀ V, Below W.heap.size W V → V.cell? ⟨w.heap.size, 0, none⟩ = some (.bool loc) ∧ V.cell? ⟨w.heap.size, 1, none⟩ = some (.int .i64 fam) ∧ V.cell? ⟨w.heap.size, 2, none⟩ = some (.string (bs src)) ∧ V.cell? ⟨w.heap.size, 3, none⟩ = some (.string (bs dst)) ∧ V.cell? ⟨w.heap.size, 4, none⟩ = some (.int .i64 sp) ∧ V.cell? ⟨w.heap.size, 5, none⟩ = some (.int .i64 dp) ∧ V.cell? ⟨w.heap.size, 6, none⟩ = some (.slice a fs.length cap) ∧ FamAt V ∧ FdIn V a fs ∧ Below w.heap.size w V) := fun V hV => by
    have h1 := (hV.block _ (heap_lt hS)).trans hS
    have hB := HB.out.trans (hV.mono HB.out.size)
    exact ⟨cellAt h1 rfl, cellAt h1 rfl, cellAt h1 rfl, cellAt h1 rfl, cellAt h1 rfl, cellAt h1 rfl, cellAt h1 rfl, hf.below hf.pos hB, hin.below hB, hB⟩
  have AW : Hid (∀ V, Below W.heap.size W V → Calls Tryd.prog 9 #[] V fun e w' => e = .returned (.bool true) ∧ Below W.heap.size W w') := fun V hV => (awake_any V (HC.out V hV).2.2.2.2.2.2.2.1).mono fun e w' h => ⟨h.1, hV.trans (h.2.mono hV.size)⟩
  have FW : Hid (∀ V, Below W.heap.size W V → Calls Tryd.prog 10 #[.agg #[.bool loc, .int .i64 fam, .string (bs src), .string (bs dst), .int .i64 sp, .int .i64 dp, .slice a fs.length cap]] V fun e w' => (e = .returned (.bool false) ∧ Below W.heap.size W w') ∨ (e = .returned (.bool true) ∧ Below W.heap.size W w' ∧ Stm.few ⟨loc, fam, src, dst, sp, dp, fs⟩ ∧ w'.cell? ⟨w.heap.size, 0, none⟩ = some (.bool loc) ∧ w'.cell? ⟨w.heap.size, 1, none⟩ = some (.int .i64 fam) ∧ w'.cell? ⟨w.heap.size, 2, none⟩ = some (.string (bs src)) ∧ w'.cell? ⟨w.heap.size, 3, none⟩ = some (.string (bs dst)) ∧ w'.cell? ⟨w.heap.size, 4, none⟩ = some (.int .i64 sp) ∧ w'.cell? ⟨w.heap.size, 5, none⟩ = some (.int .i64 dp) ∧ w'.cell? ⟨w.heap.size, 6, none⟩ = some (.slice a fs.length cap) ∧ FamAt w' ∧ FdIn w' a fs ∧ Below w.heap.size w w')) := fun V hV => (few_or ⟨loc, fam, src, dst, sp, dp, fs⟩ a cap V (HC.out V hV).2.2.2.2.2.2.2.2.1 hn hs hd).mono fun e w' h => by
    rcases h with ⟨h1, h2⟩ | ⟨h1, h2, h3⟩
    · exact .inl ⟨h1, hV.trans (h2.mono hV.size)⟩
    · exact .inr ⟨h1, hV.trans (h2.mono hV.size), h3, HC.out _ (hV.trans (h2.mono hV.size))⟩
  obtain ⟨k0, k1, k2, k3, k4, k5, k6, _⟩ := HC.out W (Below.refl _ _)
  have PU : Hid (∀ V, Below W.heap.size W V → Stm.few ⟨loc, fam, src, dst, sp, dp, fs⟩ → Calls Tryd.prog 11 #[.agg #[.bool loc, .int .i64 fam, .string (bs src), .string (bs dst), .int .i64 sp, .int .i64 dp, .slice a fs.length cap], .bool false] V fun e w' => (∃ c : Nat, ((c : Int) == 0) = false ∧ e = .returned (.tuple #[.string ⟨#[]⟩, .int .i64 c]) ∧ Below W.heap.size W w') ∨ (∃ l, Stm.put ⟨loc, fam, src, dst, sp, dp, fs⟩ false = .ok l ∧ e = .returned (.tuple #[.string (bs l), .int .i64 0]) ∧ Below W.heap.size W w')) := fun V hV hfew => (put_any ⟨loc, fam, src, dst, sp, dp, fs⟩ false a cap V (HC.out V hV).2.2.2.2.2.2.2.1 (HC.out V hV).2.2.2.2.2.2.2.2.1 ⟨by have := hfew.2.2; omega, hs, hd, ht⟩).mono fun e w' h => by
    obtain ⟨hb, ⟨c, hc, _, he⟩ | ⟨l, hl, he⟩⟩ := h
    · exact .inl ⟨c, by rw [beq_eq_false_iff_ne]; omega, he, hV.trans (hb.mono hV.size)⟩
    · exact .inr ⟨l, hl, he, hV.trans (hb.mono hV.size)⟩
  clear hS hf hin hn hs hd ht
  simp only [Stm.val]
  go_enter Tryd.func7, Tryd.ntmps7
  go_upto_region 1 with (fail)
  rw [← hW]
  clear hW
  have hov : Hid True := trivial
  obtain ⟨rn, hrn⟩ : ∃ n, n = rest.size := ⟨_, rfl⟩
  have hrn2 : rest.size = rn := hrn.symm
  clear hrn
  by_cases hr : 3000 < rn
  · have e1 : decide (3000 < (rn : Int)) = true := decide_eq_true (by omega)
    go_wp2_with (first | (go_at_call 9; (with_reducible refine (AW.out _ (Below.refl _ _)).mono ?_); rintro e w1 ⟨rfl, hb1⟩; obtain ⟨k0, k1, k2, k3, k4, k5, k6, _⟩ := HC.out _ hb1; have HB1 := Lib.hid hb1) | (go_at_call 10; (with_reducible refine (FW.out _ HB1.out).mono ?_); rintro e w2 (⟨rfl, hb2⟩ | ⟨rfl, hb2, hfew, k0, k1, k2, k3, k4, k5, k6, _⟩)))
    all_goals (go_ret; exact ⟨rfl, (HC.out _ hb2).2.2.2.2.2.2.2.2.2⟩)
  · have e1 : decide (3000 < (rn : Int)) = false := decide_eq_false (by omega)
    cases loc with
    | true =>
      go_wp2_with (first | (go_at_call 9; (with_reducible refine (AW.out _ (Below.refl _ _)).mono ?_); rintro e w1 ⟨rfl, hb1⟩; obtain ⟨k0, k1, k2, k3, k4, k5, k6, _⟩ := HC.out _ hb1; have HB1 := Lib.hid hb1) | (go_at_call 10; (with_reducible refine (FW.out _ HB1.out).mono ?_); rintro e w2 (⟨rfl, hb2⟩ | ⟨rfl, hb2, hfew, k0, k1, k2, k3, k4, k5, k6, _⟩)))
      all_goals (go_ret; exact ⟨rfl, (HC.out _ hb2).2.2.2.2.2.2.2.2.2⟩)
    | false =>
      go_wp2_with (first | (go_at_call 9; (with_reducible refine (AW.out _ (Below.refl _ _)).mono ?_); rintro e w1 ⟨rfl, hb1⟩; obtain ⟨k0, k1, k2, k3, k4, k5, k6, _⟩ := HC.out _ hb1; have HB1 := Lib.hid hb1) | (go_at_call 10; (with_reducible refine (FW.out _ HB1.out).mono ?_); rintro e w2 (⟨rfl, hb2⟩ | ⟨rfl, hb2, hfew, k0, k1, k2, k3, k4, k5, k6, _⟩)))
      · go_ret
        exact ⟨rfl, (HC.out _ hb2).2.2.2.2.2.2.2.2.2⟩
      · have HFW := Lib.hid hfew
        refine (PU.out _ hb2 hfew).mono ?_
        clear hfew
        rintro e w3 (⟨c, hc0, rfl, hb3⟩ | ⟨l, hl, rfl, hb3⟩)
        · go_wp2_with (fail)
          go_ret
          exact ⟨rfl, (HC.out _ hb3).2.2.2.2.2.2.2.2.2⟩
        · obtain ⟨f, hfn, hm, hT, hle⟩ := put_frame rfl hl
          obtain ⟨T, hTe⟩ : ∃ T, T = Stm.rest ⟨false, fam, src, dst, sp, dp, fs⟩ f := ⟨_, rfl⟩
          obtain ⟨tn, htn⟩ : ∃ tn, tn = T.length := ⟨_, rfl⟩
          have hlen : (bs l).size = 16 + tn := by rw [bs_size, hle, frameB_len, ← hTe, ← htn]
          have htn2 : tn < 65536 := by rw [htn, hTe]; exact hT
          have LG := Lib.hid (local_get ⟨false, fam, src, dst, sp, dp, fs⟩ f rest.data.toList hfn hm hT)
          rw [← hle, ← hTe, ← htn] at LG
          obtain ⟨N, hN⟩ : ∃ N, N = 16 + tn := ⟨_, rfl⟩
          rw [← hN] at hlen LG
          have HM := Lib.hid hm
          have g1 : (12 : Int) ≤ (N : Int) := by omega
          have g2 : (13 : Int) ≤ (N : Int) := by omega
          have g3 : 12 ≤ N := by omega
          have g4 : 13 ≤ N := by omega
          have HN := Lib.hid hN
          have g5 : (N : Int) ≤ (N : Int) := by omega
          have g6 : N ≤ N := Nat.le_refl _
          have hov1 : ¬ 9223372036854775807 < ((bs l).extract 0 12).size + 1 := by rw [ByteArray.size_extract]; omega
          have hov2 : ¬ 9223372036854775807 < ((bs l).extract 0 12 ++ ⟨#[32]⟩).size + ((bs l).extract 13 N).size := by rw [ByteArray.size_append, ByteArray.size_extract, ByteArray.size_extract]; have : (⟨#[32]⟩ : ByteArray).size = 1 := rfl; omega
          have hov3 : ¬ 9223372036854775807 < ((bs l).extract 0 12).size + 1 + ((bs l).extract 13 N).size := by rw [ByteArray.size_extract, ByteArray.size_extract]; omega
          have hst : ∀ wx, (Op.stringOp .add ((bs l).extract 0 12 ++ ⟨#[32]⟩) ((bs l).extract 13 N)).run Tryd.prog wx = .ok (.string ((bs l).extract 0 12 ++ ⟨#[32]⟩ ++ (bs l).extract 13 N)) wx := fun wx => run_string_add_sum wx _ _ (Nat.le_of_not_lt hov2)
          obtain ⟨Y, hYe⟩ : ∃ Y, Y = (bs l).extract 0 12 ++ ⟨#[32]⟩ ++ (bs l).extract 13 N := ⟨_, rfl⟩
          have hYs : Y.size + rest.size ≤ 1000000 := by
            rw [hYe, ByteArray.size_append, ByteArray.size_append, ByteArray.size_extract, ByteArray.size_extract]
            have : (⟨#[32]⟩ : ByteArray).size = 1 := rfl
            omega
          have hYl : (Y ++ rest).data.toList = (l.take 12 ++ [32]) ++ l.drop 13 ++ rest.data.toList := by
            have hll : l.length = N := by rw [← hlen, bs_size]
            rw [hYe, bs_extract, bs_extract]
            simp only [ByteArray.data_append, Array.toList_append, bs_list, List.drop_zero, Nat.sub_zero]
            rw [List.take_of_length_le (l := l.drop 13) (by simp; omega)]
          have hst2 : ∀ wx, (Op.stringOp .add Y rest).run Tryd.prog wx = .ok (.string (Y ++ rest)) wx := fun wx => run_string_add_sum wx _ _ (by omega)
          rw [← hYe] at hst
          have hff : (fs.map natF).map castF = fs := cast_nat (fun x hx => ((may_facts hm).2.2.2.2.2.2 x hx).1)
          have GT : Hid (∀ V, Below W.heap.size W V → Calls Tryd.prog 13 #[.string (Y ++ rest)] V fun e w' => ∃ a' c', e = .returned (.tuple #[.agg #[.bool true, .int .i64 0, .string ⟨#[]⟩, .string ⟨#[]⟩, .int .i64 0, .int .i64 0, .slice a' fs.length c'], .bool false, .int .i64 (N : Int), .int .i64 0]) ∧ Below W.heap.size W w' ∧ FdIn w' a' fs ∧ (∀ o, (w'.alloc o).cell? ⟨w.heap.size, 6, none⟩ = some (.slice a fs.length cap))) := fun V hV => (get_any (Y ++ rest) V (HC.out V hV).2.2.2.2.2.2.2.1 (by rw [ByteArray.size_append]; exact hYs)).mono fun e w' h => by
            obtain ⟨hb, ⟨c, hc, _⟩ | ⟨lo, h, gs, aa, m, v, hg, he, hrow⟩⟩ := h
            · rw [hYl, LG.out] at hc; cases hc
            · rw [hYl, LG.out] at hg
              cases hg
              obtain ⟨a', c', rfl, hfd⟩ := row_in hrow
              rw [hff] at hfd
              rw [List.length_map] at he
              have hbb := hV.trans (hb.mono hV.size)
              exact ⟨a', c', he, hbb, hfd, fun o => (HC.out _ (hbb.alloc hbb.size o)).2.2.2.2.2.2.1⟩
          have SM : Hid (∀ a' c' V, FdIn V a' fs → FdIn V a fs → Calls Tryd.prog 16 #[.agg #[.bool true, .int .i64 0, .string ⟨#[]⟩, .string ⟨#[]⟩, .int .i64 0, .int .i64 0, .slice a' fs.length c'], .agg #[.bool true, .int .i64 0, .string ⟨#[]⟩, .string ⟨#[]⟩, .int .i64 0, .int .i64 0, .slice a fs.length cap]] V fun e w' => e = .returned (.bool true) ∧ Below V.heap.size V w') := fun a' c' V h1 h2 => same_any true 0 [] [] 0 0 fs a' a c' cap V h1 h2 (by have := HFW.out.2.2; show fs.length ≤ _; have : fs.length ≤ 100 := this; omega)
          have HB3 := Lib.hid hb3
          clear hl hle hTe htn hm hfn hN hYe hYs hYl hff LG hb3
          go_wp2_with (fail)
          go_region_held3 (fun _ => True) (exact trivial) (fail)
          simp only [Exit.then]
          have HB3d : Hid (Below W.heap.size W w3.drew) := ⟨HB3.out.os, HB3.out.tape, HB3.out.output, HB3.out.size, HB3.out.block⟩
          go_wp2_with (first | (go_at_call 13; (with_reducible refine (GT.out _ HB3d.out).mono ?_); rintro e w4 ⟨a', c', rfl, hb4, hfd, k6⟩))
          have hal := (Below.refl w4.heap.size w4).alloc (Nat.le_refl _) (.cells #[.bool true, .int .i64 0, .string ⟨#[]⟩, .string ⟨#[]⟩, .int .i64 0, .int .i64 0, .slice a' fs.length c'] 24)
          have hb5 := hb4.alloc hb4.size (.cells #[.bool true, .int .i64 0, .string ⟨#[]⟩, .string ⟨#[]⟩, .int .i64 0, .int .i64 0, .slice a' fs.length c'] 24)
          refine (SM.out a' c' _ (hfd.below hal) (HC.out _ hb5).2.2.2.2.2.2.2.2.1).mono ?_
          rintro e w6 ⟨rfl, hb6⟩
          have hb7 := hb5.trans (hb6.mono hb5.size)
          have HB7 := Lib.hid (HC.out _ hb7).2.2.2.2.2.2.2.2.2
          clear hal hb5 hb6 hb7
          go_wp2_with (fail)
          go_ret
          exact ⟨rfl, HB7.out⟩
end Go.Proofs.YtfagkmmenfeppaaDoor
