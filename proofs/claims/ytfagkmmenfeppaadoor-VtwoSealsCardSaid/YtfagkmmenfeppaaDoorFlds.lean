import Derived.Test.YtfagkmmenfeppaaDoorCopy
import Derived.Test.YtfagkmmenfeppaaDoorFldsP
/- VtwoFields, walked. -/
namespace Go.Proofs.YtfagkmmenfeppaaDoor
set_option maxRecDepth 100000
open Go.RowKit
theorem irow_in {w : World} {B : Nat} {v : Value} {l : List Fi} (h : w.ownsRow B 45 2 v l.length (iflat l)) : ∃ a cap, v = .slice a l.length cap ∧ FdIn w a l := by
  obtain ⟨hl, ⟨rfl, h0⟩ | ⟨g, cap, cur, rfl, hb, hg, h1, h2, h3, h4⟩⟩ := h
  · exact ⟨none, 0, by rw [h0], fun j hj => by omega⟩
  · refine ⟨some ⟨g, 0, none⟩, cap, rfl, fun j hj => ?_⟩
    obtain ⟨q1, q2⟩ := iflat_get l j hj
    rw [← h4, List.getElem?_take] at q1 q2
    rw [if_pos (by omega)] at q1 q2
    have c : ∀ i, w.cell? ⟨g, i, none⟩ = cur.toList[i]? := fun i => by rw [Lib.cell_of_heap hg]; simp
    have ea : ∀ n, (⟨g, 0, none⟩ : Addr).add n = ⟨g, n, none⟩ := fun n => by unfold Addr.add; split <;> simp_all
    refine ⟨_, rfl, ?_, ?_⟩
    · rw [ea]; exact (c (j * 2)).trans q1
    · rw [ea]; exact (c (j * 2 + 1)).trans q2
theorem ASt.store {B M : Nat} {w0 w : World} {v : Value} {l : List Fi} (h : ASt B w0 v l w) (hM : M < B) (x : Value) : (w.setCell ⟨M, 6, none⟩ x).ownsRow B 45 2 v l.length (iflat l) :=
  row_save h.row ((Save.refl [M] _).set (.inl (by simp)) _) (fun k hk => by simp at hk; omega)
theorem ASt.fresh' {B g : Nat} {w0 w : World} (hg : g = w.heap.size) (hb : Below B w0 w) (hB : B ≤ w.heap.size) : ASt B w0 (.slice (some ⟨g, 0, none⟩) 0 0) [] (w.alloc (.cells #[] 45)) := by subst hg; exact ASt.fresh hb hB
theorem wpList_append_ok {P : Program} {w : World} {ops : Array Oper} {rest : List Oper} {o : Oper} {a : Act} {Q : Exit → Act → World → Prop} (hgd : o.guard = none) (sl x : Operand) (t : TypeId)
    (ho : o.op = .call { callee := .builtin .append, args := #[sl, x], argTypes := #[t, t] }) (v0 x0 v' : Value) (w' : World) (hs : a.eval sl = v0) (hx : a.eval x = x0)
    (hr : (Builtin.append_ #[t, t] o.type #[v0, x0]).run P w = .ok v' w') (h : wpList P ops Q rest (a.put o.dst v') w') : wpList P ops Q (o :: rest) a w := by
  refine wpList_plain hgd fun K hK => ?_
  unfold Oper.wp execOp
  simp only [ho, resolve, invoke, builtin, Sem.run_bind, Sem.run_pure, Result.andThen_ok, List.map_toArray, List.map_cons, List.map_nil, hs, hx, hr]
  exact hK _ _ h
theorem below_set {B : Nat} {w0 w : World} (h : Below B w0 w) {M : Nat} (hM : B ≤ M) (i : Nat) (v : Value) : Below B w0 (w.setCell ⟨M, i, none⟩ v) :=
  ⟨h.os, h.tape, h.output, by simpa [World.setCell] using h.size, fun k hk => (Below.heap_setCell _ _ _ _ (by show k ≠ M; omega)).trans (h.block k hk)⟩
set_option maxHeartbeats 8000000 in
theorem fields_walk (s : Stm) (a : Option Addr) (cap : Nat) (kind : Int) (text : ByteArray) (w : World) (hf : FamAt w) (hin : FdIn w a s.fs) (hn : s.fs.length ≤ 9223372036854775807) (hs : s.src.length ≤ 9223372036854775807) (hd : s.dst.length ≤ 9223372036854775807)
    (ht : ∀ x ∈ s.fs, x.2.length ≤ 9223372036854775807) (hkw : (Lit.int .u8 kind).wf = true) : Calls Tryd.prog 8 #[s.val a cap, .int .u8 kind, .string text] w fun e w' => e = .returned (.bool true) ∧ Below w.heap.size w w' := by
  obtain ⟨loc, fam, src, dst, sp, dp, fs⟩ := s
  obtain ⟨tx, rfl⟩ : ∃ tx, text = bs tx := ⟨text.data.toList, (bs_of _).symm⟩
  have hk0 : 0 ≤ kind ∧ kind ≤ 255 := by
    have hmin : IntKind.u8.min = 0 := rfl
    have hmax : IntKind.u8.max = 255 := rfl
    simp only [Lit.wf, Bool.and_eq_true, decide_eq_true_eq] at hkw
    omega
  obtain ⟨W, hW⟩ : ∃ W, W = w.alloc (.cells #[.bool loc, .int .i64 fam, .string (bs src), .string (bs dst), .int .i64 sp, .int .i64 dp, .slice a fs.length cap] 24) := ⟨_, rfl⟩
  have hS : W.heap[w.heap.size]? = some (.cells #[.bool loc, .int .i64 fam, .string (bs src), .string (bs dst), .int .i64 sp, .int .i64 dp, .slice a fs.length cap] 24 (0, 0)) := by rw [hW]; exact alloc_new _ _
  have HB : Hid (Below w.heap.size w W) := by show Below _ _ _; rw [hW]; exact (Below.refl _ _).alloc (Nat.le_refl _) _
  have HWs : Hid (W.heap.size = w.heap.size + 1) := by show _ = _; rw [hW]; simp
  have HC : Hid (∀ V, Below W.heap.size W V → V.cell? ⟨w.heap.size, 0, none⟩ = some (.bool loc) ∧ V.cell? ⟨w.heap.size, 1, none⟩ = some (.int .i64 fam) ∧ V.cell? ⟨w.heap.size, 2, none⟩ = some (.string (bs src)) ∧ V.cell? ⟨w.heap.size, 3, none⟩ = some (.string (bs dst)) ∧ V.cell? ⟨w.heap.size, 4, none⟩ = some (.int .i64 sp) ∧ V.cell? ⟨w.heap.size, 5, none⟩ = some (.int .i64 dp) ∧ V.cell? ⟨w.heap.size, 6, none⟩ = some (.slice a fs.length cap) ∧ FamAt V ∧ FdIn V a fs ∧ Below w.heap.size w V) := fun V hV => by
    have h1 := (hV.block _ (heap_lt hS)).trans hS
    have hB := HB.out.trans (hV.mono HB.out.size)
    exact ⟨cellAt h1 rfl, cellAt h1 rfl, cellAt h1 rfl, cellAt h1 rfl, cellAt h1 rfl, cellAt h1 rfl, cellAt h1 rfl, hf.below hf.pos hB, hin.below hB, hB⟩
  have AW : Hid (∀ V, Below W.heap.size W V → Calls Tryd.prog 9 #[] V fun e w' => e = .returned (.bool true) ∧ Below W.heap.size W w') := fun V hV => (awake_any V (HC.out V hV).2.2.2.2.2.2.2.1).mono fun e w' h => ⟨h.1, hV.trans (h.2.mono hV.size)⟩
  have FW : Hid (∀ V, Below W.heap.size W V → Calls Tryd.prog 10 #[.agg #[.bool loc, .int .i64 fam, .string (bs src), .string (bs dst), .int .i64 sp, .int .i64 dp, .slice a fs.length cap]] V fun e w' => (e = .returned (.bool false) ∧ Below W.heap.size W w') ∨ (e = .returned (.bool true) ∧ Below W.heap.size W w' ∧ Stm.few ⟨loc, fam, src, dst, sp, dp, fs⟩ ∧ w'.cell? ⟨w.heap.size, 0, none⟩ = some (.bool loc) ∧ w'.cell? ⟨w.heap.size, 1, none⟩ = some (.int .i64 fam) ∧ w'.cell? ⟨w.heap.size, 2, none⟩ = some (.string (bs src)) ∧ w'.cell? ⟨w.heap.size, 3, none⟩ = some (.string (bs dst)) ∧ w'.cell? ⟨w.heap.size, 4, none⟩ = some (.int .i64 sp) ∧ w'.cell? ⟨w.heap.size, 5, none⟩ = some (.int .i64 dp) ∧ w'.cell? ⟨w.heap.size, 6, none⟩ = some (.slice a fs.length cap) ∧ FamAt w' ∧ FdIn w' a fs ∧ Below w.heap.size w w')) := fun V hV => (few_or ⟨loc, fam, src, dst, sp, dp, fs⟩ a cap V (HC.out V hV).2.2.2.2.2.2.2.2.1 hn hs hd).mono fun e w' h => by
    rcases h with ⟨h1, h2⟩ | ⟨h1, h2, h3⟩
    · exact .inl ⟨h1, hV.trans (h2.mono hV.size)⟩
    · exact .inr ⟨h1, hV.trans (h2.mono hV.size), h3, HC.out _ (hV.trans (h2.mono hV.size))⟩
  obtain ⟨k0, k1, k2, k3, k4, k5, k6, _⟩ := HC.out W (Below.refl _ _)
  have PU : Hid (∀ sl V, Below W.heap.size W V → Stm.few ⟨loc, fam, src, dst, sp, dp, fs⟩ → Calls Tryd.prog 11 #[.agg #[.bool loc, .int .i64 fam, .string (bs src), .string (bs dst), .int .i64 sp, .int .i64 dp, .slice a fs.length cap], .bool sl] V fun e w' => ∃ (X : ByteArray) (c : Nat), e = .returned (.tuple #[.string X, .int .i64 c]) ∧ Below W.heap.size W w' ∧ (c = 0 → ∃ l, Stm.put ⟨loc, fam, src, dst, sp, dp, fs⟩ sl = .ok l ∧ X = bs l)) := fun sl V hV hfew => (put_any ⟨loc, fam, src, dst, sp, dp, fs⟩ sl a cap V (HC.out V hV).2.2.2.2.2.2.2.1 (HC.out V hV).2.2.2.2.2.2.2.2.1 ⟨by have := hfew.2.2; omega, hs, hd, ht⟩).mono fun e w' h => by
    obtain ⟨hb, ⟨c, hc, _, he⟩ | ⟨l, hl, he⟩⟩ := h
    · exact ⟨_, c, he, hV.trans (hb.mono hV.size), fun h0 => absurd h0 hc⟩
    · exact ⟨_, 0, he, hV.trans (hb.mono hV.size), fun _ => ⟨l, hl, rfl⟩⟩
  clear hS hf hin hn hs hd hkw
  have HT := Lib.hid ht
  have HK0 := Lib.hid hk0
  clear ht hk0
  simp only [Stm.val]
  go_enter Tryd.func8, Tryd.ntmps8
  go_upto_region 1 with (fail)
  rw [← hW]
  clear hW
  obtain ⟨rn, hrn⟩ : ∃ n, n = (bs tx).size := ⟨_, rfl⟩
  have hrn2 : (bs tx).size = rn := hrn.symm
  clear hrn
  by_cases hr : 3000 < rn
  · have e1 : decide (3000 < (rn : Int)) = true := decide_eq_true (by omega)
    go_wp2_with (first | (go_at_call 9; (with_reducible refine (AW.out _ (Below.refl _ _)).mono ?_); rintro e w1 ⟨rfl, hb1⟩; obtain ⟨k0, k1, k2, k3, k4, k5, k6, _⟩ := HC.out _ hb1; have HB1 := Lib.hid hb1) | (go_at_call 10; (with_reducible refine (FW.out _ HB1.out).mono ?_); rintro e w2 (⟨rfl, hb2⟩ | ⟨rfl, hb2, hfew, k0, k1, k2, k3, k4, k5, k6, _⟩)))
    all_goals (go_ret; exact ⟨rfl, (HC.out _ hb2).2.2.2.2.2.2.2.2.2⟩)
  · have e1 : decide (3000 < (rn : Int)) = false := decide_eq_false (by omega)
    by_cases hk3 : kind = 3
    · have e2 : (kind == 3) = true := beq_iff_eq.2 hk3
      go_wp2_with (first | (go_at_call 9; (with_reducible refine (AW.out _ (Below.refl _ _)).mono ?_); rintro e w1 ⟨rfl, hb1⟩; obtain ⟨k0, k1, k2, k3, k4, k5, k6, _⟩ := HC.out _ hb1; have HB1 := Lib.hid hb1) | (go_at_call 10; (with_reducible refine (FW.out _ HB1.out).mono ?_); rintro e w2 (⟨rfl, hb2⟩ | ⟨rfl, hb2, hfew, k0, k1, k2, k3, k4, k5, k6, _⟩)))
      all_goals (go_ret; exact ⟨rfl, (HC.out _ hb2).2.2.2.2.2.2.2.2.2⟩)
    · have e2 : (kind == 3) = false := beq_eq_false_iff_ne.2 hk3
      go_wp2_with (first | (go_at_call 9; (with_reducible refine (AW.out _ (Below.refl _ _)).mono ?_); rintro e w1 ⟨rfl, hb1⟩; obtain ⟨k0, k1, k2, k3, k4, k5, k6, _⟩ := HC.out _ hb1; have HB1 := Lib.hid hb1) | (go_at_call 10; (with_reducible refine (FW.out _ HB1.out).mono ?_); rintro e w2 (⟨rfl, hb2⟩ | ⟨rfl, hb2, hfew, k0, k1, k2, k3, k4, k5, k6, _⟩)))
      · go_ret
        exact ⟨rfl, (HC.out _ hb2).2.2.2.2.2.2.2.2.2⟩
      · have HFW := Lib.hid hfew
        refine (PU.out false _ hb2 hfew).mono ?_
        clear hfew
        rintro e w3 ⟨X, cx, rfl, hb3, hx⟩
        obtain ⟨k0, k1, k2, k3, k4, k5, k6, _⟩ := HC.out _ hb3
        go_wp2_with (fail)
        refine (PU.out true _ hb3 HFW.out).mono ?_
        rintro e w4 ⟨Y, cy, rfl, hb4, hy⟩
        obtain ⟨k0, k1, k2, k3, k4, k5, k6, _⟩ := HC.out _ hb4
        have HX := Lib.hid hx
        have HY := Lib.hid hy
        have HB4 := Lib.hid hb4
        clear hx hy hb4 hb3
        go_upto_region 8 with (fail)
        obtain ⟨M, hM⟩ : ∃ M, M = w4.heap.size := ⟨_, rfl⟩
        obtain ⟨V0, hV0⟩ : ∃ V0, V0 = w4.alloc (.cells #[.bool loc, .int .i64 fam, .string (bs src), .string (bs dst), .int .i64 sp, .int .i64 dp, .slice a fs.length cap] 24) := ⟨_, rfl⟩
        have hV0s : V0.heap.size = M + 1 := by rw [hV0, World.size_alloc, hM]
        have HMB : Hid (V0.heap[M]? = some (.cells #[.bool loc, .int .i64 fam, .string (bs src), .string (bs dst), .int .i64 sp, .int .i64 dp, .slice a fs.length cap] 24 (0, 0))) := by show _ = _; rw [hV0, hM]; exact alloc_new _ _
        have HB5 : Hid (Below W.heap.size W V0) := by show Below _ _ _; rw [hV0]; exact HB4.out.alloc HB4.out.size _
        have k6o : ∀ o, (V0.alloc o).cell? ⟨w.heap.size, 6, none⟩ = some (.slice a fs.length cap) := fun o => (HC.out _ (HB5.out.alloc HB5.out.size o)).2.2.2.2.2.2.1
        have HV0s := Lib.hid hV0s
        have HM4 : Hid (M = w4.heap.size) := hM
        have hwr : IntKind.i64.wrap kind = kind := by have := HK0.out; exact IntWalk.i64_in _ (by omega)
        rw [← hV0]
        rw [← hM]
        clear hM hV0 hV0s k0 k1 k2 k3 k4 k5 k6
        have A1 := ASt.fresh (B := V0.heap.size) (w0 := V0) (Below.refl _ _) (Nat.le_refl _)
        obtain ⟨v5, w5, hr5, A5⟩ := A1.all 22 a cap fs ((HC.out _ (HB5.out.alloc HB5.out.size (.cells #[] 45))).2.2.2.2.2.2.2.2.1) (by have : fs.length ≤ 100 := HFW.out.2.2; simp; omega)
        have A5a := A5.alloc (.cells #[.int .i64 kind, .string (bs tx)] 45)
        obtain ⟨v6, w6, hr6, A6⟩ := A5a.one 22 w5.heap.size 1 (kind, tx) (alloc_new _ _) (by have : fs.length ≤ 100 := HFW.out.2.2; simp; omega)
        obtain ⟨a6, c6, hv6, _⟩ := A6.open
        rw [show (([] : List Fi) ++ fs ++ [(kind, tx)]).length = fs.length + 1 from by simp] at hv6
        subst hv6
        obtain ⟨W7, hW7⟩ : ∃ W7, W7 = w6.setCell ⟨M, 6, none⟩ (.slice a6 (fs.length + 1) c6) := ⟨_, rfl⟩
        have h7 := heap_set ((A6.bel.block M (by have := HV0s.out; omega)).trans HMB.out) (i := 6) (by simp) (.slice a6 (fs.length + 1) c6)
        have n0 := cellAt (i := 0) (v := .bool loc) h7 rfl
        have n1 := cellAt (i := 1) (v := .int .i64 fam) h7 rfl
        have n2 := cellAt (i := 2) (v := .string (bs src)) h7 rfl
        have n3 := cellAt (i := 3) (v := .string (bs dst)) h7 rfl
        have n4 := cellAt (i := 4) (v := .int .i64 sp) h7 rfl
        have n5 := cellAt (i := 5) (v := .int .i64 dp) h7 rfl
        have n6 := cellAt (i := 6) (v := .slice a6 (fs.length + 1) c6) h7 rfl
        rw [← hW7] at h7
        have H7 := Lib.hid h7
        have hbM : Below W.heap.size W W7 := by
          rw [hW7]
          exact below_set (HB5.out.trans (A6.bel.mono HB5.out.size)) (by have := HB4.out.size; have := HM4.out; omega) 6 _
        have HBM := Lib.hid hbM
        have hfd : FdIn W7 a6 (fs ++ [(kind, tx)]) := by
          obtain ⟨a', c', h1, h2⟩ := irow_in (A6.store (M := M) (by have := HV0s.out; omega) (.slice a6 (fs.length + 1) c6))
          rw [show (([] : List Fi) ++ fs ++ [(kind, tx)]).length = fs.length + 1 from by simp] at h1
          cases h1
          rw [hW7]; exact h2
        have HFD := Lib.hid hfd
        have m6 := cellAt (i := 6) (v := .slice a fs.length cap) ((A6.bel.block M (by have := HV0s.out; omega)).trans HMB.out) rfl
        have mf6 := Lib.frozen_of_heap ((A6.bel.block M (by have := HV0s.out; omega)).trans HMB.out) 6
        have HA6 := Lib.hid A6
        have H5 := Lib.hid hr5
        have H6 := Lib.hid hr6
        have HW7 := Lib.hid hW7
        clear A1 A5 A5a A6 hr5 hr6 h7 hbM hfd
        go_wp2_with (first | (at_builtin; refine wpList_append_ok rfl (.tmp 43) (.tmp 45) 22 rfl _ _ _ _ rfl rfl H5.out ?_) | (at_builtin; refine wpList_append_ok rfl (.tmp 46) (.tmp 51) 22 rfl _ _ _ _ rfl rfl H6.out ?_))
        rw [← HW7.out]
        have hok : Stm.ok ⟨loc, fam, src, dst, sp, dp, fs ++ [(kind, tx)]⟩ := by
          have h1 : fs.length ≤ 100 := HFW.out.2.2
          have h2 : src.length ≤ 300 := HFW.out.1
          have h3 : dst.length ≤ 300 := HFW.out.2.1
          refine ⟨by show (fs ++ [(kind, tx)]).length ≤ _; simp; omega, by show src.length ≤ _; omega, by show dst.length ≤ _; omega, fun x hx => ?_⟩
          rcases List.mem_append.1 hx with hx | hx
          · exact HT.out x hx
          · obtain rfl := List.mem_singleton.1 hx
            show tx.length ≤ _
            rw [← bs_size]; omega
        have MP := put_any ⟨loc, fam, src, dst, sp, dp, fs ++ [(kind, tx)]⟩ false a6 c6 W7 (HC.out _ HBM.out).2.2.2.2.2.2.2.1 HFD.out hok
        simp only [Stm.val, List.length_append, List.length_cons, List.length_nil, Nat.zero_add] at MP
        clear hok n0 n1 n2 n3 n4 n5 n6 m6 mf6
        refine MP.mono ?_
        clear MP
        rintro e w8 ⟨hb8, hput⟩
        have HB8 := Lib.hid hb8
        have HB8' : Hid (Below W.heap.size W w8) := HBM.out.trans (hb8.mono HBM.out.size)
        clear hb8
        obtain ⟨Z, cz, rfl, hz⟩ : ∃ (Z : ByteArray) (cz : Nat), e = .returned (.tuple #[.string Z, .int .i64 cz]) ∧ (cz = 0 → ∃ l, Stm.put ⟨loc, fam, src, dst, sp, dp, fs ++ [(kind, tx)]⟩ false = .ok l ∧ Z = bs l) := by
          rcases hput with ⟨c, hc, _, he⟩ | ⟨l, hl, he⟩
          · exact ⟨_, c, he, fun h0 => absurd h0 hc⟩
          · exact ⟨_, 0, he, fun _ => ⟨l, hl, rfl⟩⟩
        clear hput
        have HZ := Lib.hid hz
        clear hz
        by_cases hx0 : cx = 0
        · by_cases hy0 : cy = 0
          · by_cases hz0 : cz = 0
            · obtain ⟨lx, hlx, hXe⟩ := HX.out hx0
              obtain ⟨ly, hly, hYe⟩ := HY.out hy0
              obtain ⟨lz, hlz, hZe⟩ := HZ.out hz0
              obtain ⟨p1, p2, p3, p4, p5, p6⟩ := fields_plain (s := ⟨loc, fam, src, dst, sp, dp, fs⟩) (kind, tx) hlx hly hlz
              obtain ⟨h, at', hG, hat, q1, q2, q3, q4, q5⟩ := back_get hlz []
              rw [List.append_nil] at hG
              obtain ⟨nx, hnx⟩ : ∃ n, n = lx.length := ⟨_, rfl⟩
              obtain ⟨ny, hny⟩ : ∃ n, n = ly.length := ⟨_, rfl⟩
              obtain ⟨nz, hnz⟩ : ∃ n, n = lz.length := ⟨_, rfl⟩
              obtain ⟨n3, hn3⟩ : ∃ n, n = lx.length + 3 := ⟨_, rfl⟩
              have hl1 := put_len hlx
              have hl3 := put_len hlz
              have hff := put_cast hlz
              have htl : tx.length = rn := by rw [← bs_size]; exact hrn2
              rw [show ((kind, tx) : Fi).2 = tx from rfl, htl] at p3
              have s1 : X.size = nx := by rw [hXe, bs_size, hnx]
              have s2 : Y.size = ny := by rw [hYe, bs_size, hny]
              have s3 : Z.size = nz := by rw [hZe, bs_size, hnz]
              have w1' : IntKind.i64.wrap ((nx : Int) + 7) = (ny : Int) := by rw [IntWalk.i64_in _ (by omega)]; omega
              have w2' : IntKind.i64.wrap ((nx : Int) + 3) = (n3 : Int) := by rw [IntWalk.i64_in _ (by omega)]; omega
              have w3' : IntKind.i64.wrap ((n3 : Int) + (rn : Int)) = (nz : Int) := by rw [IntWalk.i64_in _ (by omega)]; omega
              have t1 : ((ny : Int) == ny) = true := beq_self_eq_true _
              have t2 : ((nz : Int) == nz) = true := beq_self_eq_true _
              have t3 : (ny == ny) = true := beq_self_eq_true _
              have t4 : (nz == nz) = true := beq_self_eq_true _
              have b1 : (14 : Int) ≤ (nz : Int) := by omega
              have b2 : 14 ≤ nz := by omega
              have b3 : (14 : Int) ≤ (nx : Int) := by omega
              have b4 : 14 ≤ nx := by omega
              have b5 : (16 : Int) ≤ (nx : Int) := by omega
              have b6 : 16 ≤ nx := by omega
              have b7 : (nx : Int) ≤ (nz : Int) := by omega
              have b8 : nx ≤ nz := by omega
              have b9 : (nx : Int) ≤ (ny : Int) := by omega
              have b10 : nx ≤ ny := by omega
              have b11 : (0 : Int) ≤ (nx : Int) := by omega
              have b12 : (nx : Int).toNat = nx := by omega
              have g1 : Z.extract 0 14 = X.extract 0 14 := by rw [hZe, hXe, bs_extract, bs_extract, List.drop_zero, List.drop_zero, Nat.sub_zero, p4]
              have g2 : Z.extract 16 nx = X.extract 16 nx := by rw [hZe, hXe, bs_extract, bs_extract, hnx, p5, List.take_of_length_le (by simp)]
              have g3 : Y.extract 16 nx = X.extract 16 nx := by rw [hYe, hXe, bs_extract, bs_extract, hnx, p6, List.take_of_length_le (by simp)]
              have E1 : ((Z.extract 0 14).toList == (X.extract 0 14).toList) = true := by rw [g1]; exact beq_self_eq_true _
              have E2 : ((Z.extract 16 nx).toList == (X.extract 16 nx).toList) = true := by rw [g2]; exact beq_self_eq_true _
              have E3 : ((Y.extract 16 nx).toList == (X.extract 16 nx).toList) = true := by rw [g3]; exact beq_self_eq_true _
              rw [← hnz] at hG
              have hZl : Z.data.toList = lz := by rw [hZe, bs_list]
              have GT : Hid (Calls Tryd.prog 13 #[.string Z] w8 fun e w' => ∃ a' c', e = .returned (.tuple #[.agg #[.bool loc, .int .i64 fam, .string (bs src), .string (bs dst), .int .i64 sp, .int .i64 dp, .slice a' (fs.length + 1) c'], .bool false, .int .i64 (nz : Int), .int .i64 0]) ∧ Below W.heap.size W w' ∧ Below W7.heap.size W7 w' ∧ FdIn w' a' (fs ++ [(kind, tx)]) ∧ (∀ o, (w'.alloc o).cell? ⟨M, 0, none⟩ = some (.bool loc) ∧ (w'.alloc o).cell? ⟨M, 1, none⟩ = some (.int .i64 fam) ∧ (w'.alloc o).cell? ⟨M, 2, none⟩ = some (.string (bs src)) ∧ (w'.alloc o).cell? ⟨M, 3, none⟩ = some (.string (bs dst)) ∧ (w'.alloc o).cell? ⟨M, 4, none⟩ = some (.int .i64 sp) ∧ (w'.alloc o).cell? ⟨M, 5, none⟩ = some (.int .i64 dp) ∧ (w'.alloc o).cell? ⟨M, 6, none⟩ = some (.slice a6 (fs.length + 1) c6))) := (get_any Z w8 (HC.out _ HB8'.out).2.2.2.2.2.2.2.1 (by omega)).mono fun e w' h => by
                obtain ⟨hb, ⟨c, hc, _⟩ | ⟨lo, h, gs, aa, m, v, hg, he, hrow⟩⟩ := h
                · rw [hZl, hG] at hc; cases hc
                · rw [hZl, hG] at hg
                  cases hg
                  obtain ⟨a', c', rfl, hfd⟩ := row_in hrow
                  rw [hff] at hfd
                  rw [List.length_map, List.length_append, List.length_cons, List.length_nil, Nat.zero_add] at he
                  unfold streamV at he
                  rw [q1, q2, q3, q4, q5, hat] at he
                  have hbb := HB8'.out.trans (hb.mono HB8'.out.size)
                  have hb7 := HB8.out.trans (hb.mono HB8.out.size)
                  refine ⟨a', c', he, hbb, hb7, hfd, fun o => ?_⟩
                  have hh := ((hb7.alloc hb7.size o).block M (heap_lt H7.out)).trans H7.out
                  exact ⟨cellAt hh rfl, cellAt hh rfl, cellAt hh rfl, cellAt hh rfl, cellAt hh rfl, cellAt hh rfl, cellAt hh rfl⟩
              clear hlx hly hlz hXe hYe hZe p1 p2 p3 p4 p5 p6 hG hat q1 q2 q3 q4 q5 hnx hny hnz hn3 hl1 hl3 hff htl g1 g2 g3 hZl
              subst hx0 hy0 hz0
              go_wp2_with (fail)
              refine GT.out.mono ?_
              rintro e w9 ⟨a', c', rfl, hb9, hb97, hfd9, k7⟩
              have HB9 := Lib.hid hb9
              have HB97 := Lib.hid hb97
              have HFD9 := Lib.hid hfd9
              have SM : Hid (∀ V, FdIn V a' (fs ++ [(kind, tx)]) → FdIn V a6 (fs ++ [(kind, tx)]) → Calls Tryd.prog 16 #[.agg #[.bool loc, .int .i64 fam, .string (bs src), .string (bs dst), .int .i64 sp, .int .i64 dp, .slice a' (fs.length + 1) c'], .agg #[.bool loc, .int .i64 fam, .string (bs src), .string (bs dst), .int .i64 sp, .int .i64 dp, .slice a6 (fs.length + 1) c6]] V fun e w' => e = .returned (.bool true) ∧ Below V.heap.size V w') := fun V h1 h2 => by
                have h := same_any loc fam src dst sp dp (fs ++ [(kind, tx)]) a' a6 c' c6 V h1 h2 (by have : fs.length ≤ 100 := HFW.out.2.2; simp; omega)
                simp only [List.length_append, List.length_cons, List.length_nil, Nat.zero_add] at h
                exact h
              clear hb9 hb97 hfd9
              go_wp2_with (fail)
              obtain ⟨G, hG⟩ : ∃ G, G = w9.heap.size := ⟨_, rfl⟩
              obtain ⟨W10, hW10⟩ : ∃ W10, W10 = w9.alloc (.cells #[.bool loc, .int .i64 fam, .string (bs src), .string (bs dst), .int .i64 sp, .int .i64 dp, .slice a' (fs.length + 1) c'] 24) := ⟨_, rfl⟩
              obtain ⟨m0, m1, m2, m3, m4, m5, m6⟩ := k7 (.cells #[.bool loc, .int .i64 fam, .string (bs src), .string (bs dst), .int .i64 sp, .int .i64 dp, .slice a' (fs.length + 1) c'] 24)
              have hh := alloc_new w9 (.cells #[.bool loc, .int .i64 fam, .string (bs src), .string (bs dst), .int .i64 sp, .int .i64 dp, .slice a' (fs.length + 1) c'] 24)
              rw [← hW10] at m0 m1 m2 m3 m4 m5 m6 hh
              rw [← hG] at hh
              have l0 := cellAt (i := 0) (v := .bool loc) hh rfl
              have l1 := cellAt (i := 1) (v := .int .i64 fam) hh rfl
              have l2 := cellAt (i := 2) (v := .string (bs src)) hh rfl
              have l3 := cellAt (i := 3) (v := .string (bs dst)) hh rfl
              have l4 := cellAt (i := 4) (v := .int .i64 sp) hh rfl
              have l5 := cellAt (i := 5) (v := .int .i64 dp) hh rfl
              have l6 := cellAt (i := 6) (v := .slice a' (fs.length + 1) c') hh rfl
              have hal : Below w9.heap.size w9 W10 := by rw [hW10]; exact (Below.refl _ _).alloc (Nat.le_refl _) _
              have f1 := HFD9.out.below hal
              have f2 := (HFD.out.below HB97.out).below hal
              have hbW : Below W.heap.size W W10 := HB9.out.trans (hal.mono HB9.out.size)
              have SM2 := Lib.hid (SM.out W10.drew f1 f2)
              have HBW := Lib.hid hbW
              have CK : Hid (∀ V, Below W10.drew.heap.size W10.drew V → V.cell? ⟨M, 0, none⟩ = some (.bool loc) ∧ V.cell? ⟨M, 1, none⟩ = some (.int .i64 fam) ∧ V.cell? ⟨M, 2, none⟩ = some (.string (bs src)) ∧ V.cell? ⟨M, 3, none⟩ = some (.string (bs dst)) ∧ V.cell? ⟨M, 4, none⟩ = some (.int .i64 sp) ∧ V.cell? ⟨M, 5, none⟩ = some (.int .i64 dp) ∧ V.cell? ⟨M, 6, none⟩ = some (.slice a6 (fs.length + 1) c6) ∧ V.cell? ⟨G, 0, none⟩ = some (.bool loc) ∧ V.cell? ⟨G, 1, none⟩ = some (.int .i64 fam) ∧ V.cell? ⟨G, 2, none⟩ = some (.string (bs src)) ∧ V.cell? ⟨G, 3, none⟩ = some (.string (bs dst)) ∧ V.cell? ⟨G, 4, none⟩ = some (.int .i64 sp) ∧ V.cell? ⟨G, 5, none⟩ = some (.int .i64 dp) ∧ V.cell? ⟨G, 6, none⟩ = some (.slice a' (fs.length + 1) c')) := fun V hV => by
                have hV' : Below W10.heap.size W10 V := ⟨hV.os, hV.tape, hV.output, hV.size, hV.block⟩
                have c : ∀ {x : Addr} {v : Value}, W10.cell? x = some v → V.cell? x = some v := fun h => (hV'.cell (World.block_lt_of_cell? _ _ h)).trans h
                exact ⟨c m0, c m1, c m2, c m3, c m4, c m5, c m6, c l0, c l1, c l2, c l3, c l4, c l5, c l6⟩
              rw [← hW10]
              rw [← hG]
              clear hG hW10 hal f1 f2 hbW hh k7 SM
              go_region_held3 (fun w' => w'.cell? ⟨M, 0, none⟩ = some (.bool loc) ∧ w'.cell? ⟨M, 1, none⟩ = some (.int .i64 fam) ∧ w'.cell? ⟨M, 2, none⟩ = some (.string (bs src)) ∧ w'.cell? ⟨M, 3, none⟩ = some (.string (bs dst)) ∧ w'.cell? ⟨M, 4, none⟩ = some (.int .i64 sp) ∧ w'.cell? ⟨M, 5, none⟩ = some (.int .i64 dp) ∧ w'.cell? ⟨M, 6, none⟩ = some (.slice a6 (fs.length + 1) c6) ∧ w'.cell? ⟨G, 0, none⟩ = some (.bool loc) ∧ w'.cell? ⟨G, 1, none⟩ = some (.int .i64 fam) ∧ w'.cell? ⟨G, 2, none⟩ = some (.string (bs src)) ∧ w'.cell? ⟨G, 3, none⟩ = some (.string (bs dst)) ∧ w'.cell? ⟨G, 4, none⟩ = some (.int .i64 sp) ∧ w'.cell? ⟨G, 5, none⟩ = some (.int .i64 dp) ∧ w'.cell? ⟨G, 6, none⟩ = some (.slice a' (fs.length + 1) c')) (go_keep) ((go_simp; go_at_call 16; (with_reducible refine SM2.out.mono ?_); rintro e w11 ⟨rfl, hb11⟩; obtain ⟨y0, y1, y2, y3, y4, y5, y6, y7, y8, y9, y10, y11, y12, y13⟩ := CK.out w11 hb11; have HB11 := Lib.hid hb11; clear hb11))
              simp only [Exit.then]
              go_wp2_with (fail)
              go_ret
              have hb11 : Below W10.heap.size W10 w11 := ⟨HB11.out.os, HB11.out.tape, HB11.out.output, HB11.out.size, HB11.out.block⟩
              exact ⟨rfl, (HC.out _ (HBW.out.trans (hb11.mono HBW.out.size))).2.2.2.2.2.2.2.2.2⟩
            · have r1 : ((cz : Int) != 0) = true := by rw [bne_iff_ne]; omega
              subst hx0 hy0
              go_wp2_with (fail)
              go_ret
              exact ⟨rfl, (HC.out _ HB8'.out).2.2.2.2.2.2.2.2.2⟩
          · have r1 : ((cy : Int) != 0) = true := by rw [bne_iff_ne]; omega
            subst hx0
            go_wp2_with (fail)
            go_ret
            exact ⟨rfl, (HC.out _ HB8'.out).2.2.2.2.2.2.2.2.2⟩
        · have r1 : ((cx : Int) != 0) = true := by rw [bne_iff_ne]; omega
          go_wp2_with (fail)
          go_ret
          exact ⟨rfl, (HC.out _ HB8'.out).2.2.2.2.2.2.2.2.2⟩
end Go.Proofs.YtfagkmmenfeppaaDoor
