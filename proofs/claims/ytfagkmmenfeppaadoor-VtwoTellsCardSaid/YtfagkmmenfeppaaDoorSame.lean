import Derived.Test.YtfagkmmenfeppaaDoorHelp
/- the same headers? -/
namespace Go.Proofs.YtfagkmmenfeppaaDoor
set_option maxRecDepth 100000
open Go.RowKit
set_option maxHeartbeats 8000000 in
theorem same_any (loc : Bool) (fam : Int) (src dst : List UInt8) (sp dp : Int) (fs : List Fi) (a b : Option Addr) (ca cb : Nat) (w : World) (hin : FdIn w a fs) (hin2 : FdIn w b fs) (hn : fs.length ≤ 1000000) :
    Calls Tryd.prog 16 #[.agg #[.bool loc, .int .i64 fam, .string (bs src), .string (bs dst), .int .i64 sp, .int .i64 dp, .slice a fs.length ca], .agg #[.bool loc, .int .i64 fam, .string (bs src), .string (bs dst), .int .i64 sp, .int .i64 dp, .slice b fs.length cb]] w fun e w' => e = .returned (.bool true) ∧ Below w.heap.size w w' := by
  have HIN := Lib.hid hin
  have HIN2 := Lib.hid hin2
  obtain ⟨n, hnn⟩ : ∃ n, n = fs.length := ⟨_, rfl⟩
  rw [← hnn] at hn ⊢
  have HN := Lib.hid hnn
  clear hin hin2 hnn
  obtain ⟨s1, hs1⟩ : ∃ x, x = bs src := ⟨_, rfl⟩
  obtain ⟨s2, hs2⟩ : ∃ x, x = bs dst := ⟨_, rfl⟩
  rw [← hs1, ← hs2]
  clear hs1 hs2
  obtain ⟨W, hW⟩ : ∃ W, W = (w.alloc (.cells #[.bool loc, .int .i64 fam, .string s1, .string s2, .int .i64 sp, .int .i64 dp, .slice a n ca] 24)).alloc (.cells #[.bool loc, .int .i64 fam, .string s1, .string s2, .int .i64 sp, .int .i64 dp, .slice b n cb] 24) := ⟨_, rfl⟩
  have hS : W.heap[w.heap.size]? = some (.cells #[.bool loc, .int .i64 fam, .string s1, .string s2, .int .i64 sp, .int .i64 dp, .slice a n ca] 24 (0, 0)) := by rw [hW, Below.heap_alloc _ _ _ (by simp)]; exact alloc_new _ _
  have hT : W.heap[w.heap.size + 1]? = some (.cells #[.bool loc, .int .i64 fam, .string s1, .string s2, .int .i64 sp, .int .i64 dp, .slice b n cb] 24 (0, 0)) := by
    rw [hW]
    have := alloc_new (w.alloc (.cells #[.bool loc, .int .i64 fam, .string s1, .string s2, .int .i64 sp, .int .i64 dp, .slice a n ca] 24)) (.cells #[.bool loc, .int .i64 fam, .string s1, .string s2, .int .i64 sp, .int .i64 dp, .slice b n cb] 24)
    simpa using this
  have HB : Hid (Below w.heap.size w W) := by show Below _ _ _; rw [hW]; exact ((Below.refl _ _).alloc (Nat.le_refl _) _).alloc (by simp) _
  have HC : Hid (∀ V, Below W.heap.size W V → V.cell? ⟨w.heap.size, 0, none⟩ = some (.bool loc) ∧ V.cell? ⟨w.heap.size, 1, none⟩ = some (.int .i64 fam) ∧ V.cell? ⟨w.heap.size, 2, none⟩ = some (.string s1) ∧ V.cell? ⟨w.heap.size, 3, none⟩ = some (.string s2) ∧ V.cell? ⟨w.heap.size, 4, none⟩ = some (.int .i64 sp) ∧ V.cell? ⟨w.heap.size, 5, none⟩ = some (.int .i64 dp) ∧ V.cell? ⟨w.heap.size, 6, none⟩ = some (.slice a n ca) ∧ V.cell? ⟨w.heap.size + 1, 0, none⟩ = some (.bool loc) ∧ V.cell? ⟨w.heap.size + 1, 1, none⟩ = some (.int .i64 fam) ∧ V.cell? ⟨w.heap.size + 1, 2, none⟩ = some (.string s1) ∧ V.cell? ⟨w.heap.size + 1, 3, none⟩ = some (.string s2) ∧ V.cell? ⟨w.heap.size + 1, 4, none⟩ = some (.int .i64 sp) ∧ V.cell? ⟨w.heap.size + 1, 5, none⟩ = some (.int .i64 dp) ∧ V.cell? ⟨w.heap.size + 1, 6, none⟩ = some (.slice b n cb)) := fun V hV => by
    have h1 := (hV.block _ (heap_lt hS)).trans hS
    have h2 := (hV.block _ (heap_lt hT)).trans hT
    exact ⟨cellAt h1 rfl, cellAt h1 rfl, cellAt h1 rfl, cellAt h1 rfl, cellAt h1 rfl, cellAt h1 rfl, cellAt h1 rfl, cellAt h2 rfl, cellAt h2 rfl, cellAt h2 rfl, cellAt h2 rfl, cellAt h2 rfl, cellAt h2 rfl, cellAt h2 rfl⟩
  obtain ⟨a0, a1, a2, a3, a4, a5, a6, b0, b1, b2, b3, b4, b5, b6⟩ := HC.out W (Below.refl _ _)
  clear hS hT
  have e1 : (loc == loc) = true := beq_self_eq_true _
  have e2 : (fam == fam) = true := beq_self_eq_true _
  have e3 : (s1.toList == s1.toList) = true := beq_self_eq_true _
  have e4 : (s2.toList == s2.toList) = true := beq_self_eq_true _
  have e5 : (sp == sp) = true := beq_self_eq_true _
  have e6 : (dp == dp) = true := beq_self_eq_true _
  go_enter Tryd.func16, Tryd.ntmps16
  go_upto_region 1 with (fail)
  rw [← hW]
  clear hW
  go_wp2_with (fail)
  go_loopw [5] (fun i wr => ∃ (k : Nat), k ≤ n ∧ i = .int .i64 k ∧ Hid (Below W.heap.size W wr)) (fun i _ => n - (intOf i).toNat)
  case atStart => exact ⟨0, by omega, rfl, Below.refl _ _⟩
  case round =>
    obtain ⟨k, hk, rfl, hb⟩ := hrel
    obtain ⟨a0, a1, a2, a3, a4, a5, a6, b0, b1, b2, b3, b4, b5, b6⟩ := HC.out _ hb.out
    have hbw : Hid (Below w.heap.size w wr) := HB.out.trans (hb.out.mono HB.out.size)
    by_cases hlt : k < n
    · obtain ⟨x, rfl, d0, d1⟩ := (HIN.out.below hbw.out) k (by rw [← HN.out]; exact hlt)
      obtain ⟨y, rfl, f0, f1⟩ := (HIN2.out.below hbw.out) k (by rw [← HN.out]; exact hlt)
      obtain ⟨tx, htx⟩ : ∃ t, t = bs (fs[k]'(by rw [← HN.out]; exact hlt)).2 := ⟨_, rfl⟩
      obtain ⟨ty, hty⟩ : ∃ t, t = (fs[k]'(by rw [← HN.out]; exact hlt)).1 := ⟨_, rfl⟩
      rw [← htx] at d1 f1
      rw [← hty] at d0 f0
      have q1 : (tx.toList == tx.toList) = true := beq_self_eq_true _
      have q2 : (ty == ty) = true := beq_self_eq_true _
      clear htx hty
      go_wp2_with (fail)
      go_region_held3 (fun w' => w'.cell? ⟨w.heap.size, 6, none⟩ = some (.slice (some x) n ca) ∧ w'.cell? ⟨w.heap.size + 1, 6, none⟩ = some (.slice (some y) n cb) ∧ w'.cell? (x.add (k * 2)) = some (.int .i64 ty) ∧ w'.cell? { block := (x.add (k * 2)).block, off := (x.add (k * 2)).off + 1 } = some (.string tx) ∧ w'.cell? (y.add (k * 2)) = some (.int .i64 ty) ∧ w'.cell? { block := (y.add (k * 2)).block, off := (y.add (k * 2)).off + 1 } = some (.string tx)) (go_keep) (fail)
      simp only [Exit.then]
      have hb2 : Hid (Below W.heap.size W wr.drew) := ⟨hb.out.os, hb.out.tape, hb.out.output, hb.out.size, hb.out.block⟩
      go_wp2_with (fail)
      exact ⟨⟨k + 1, by omega, by go_num, hb2.out⟩, by simp [intOf]; omega⟩
    · obtain rfl : k = n := by omega
      go_wp2_with (fail)
      go_ret
      exact ⟨rfl, hbw.out⟩
end Go.Proofs.YtfagkmmenfeppaaDoor
