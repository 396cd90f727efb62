import Derived.Test.YtfagkmmenfeppaaDoorRefH
import Derived.Test.YtfagkmmenfeppaaDoorRefC
import Derived.Test.YtfagkmmenfeppaaDoorStrictT
import Derived.Test.YtfagkmmenfeppaaDoorLocal
import Derived.Test.YtfagkmmenfeppaaDoorSame
/- VtwoTells, walked. -/
namespace Go.Proofs.YtfagkmmenfeppaaDoor
set_option maxRecDepth 100000
open Go.RowKit
theorem put_told (s : Stm) (sl : Bool) (a : Option Addr) (cap : Nat) (w : World) (hf : FamAt w) (hin : FdIn w a s.fs) (ho : s.ok) :
    Calls Tryd.prog 11 #[s.val a cap, .bool sl] w fun e w' => Below w.heap.size w w' ∧ e = .returned (.tuple #[.string (bs (putB s sl)), .int .i64 (s.check sl : Nat)]) :=
  (put_any s sl a cap w hf hin ho).mono fun e w' h => by
    obtain ⟨hb, ⟨c, hc, hp, he⟩ | ⟨l, hl, he⟩⟩ := h
    · refine ⟨hb, ?_⟩
      unfold Stm.put at hp
      by_cases hk : s.check sl = 0
      · rw [if_pos hk] at hp; cases hp
      · rw [if_neg hk] at hp
        injection hp with hp
        have : putB s sl = [] := by unfold putB; rw [if_neg hk]
        rw [he, this, hp]; rfl
    · refine ⟨hb, ?_⟩
      unfold Stm.put at hl
      by_cases hk : s.check sl = 0
      · rw [if_pos hk] at hl
        injection hl with hl
        have : putB s sl = l := by unfold putB; rw [if_pos hk]; exact hl
        rw [he, this, hk]; rfl
      · rw [if_neg hk] at hl; cases hl
/-- both Gets tell the same -/
theorem gets_same (b : ByteArray) (hb : b.size ≤ 1000000) : ∃ (lo : Bool) (fa : Int) (s d : List UInt8) (sp dp : Int) (fs : List Fi) (is : Bool) (m code : Nat), fs.length ≤ 1000000 ∧
    (∀ V, FamAt V → Calls Tryd.prog 13 #[.string b] V fun e w' => ∃ a c, e = .returned (.tuple #[.agg #[.bool lo, .int .i64 fa, .string (bs s), .string (bs d), .int .i64 sp, .int .i64 dp, .slice a fs.length c], .bool is, .int .i64 m, .int .i64 code]) ∧ FdIn w' a fs ∧ Below V.heap.size V w') ∧
    (∀ V, Calls Tryd.prog 14 #[.string b] V fun e w' => ∃ a c, e = .returned (.tuple #[.agg #[.bool lo, .int .i64 fa, .string (bs s), .string (bs d), .int .i64 sp, .int .i64 dp, .slice a fs.length c], .bool is, .int .i64 m, .int .i64 code]) ∧ FdIn w' a fs ∧ Below V.heap.size V w') := by
  cases hg : getR b.data.toList with
  | error c =>
    refine ⟨false, 0, [], [], 0, 0, [], false, 0, c, by simp, fun V hV => (get_any b V hV hb).mono fun e w' h => ?_, fun V => (rget_any b V hb).mono fun e w' h => ?_⟩
    · obtain ⟨h1, ⟨c', hc, he⟩ | ⟨_, _, _, _, _, _, hc, _⟩⟩ := h
      · rw [hg] at hc
        injection hc with hc
        subst hc
        exact ⟨none, 0, he, FdIn.nil _ _, h1⟩
      · rw [hg] at hc; cases hc
    · obtain ⟨h1, ⟨c', hc, he⟩ | ⟨_, _, _, _, _, _, _, hc, _⟩⟩ := h
      · rw [hg] at hc
        injection hc with hc
        subst hc
        exact ⟨none, 0, he, FdIn.nil _ _, h1⟩
      · rw [hg] at hc; cases hc
  | ok r =>
    obtain ⟨loc, h, fs, aa, m⟩ := r
    have hE : getE b.data.toList = .ok (loc, h, fs, aa, m) := by
      unfold getR at hg
      cases hE : getE b.data.toList with
      | error c' => rw [hE] at hg; cases hg
      | ok r' => rw [hE] at hg; exact hg
    obtain ⟨_, _, _, _, _, _, hok⟩ := strict_law hE
    have hfl : (fs.map castF).length = fs.length := List.length_map ..
    refine ⟨loc, h.1, h.2.1, h.2.2.1, h.2.2.2.1, h.2.2.2.2, fs.map castF, decide (0 < aa), m, 0, hok.hn, fun V hV => (get_any b V hV hb).mono fun e w' q => ?_, fun V => (rget_any b V hb).mono fun e w' q => ?_⟩
    · obtain ⟨h1, ⟨c', hc, he⟩ | ⟨_, _, _, _, _, v, hc, he, hrow⟩⟩ := q
      · rw [hg] at hc; cases hc
      · rw [hg] at hc
        cases hc
        obtain ⟨a', c', rfl, hin⟩ := row_in hrow
        refine ⟨a', c', ?_, hin, h1⟩
        rw [he, hfl]; rfl
    · obtain ⟨h1, ⟨c', hc, he⟩ | ⟨_, _, _, _, _, v, _, hc, he, hrow⟩⟩ := q
      · rw [hg] at hc; cases hc
      · rw [hg] at hc
        cases hc
        obtain ⟨a', c', rfl, hin⟩ := row_in hrow
        refine ⟨a', c', ?_, hin, h1⟩
        rw [he, hfl]; rfl
set_option maxHeartbeats 8000000 in
theorem tells_walk (s : Stm) (a : Option Addr) (cap : Nat) (sl : Bool) (b : ByteArray) (w : World) (hf : FamAt w) (hin : FdIn w a s.fs) (hn : s.fs.length ≤ 9223372036854775807) (hs : s.src.length ≤ 9223372036854775807) (hd : s.dst.length ≤ 9223372036854775807)
    (ht : ∀ x ∈ s.fs, x.2.length ≤ 9223372036854775807) (hbs : b.size ≤ 9223372036854775807) : Calls Tryd.prog 3 #[s.val a cap, .bool sl, .string b] w fun e w' => e = .returned (.bool true) ∧ Below w.heap.size w w' := by
  obtain ⟨P, hP⟩ : ∃ P, P = putB s sl := ⟨_, rfl⟩
  obtain ⟨ck, hck⟩ : ∃ c, c = s.check sl := ⟨_, rfl⟩
  have PU0 : ∀ V, FamAt V → FdIn V a s.fs → s.ok → Calls Tryd.prog 11 #[s.val a cap, .bool sl] V fun e w' => Below V.heap.size V w' ∧ e = .returned (.tuple #[.string (bs P), .int .i64 (ck : Nat)]) := fun V h1 h2 h3 => by
    have h := put_told s sl a cap V h1 h2 h3
    rw [← hP, ← hck] at h; exact h
  have RP0 : ∀ V, FdIn V a s.fs → s.ok → Calls Tryd.prog 12 #[s.val a cap, .bool sl] V fun e w' => Below V.heap.size V w' ∧ e = .returned (.tuple #[.string (bs P), .int .i64 (ck : Nat)]) := fun V h2 h3 => by
    have h := rput_any s sl a cap V h2 h3
    rw [← hP, ← hck] at h; exact h
  have CK0 : ∀ V, FamAt V → FdIn V a s.fs → s.ok → Calls Tryd.prog 15 #[s.val a cap, .bool sl] V fun e w' => e = .returned (.int .i64 (ck : Nat)) ∧ Below V.heap.size V w' := fun V h1 h2 h3 => by
    have h := vcheck_any s sl a cap V h1 h2 h3
    rw [← hck] at h; exact h
  clear hP hck
  have hok : s.few → s.ok := fun h => ⟨by have := h.2.2; omega, hs, hd, ht⟩
  obtain ⟨loc, fam, src, dst, sp, dp, fs⟩ := s
  obtain ⟨W, hW⟩ : ∃ W, W = w.alloc (.cells #[.bool loc, .int .i64 fam, .string (bs src), .string (bs dst), .int .i64 sp, .int .i64 dp, .slice a fs.length cap] 24) := ⟨_, rfl⟩
  have hS : W.heap[w.heap.size]? = some (.cells #[.bool loc, .int .i64 fam, .string (bs src), .string (bs dst), .int .i64 sp, .int .i64 dp, .slice a fs.length cap] 24 (0, 0)) := by rw [hW]; exact alloc_new _ _
  have HB : Hid (Below w.heap.size w W) := by show Below _ _ _; rw [hW]; exact (Below.refl _ _).alloc (Nat.le_refl _) _
  have HC : Hid (∀ V, Below W.heap.size W V → V.cell? ⟨w.heap.size, 0, none⟩ = some (.bool loc) ∧ V.cell? ⟨w.heap.size, 1, none⟩ = some (.int .i64 fam) ∧ V.cell? ⟨w.heap.size, 2, none⟩ = some (.string (bs src)) ∧ V.cell? ⟨w.heap.size, 3, none⟩ = some (.string (bs dst)) ∧ V.cell? ⟨w.heap.size, 4, none⟩ = some (.int .i64 sp) ∧ V.cell? ⟨w.heap.size, 5, none⟩ = some (.int .i64 dp) ∧ V.cell? ⟨w.heap.size, 6, none⟩ = some (.slice a fs.length cap) ∧ FamAt V ∧ FdIn V a fs ∧ Below w.heap.size w V) := fun V hV => by
    have h1 := (hV.block _ (heap_lt hS)).trans hS
    have hB := HB.out.trans (hV.mono HB.out.size)
    exact ⟨cellAt h1 rfl, cellAt h1 rfl, cellAt h1 rfl, cellAt h1 rfl, cellAt h1 rfl, cellAt h1 rfl, cellAt h1 rfl, hf.below hf.pos hB, hin.below hB, hB⟩
  have AW : Hid (∀ V, Below W.heap.size W V → Calls Tryd.prog 9 #[] V fun e w' => e = .returned (.bool true) ∧ Below W.heap.size W w') := fun V hV => (awake_any V (HC.out V hV).2.2.2.2.2.2.2.1).mono fun e w' h => ⟨h.1, hV.trans (h.2.mono hV.size)⟩
  have FW : Hid (∀ V, Below W.heap.size W V → Calls Tryd.prog 10 #[.agg #[.bool loc, .int .i64 fam, .string (bs src), .string (bs dst), .int .i64 sp, .int .i64 dp, .slice a fs.length cap]] V fun e w' => (e = .returned (.bool false) ∧ Below W.heap.size W w') ∨ (e = .returned (.bool true) ∧ Below W.heap.size W w' ∧ Stm.few ⟨loc, fam, src, dst, sp, dp, fs⟩)) := fun V hV => (few_or ⟨loc, fam, src, dst, sp, dp, fs⟩ a cap V (HC.out V hV).2.2.2.2.2.2.2.2.1 hn hs hd).mono fun e w' h => by
    rcases h with ⟨h1, h2⟩ | ⟨h1, h2, h3⟩
    · exact .inl ⟨h1, hV.trans (h2.mono hV.size)⟩
    · exact .inr ⟨h1, hV.trans (h2.mono hV.size), h3⟩
  have HB0 : Hid (Below W.heap.size W W) := Below.refl _ _
  obtain ⟨k0, k1, k2, k3, k4, k5, k6, _⟩ := HC.out W (Below.refl _ _)
  simp only [Stm.val] at PU0 RP0 CK0
  have PU : Hid (∀ V, Below W.heap.size W V → Stm.few ⟨loc, fam, src, dst, sp, dp, fs⟩ → Calls Tryd.prog 11 #[.agg #[.bool loc, .int .i64 fam, .string (bs src), .string (bs dst), .int .i64 sp, .int .i64 dp, .slice a fs.length cap], .bool sl] V fun e w' => Below W.heap.size W w' ∧ e = .returned (.tuple #[.string (bs P), .int .i64 (ck : Nat)])) := fun V hV hfew => (PU0 V (HC.out V hV).2.2.2.2.2.2.2.1 (HC.out V hV).2.2.2.2.2.2.2.2.1 (hok hfew)).mono fun e w' h => ⟨hV.trans (h.1.mono hV.size), h.2⟩
  have RP : Hid (∀ V, Below W.heap.size W V → Stm.few ⟨loc, fam, src, dst, sp, dp, fs⟩ → Calls Tryd.prog 12 #[.agg #[.bool loc, .int .i64 fam, .string (bs src), .string (bs dst), .int .i64 sp, .int .i64 dp, .slice a fs.length cap], .bool sl] V fun e w' => Below W.heap.size W w' ∧ e = .returned (.tuple #[.string (bs P), .int .i64 (ck : Nat)])) := fun V hV hfew => (RP0 V (HC.out V hV).2.2.2.2.2.2.2.2.1 (hok hfew)).mono fun e w' h => ⟨hV.trans (h.1.mono hV.size), h.2⟩
  have CK : Hid (∀ V, Below W.heap.size W V → Stm.few ⟨loc, fam, src, dst, sp, dp, fs⟩ → Calls Tryd.prog 15 #[.agg #[.bool loc, .int .i64 fam, .string (bs src), .string (bs dst), .int .i64 sp, .int .i64 dp, .slice a fs.length cap], .bool sl] V fun e w' => e = .returned (.int .i64 (ck : Nat)) ∧ Below V.heap.size V w') := fun V hV hfew => CK0 V (HC.out V hV).2.2.2.2.2.2.2.1 (HC.out V hV).2.2.2.2.2.2.2.2.1 (hok hfew)
  clear hS hf hin hn hs hd ht hok PU0 RP0 CK0
  obtain ⟨bn, hbn⟩ : ∃ n, n = b.size := ⟨_, rfl⟩
  have hbn2 : b.size = bn := hbn.symm
  rw [hbn2] at hbs
  clear hbn
  simp only [Stm.val]
  go_enter Tryd.func3, Tryd.ntmps3
  go_upto_region 1 with (fail)
  rw [← hW]
  clear hW
  by_cases h7 : 70000 < bn
  · have e1 : decide (70000 < (bn : Int)) = true := decide_eq_true (by omega)
    clear h7
    go_wp2_with (first | (go_at_call 9; (with_reducible refine (AW.out _ HB0.out).mono ?_); rintro e w1 ⟨rfl, hb1⟩; obtain ⟨k0, k1, k2, k3, k4, k5, k6, _⟩ := HC.out _ hb1; have HB1 := Lib.hid hb1) | (go_at_call 10; (with_reducible refine (FW.out _ HB1.out).mono ?_); rintro e w2 (⟨rfl, hb2⟩ | ⟨rfl, hb2, hfew⟩)))
    all_goals (go_ret; exact ⟨rfl, (HC.out _ hb2).2.2.2.2.2.2.2.2.2⟩)
  · have e1 : decide (70000 < (bn : Int)) = false := decide_eq_false (by omega)
    obtain ⟨lo, fa, s, d, sp', dp', FS, is, m, code, hFS, G1, G2⟩ := gets_same b (by omega)
    have G1 := Lib.hid G1
    have G2 := Lib.hid G2
    have HFS := Lib.hid hFS
    clear h7 hFS
    go_wp2_with (first | (go_at_call 9; (with_reducible refine (AW.out _ HB0.out).mono ?_); rintro e w1 ⟨rfl, hb1⟩; obtain ⟨k0, k1, k2, k3, k4, k5, k6, _⟩ := HC.out _ hb1; have HB1 := Lib.hid hb1) | (go_at_call 10; (with_reducible refine (FW.out _ HB1.out).mono ?_); rintro e w2 (⟨rfl, hb2⟩ | ⟨rfl, hb2, hfew⟩); rotate_left; (have HFEW := Lib.hid hfew; have HB2 := Lib.hid hb2; obtain ⟨k0, k1, k2, k3, k4, k5, k6, _⟩ := HC.out _ hb2; clear hfew hb2)))
    · refine (PU.out _ HB2.out HFEW.out).mono ?_
      rintro e w3 ⟨hb3, rfl⟩
      have HB3 := Lib.hid hb3
      clear k0 k1 k2 k3 k4 k5 k6
      obtain ⟨k0, k1, k2, k3, k4, k5, k6, _⟩ := HC.out _ hb3
      clear hb3
      go_wp2_with (fail)
      refine (RP.out _ HB3.out HFEW.out).mono ?_
      rintro e w4 ⟨hb4, rfl⟩
      have HB4 := Lib.hid hb4
      clear k0 k1 k2 k3 k4 k5 k6
      obtain ⟨k0, k1, k2, k3, k4, k5, k6, _⟩ := HC.out _ hb4
      clear hb4
      go_wp2_with (fail)
      refine (G1.out _ (HC.out _ HB4.out).2.2.2.2.2.2.2.1).mono ?_
      rintro e w5 ⟨a1, c1, rfl, hfd1, hb5⟩
      have HB5 := Lib.hid (HB4.out.trans (hb5.mono HB4.out.size))
      clear hb5 k0 k1 k2 k3 k4 k5 k6
      obtain ⟨W6, hW6⟩ : ∃ V, V = w5.alloc (.cells #[.bool lo, .int .i64 fa, .string (bs s), .string (bs d), .int .i64 sp', .int .i64 dp', .slice a1 FS.length c1] 24) := ⟨_, rfl⟩
      obtain ⟨G, hG⟩ : ∃ G, G = w5.heap.size := ⟨_, rfl⟩
      have hGb : W6.heap[G]? = some (.cells #[.bool lo, .int .i64 fa, .string (bs s), .string (bs d), .int .i64 sp', .int .i64 dp', .slice a1 FS.length c1] 24 (0, 0)) := by rw [hW6, hG]; exact alloc_new _ _
      have hal6 := (Below.refl w5.heap.size w5).alloc (Nat.le_refl _) (.cells #[.bool lo, .int .i64 fa, .string (bs s), .string (bs d), .int .i64 sp', .int .i64 dp', .slice a1 FS.length c1] 24)
      rw [← hW6] at hal6
      have HB6 := Lib.hid (HB5.out.trans (hal6.mono HB5.out.size))
      have HG : Hid (∀ V, Below W6.heap.size W6 V → V.cell? ⟨G, 0, none⟩ = some (.bool lo) ∧ V.cell? ⟨G, 1, none⟩ = some (.int .i64 fa) ∧ V.cell? ⟨G, 2, none⟩ = some (.string (bs s)) ∧ V.cell? ⟨G, 3, none⟩ = some (.string (bs d)) ∧ V.cell? ⟨G, 4, none⟩ = some (.int .i64 sp') ∧ V.cell? ⟨G, 5, none⟩ = some (.int .i64 dp') ∧ V.cell? ⟨G, 6, none⟩ = some (.slice a1 FS.length c1) ∧ FdIn V a1 FS ∧ Below W.heap.size W V) := fun V hV => by
        have h1 := (hV.block _ (heap_lt hGb)).trans hGb
        exact ⟨cellAt h1 rfl, cellAt h1 rfl, cellAt h1 rfl, cellAt h1 rfl, cellAt h1 rfl, cellAt h1 rfl, cellAt h1 rfl, (hfd1.below hal6).below hV, HB6.out.trans (hV.mono HB6.out.size)⟩
      go_upto_region 8 with (fail)
      rw [← hW6, ← hG]
      clear hW6 hG hal6 hfd1 hGb
      go_wp2_with (fail)
      refine (G2.out _).mono ?_
      rintro e w7 ⟨a2, c2, rfl, hfd2, hb7⟩
      have HB7 := Lib.hid hb7
      clear hb7
      obtain ⟨W8, hW8⟩ : ∃ V, V = w7.alloc (.cells #[.bool lo, .int .i64 fa, .string (bs s), .string (bs d), .int .i64 sp', .int .i64 dp', .slice a2 FS.length c2] 24) := ⟨_, rfl⟩
      obtain ⟨H, hH⟩ : ∃ G, G = w7.heap.size := ⟨_, rfl⟩
      have hHb : W8.heap[H]? = some (.cells #[.bool lo, .int .i64 fa, .string (bs s), .string (bs d), .int .i64 sp', .int .i64 dp', .slice a2 FS.length c2] 24 (0, 0)) := by rw [hW8, hH]; exact alloc_new _ _
      have hal8 := (Below.refl w7.heap.size w7).alloc (Nat.le_refl _) (.cells #[.bool lo, .int .i64 fa, .string (bs s), .string (bs d), .int .i64 sp', .int .i64 dp', .slice a2 FS.length c2] 24)
      rw [← hW8] at hal8
      have HB8 := Lib.hid (HB7.out.trans (hal8.mono HB7.out.size))
      have HH : Hid (∀ V, Below W8.heap.size W8 V → V.cell? ⟨H, 0, none⟩ = some (.bool lo) ∧ V.cell? ⟨H, 1, none⟩ = some (.int .i64 fa) ∧ V.cell? ⟨H, 2, none⟩ = some (.string (bs s)) ∧ V.cell? ⟨H, 3, none⟩ = some (.string (bs d)) ∧ V.cell? ⟨H, 4, none⟩ = some (.int .i64 sp') ∧ V.cell? ⟨H, 5, none⟩ = some (.int .i64 dp') ∧ V.cell? ⟨H, 6, none⟩ = some (.slice a2 FS.length c2) ∧ FdIn V a2 FS ∧ Below W6.heap.size W6 V) := fun V hV => by
        have h1 := (hV.block _ (heap_lt hHb)).trans hHb
        exact ⟨cellAt h1 rfl, cellAt h1 rfl, cellAt h1 rfl, cellAt h1 rfl, cellAt h1 rfl, cellAt h1 rfl, cellAt h1 rfl, (hfd2.below hal8).below hV, HB8.out.trans (hV.mono HB8.out.size)⟩
      go_upto_region 9 with (fail)
      rw [← hW8, ← hH]
      clear hW8 hH hal8 hfd2 hHb
      have HBW : Hid (Below W.heap.size W W8) := (HG.out _ HB8.out).2.2.2.2.2.2.2.2
      obtain ⟨k0, k1, k2, k3, k4, k5, k6, _⟩ := HC.out _ HBW.out
      have CK8 : Hid (Calls Tryd.prog 15 #[.agg #[.bool loc, .int .i64 fam, .string (bs src), .string (bs dst), .int .i64 sp, .int .i64 dp, .slice a fs.length cap], .bool sl] W8 fun e w' => e = .returned (.int .i64 (ck : Nat)) ∧ Below W8.heap.size W8 w') := CK.out W8 HBW.out HFEW.out
      have SM : Hid (∀ V, FdIn V a1 FS → FdIn V a2 FS → Calls Tryd.prog 16 #[.agg #[.bool lo, .int .i64 fa, .string (bs s), .string (bs d), .int .i64 sp', .int .i64 dp', .slice a1 FS.length c1], .agg #[.bool lo, .int .i64 fa, .string (bs s), .string (bs d), .int .i64 sp', .int .i64 dp', .slice a2 FS.length c2]] V fun e w' => e = .returned (.bool true) ∧ Below V.heap.size V w') := fun V h1 h2 => same_any lo fa s d sp' dp' FS a1 a2 c1 c2 V h1 h2 HFS.out
      have y1 : ((ck : Int) == (ck : Int)) = true := beq_self_eq_true _
      have y2 : ((m : Int) == (m : Int)) = true := beq_self_eq_true _
      have y3 : ((code : Int) == (code : Int)) = true := beq_self_eq_true _
      have y4 : (is == is) = true := by cases is <;> rfl
      have y5 : ((bs P).toList == (bs P).toList) = true := beq_self_eq_true _
      go_wp2_with (first | (go_at_call 15; (with_reducible refine CK8.out.mono ?_); rintro e w9 ⟨rfl, hb9⟩; obtain ⟨h0, h1, h2, h3, h4, h5, h6, hfh, hbh⟩ := HH.out _ hb9; obtain ⟨g0, g1, g2, g3, g4, g5, g6, hfg, hbg⟩ := HG.out _ hbh; have HFH := Lib.hid hfh; have HFG := Lib.hid hfg; have HBG := Lib.hid hbg; clear hb9 hfh hfg hbg hbh) | fail)
      refine (SM.out _ HFG.out HFH.out).mono ?_
      rintro e w10 ⟨rfl, hb10⟩
      have HB10 := Lib.hid (HBG.out.trans (hb10.mono HBG.out.size))
      clear hb10 h0 h1 h2 h3 h4 h5 h6 g0 g1 g2 g3 g4 g5 g6
      go_wp2_with (fail)
      go_ret
      refine ⟨?_, (HC.out _ HB10.out).2.2.2.2.2.2.2.2.2⟩
      first | rfl | simp
    · go_ret
      exact ⟨rfl, (HC.out _ hb2).2.2.2.2.2.2.2.2.2⟩
end Go.Proofs.YtfagkmmenfeppaaDoor
