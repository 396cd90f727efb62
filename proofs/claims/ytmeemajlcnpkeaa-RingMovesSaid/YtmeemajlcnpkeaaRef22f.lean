import Derived.Test.YtmeemajlcnpkeaaRef22e
import Derived.Deep.QuietTactic
import Derived.BigQuiet
/- The document's Find: the walk . -/
namespace Go.Proofs.Ytmeemajlcnpkeaa
open Go.RowKit
theorem below_drewN' {B : Nat} {a w : World} (h : Below B a w) (n : Nat) : Below B a (w.drewN n) := ⟨h.os, h.tape, h.output, h.size, h.block⟩
theorem cells2 {w : World} {g : Nat} {x : Nat} {y : Nat} (h : w.heap[g]? = some (.cells #[.int .u64 x, .int .i64 y] 49 (0, 0))) : w.cell? ⟨g, 0, none⟩ = some (.int .u64 x) ∧ w.cell? ⟨g, 1, none⟩ = some (.int .i64 y) ∧ w.frozen? ⟨g, 0, none⟩ = false ∧ w.frozen? ⟨g, 1, none⟩ = false :=
  ⟨by rw [Lib.cell_of_heap h]; rfl, by rw [Lib.cell_of_heap h]; rfl, Lib.frozen_of_heap h 0, Lib.frozen_of_heap h 1⟩
theorem set2 {w : World} {g : Nat} {x y x' y' : Nat} (h : w.heap[g]? = some (.cells #[.int .u64 x, .int .i64 y] 49 (0, 0))) : ((w.setCell ⟨g, 0, none⟩ (.int .u64 x')).setCell ⟨g, 1, none⟩ (.int .i64 y')).heap[g]? = some (.cells #[.int .u64 x', .int .i64 y'] 49 (0, 0)) := by
  simp [World.setCell, Array.getElem?_modify, h]
set_option maxRecDepth 100000 in
set_option maxHeartbeats 4000000 in
theorem rfind_some (B g c n : Nat) (ps qs : List (Nat × Nat)) (w : World) (h : Row B (.slice (some ⟨g, 0, none⟩) ps.length c) ps w) (h0 : 0 < ps.length) (hl : ps.length ≤ 1000000) (hp : qs.Perm ps) (hs : qs.Pairwise ptle) :
    Calls Try.prog 16 #[.slice (some ⟨g, 0, none⟩) ps.length c, .int .u64 n] w fun e w' => e = .returned (.tuple #[.int .i64 (own qs n), .bool true]) ∧ Below w.heap.size w w' := by
  have HC : Hid (∀ W, Below w.heap.size w W → ∀ i (hi : i < ps.length), W.cell? ⟨g, i * 2, none⟩ = some (.int .u64 ps[i].1) ∧ W.cell? ⟨g, i * 2 + 1, none⟩ = some (.int .i64 ps[i].2)) := fun W hW i hi => by
    obtain ⟨g', c', e, hc⟩ := h.shape h0
    injection e with e _ _
    injection e with e
    injection e with e
    subst e
    exact ⟨(hW.cell (World.block_lt_of_cell? w _ (hc i hi).1)).trans (hc i hi).1, (hW.cell (World.block_lt_of_cell? w _ (hc i hi).2)).trans (hc i hi).2⟩
  have HE : Hid (∀ f bst, InvF ps ps.length f → InvB ps n ps.length bst → (bst = -1 ∧ own qs n = f.2) ∨ ∃ b : Nat, bst = b ∧ ∃ hb : b < ps.length, own qs n = ps[b].2) := fun f bst h1 h2 => inv_end hp hs h1 h2
  have IF0 : Hid (InvF ps 0 ps[0]) := ⟨List.getElem_mem h0, fun y hy => by cases hy⟩
  have IB0 : Hid (InvB ps n 0 (-1)) := .inl ⟨rfl, fun y hy => by cases hy⟩
  obtain ⟨d0, d1⟩ := HC.out w (Below.refl _ _) 0 h0
  obtain ⟨y0, hy0⟩ : ∃ y, y = ps[0].1 := ⟨_, rfl⟩
  obtain ⟨z0, hz0⟩ : ∃ y, y = ps[0].2 := ⟨_, rfl⟩
  rw [← hy0] at d0
  rw [← hz0] at d1
  have eF : ps[0] = (y0, z0) := by rw [hy0, hz0]
  rw [eF] at IF0
  replace d0 : w.cell? ⟨g, 0, none⟩ = some (.int .u64 y0) := by simpa using d0
  replace d1 : w.cell? ⟨g, 1, none⟩ = some (.int .i64 z0) := by simpa using d1
  obtain ⟨len, hln⟩ : ∃ len, len = ps.length := ⟨_, rfl⟩
  rw [← hln]
  have HLN := Lib.hid hln
  have hl2 : len ≤ 1000000 := by omega
  have hl0 : ¬ len = 0 := by omega
  have hl1 : (0 : Int) < (len : Int) := by omega
  have hl3 : ((len : Int) == 0) = false := by rw [beq_eq_false_iff_ne]; omega
  obtain ⟨r, hr⟩ : ∃ r, r = own qs n := ⟨_, rfl⟩
  rw [← hr] at HE ⊢
  have HT0 : Hid ((w.alloc (.cells #[.int .u64 y0, .int .i64 z0] 49)).heap[w.heap.size]? = some (.cells #[.int .u64 y0, .int .i64 z0] 49 (0, 0))) := alloc_new _ _
  have HB0 : Hid (Below w.heap.size w (w.alloc (.cells #[.int .u64 y0, .int .i64 z0] 49))) := (Below.refl _ w).alloc (Nat.le_refl _) _
  clear h h0 hl hp hs hln hr hy0 hz0 eF
  go_enter Try.func16, Try.ntmps16
  go_wp2_with (fail)
  go_loopw [7, 8] (fun t7 t8 wr => ∃ (k f1 f2 : Nat) (bst : Int), k ≤ len ∧ t8 = .int .i64 k ∧ t7 = .int .i64 bst ∧ Hid (wr.heap[w.heap.size]? = some (.cells #[.int .u64 f1, .int .i64 f2] 49 (0, 0))) ∧ Hid (Below w.heap.size w wr) ∧ Hid (InvF ps k (f1, f2)) ∧ Hid (InvB ps n k bst)) (fun _ t8 _ => len - (intOf t8).toNat)
  case atStart => exact ⟨0, y0, z0, -1, by omega, rfl, rfl, HT0.out, HB0.out, IF0.out, IB0.out⟩
  case round =>
    obtain ⟨k, f1, f2, bst, hk, rfl, rfl, hT, hb, iF, iB⟩ := hrel
    by_cases hlt : k < len
    · have hlt2 : k < ps.length := by rw [← HLN.out]; exact hlt
      have hkl : (k : Int) < (len : Int) := by omega
      obtain ⟨x, hx⟩ : ∃ x, x = ps[k].1 := ⟨_, rfl⟩
      obtain ⟨xi, hxi⟩ : ∃ x, x = ps[k].2 := ⟨_, rfl⟩
      have hpk : ps[k] = (x, xi) := by rw [hx, hxi]
      have HX : Hid (∀ W, Below w.heap.size w W → W.cell? ⟨g, k * 2, none⟩ = some (.int .u64 x) ∧ W.cell? ⟨g, k * 2 + 1, none⟩ = some (.int .i64 xi)) := fun W hW => by
        have h := HC.out W hW k hlt2
        rw [← hx, ← hxi] at h; exact h
      have hb2 : Below w.heap.size w wr.drew := hb.out.drew
      have hT2 : Hid (wr.drew.heap[w.heap.size]? = some (.cells #[.int .u64 f1, .int .i64 f2] 49 (0, 0))) := hT.out
      obtain ⟨c0, c1⟩ := HX.out wr hb.out
      obtain ⟨e0, e1, _, _⟩ := cells2 hT.out
      have C1 := Lib.hid (rahead_any x xi f1 f2 wr.drew)
      have HB2 := Lib.hid hb2
      have HPK := Lib.hid hpk
      clear hx hxi hpk hb hb2 hT
      go_wp2_with (fail)
      go_still_tail 5, (by kernel_rfl)
      change wpList _ _ _ _ _ wr.drew
      generalize wr.drew = w2 at *
      cases hc1 : aheadB (x, xi) (f1, f2) with
      | true =>
        rw [hc1] at C1
        have iF2 : Hid (InvF ps (k + 1) (x, xi)) := by
          have h := iF.out.yes hlt2 (by rw [HPK.out]; exact hc1)
          rw [HPK.out] at h; exact h
        clear hc1 iF
        go_wp2_with (go_at_call 33; refine C1.out.mono ?_; rintro e w3 ⟨rfl, hb3⟩; have hb4 := HB2.out.trans (hb3.mono HB2.out.size); have hT3 := (hb3.block _ (heap_lt hT2.out)).trans hT2.out; obtain ⟨p0, p1⟩ := HX.out w3 hb4; obtain ⟨q0, q1, q2, q3⟩ := cells2 hT3)
        obtain ⟨w4, hw4⟩ : ∃ w4 : World, w4 = (w3.setCell ⟨w.heap.size, 0, none⟩ (.int .u64 x)).setCell ⟨w.heap.size, 1, none⟩ (.int .i64 xi) := ⟨_, rfl⟩
        have hT4 : w4.heap[w.heap.size]? = some (.cells #[.int .u64 x, .int .i64 xi] 49 (0, 0)) := by rw [hw4]; exact set2 hT3
        have hb4b : Below w.heap.size w w4 := by rw [hw4]; exact (hb4.setCell (p := ⟨w.heap.size, 0, none⟩) (Nat.le_refl _) _).setCell (p := ⟨w.heap.size, 1, none⟩) (Nat.le_refl _) _
        rw [← hw4]
        clear hw4 hT3 hb4 hb3 p0 p1 q0 q1 q2 q3
        have HT4 : Hid (w4.heap[w.heap.size]? = some (.cells #[.int .u64 x, .int .i64 xi] 49 (0, 0))) := hT4
        have HB4 := Lib.hid hb4b
        obtain ⟨p0, p1⟩ := HX.out w4 hb4b
        clear hT4 hb4b
        by_cases hxn : n ≤ x
        · have t1 : (x : Int) ≥ (n : Int) := by omega
          have t2 : decide (n ≤ x) = true := decide_eq_true hxn
          have hxk : n ≤ ps[k].1 := by rw [HPK.out]; exact hxn
          rcases iB.out with ⟨rfl, _⟩ | ⟨b, rfl, hb9, _⟩
          · have IB2 := Lib.hid (InvB.neg iB.out hlt2 hxk)
            go_quiet (fail)
            go_wp2_with (fail)
            exact ⟨⟨k + 1, x, xi, k, by omega, by go_num, rfl, HT4.out, below_drewN' HB4.out _, iF2.out, IB2.out⟩, by simp [intOf] <;> omega⟩
          · have hbl : (b : Int) < (len : Int) := by have := HLN.out; omega
            have hbn : ¬ (b : Int) < 0 := by omega
            obtain ⟨u0, u1⟩ := HC.out w4 HB4.out b hb9
            obtain ⟨bx, hbx⟩ : ∃ q, q = ps[b].1 := ⟨_, rfl⟩
            obtain ⟨bi, hbi⟩ : ∃ q, q = ps[b].2 := ⟨_, rfl⟩
            have hpb : ps[b] = (bx, bi) := by rw [hbx, hbi]
            rw [← hbx] at u0
            rw [← hbi] at u1
            have HPB := Lib.hid hpb
            clear hbx hbi hpb
            have C2 := Lib.hid (rahead_any x xi bx bi w4.drew)
            have HB5 := Lib.hid HB4.out.drew
            have HT5 : Hid (w4.drew.heap[w.heap.size]? = some (.cells #[.int .u64 x, .int .i64 xi] 49 (0, 0))) := HT4.out
            go_still_tail 19, (by kernel_rfl)
            change wpList _ _ _ _ _ w4.drew
            generalize w4.drew = w5 at *
            cases hc2 : aheadB (x, xi) (bx, bi) with
            | true =>
              rw [hc2] at C2
              have IB2 := Lib.hid (InvB.yes iB.out hlt2 hb9 hxk (by rw [HPK.out, HPB.out]; exact hc2))
              clear hc2 hxk
              go_wp2_with (go_at_call 33; refine C2.out.mono ?_; rintro e w6 ⟨rfl, hb6⟩)
              exact ⟨⟨k + 1, x, xi, k, by omega, by go_num, rfl, (hb6.block _ (heap_lt HT5.out)).trans HT5.out, HB5.out.trans (hb6.mono HB5.out.size), iF2.out, IB2.out⟩, by simp [intOf] <;> omega⟩
            | false =>
              rw [hc2] at C2
              have IB2 := Lib.hid (InvB.no iB.out hlt2 hb9 (by rw [HPK.out, HPB.out]; exact hc2))
              clear hc2 hxk
              go_wp2_with (go_at_call 33; refine C2.out.mono ?_; rintro e w6 ⟨rfl, hb6⟩)
              exact ⟨⟨k + 1, x, xi, b, by omega, by go_num, rfl, (hb6.block _ (heap_lt HT5.out)).trans HT5.out, HB5.out.trans (hb6.mono HB5.out.size), iF2.out, IB2.out⟩, by simp [intOf] <;> omega⟩
        · have t1 : ¬ (x : Int) ≥ (n : Int) := by omega
          have t2 : decide (n ≤ x) = false := decide_eq_false hxn
          have IB2 := Lib.hid (InvB.lt iB.out hlt2 (by rw [HPK.out]; show x < n; omega))
          go_quiet (fail)
          go_wp2_with (fail)
          exact ⟨⟨k + 1, x, xi, bst, by omega, by go_num, rfl, HT4.out, below_drewN' HB4.out _, iF2.out, IB2.out⟩, by simp [intOf] <;> omega⟩
      | false =>
        rw [hc1] at C1
        have iF2 : Hid (InvF ps (k + 1) (f1, f2)) := iF.out.no hlt2 (by rw [HPK.out]; exact hc1)
        clear hc1 iF
        go_wp2_with (go_at_call 33; refine C1.out.mono ?_; rintro e w4 ⟨rfl, hb3⟩)
        have hb4b := HB2.out.trans (hb3.mono HB2.out.size)
        have hT4 := (hb3.block _ (heap_lt hT2.out)).trans hT2.out
        clear hb3
        have HT4 : Hid (w4.heap[w.heap.size]? = some (.cells #[.int .u64 f1, .int .i64 f2] 49 (0, 0))) := hT4
        have HB4 := Lib.hid hb4b
        obtain ⟨p0, p1⟩ := HX.out w4 hb4b
        clear hT4 hb4b
        by_cases hxn : n ≤ x
        · have t1 : (x : Int) ≥ (n : Int) := by omega
          have t2 : decide (n ≤ x) = true := decide_eq_true hxn
          have hxk : n ≤ ps[k].1 := by rw [HPK.out]; exact hxn
          rcases iB.out with ⟨rfl, _⟩ | ⟨b, rfl, hb9, _⟩
          · have IB2 := Lib.hid (InvB.neg iB.out hlt2 hxk)
            go_quiet (fail)
            go_wp2_with (fail)
            exact ⟨⟨k + 1, f1, f2, k, by omega, by go_num, rfl, HT4.out, below_drewN' HB4.out _, iF2.out, IB2.out⟩, by simp [intOf] <;> omega⟩
          · have hbl : (b : Int) < (len : Int) := by have := HLN.out; omega
            have hbn : ¬ (b : Int) < 0 := by omega
            obtain ⟨u0, u1⟩ := HC.out w4 HB4.out b hb9
            obtain ⟨bx, hbx⟩ : ∃ q, q = ps[b].1 := ⟨_, rfl⟩
            obtain ⟨bi, hbi⟩ : ∃ q, q = ps[b].2 := ⟨_, rfl⟩
            have hpb : ps[b] = (bx, bi) := by rw [hbx, hbi]
            rw [← hbx] at u0
            rw [← hbi] at u1
            have HPB := Lib.hid hpb
            clear hbx hbi hpb
            have C2 := Lib.hid (rahead_any x xi bx bi w4.drew)
            have HB5 := Lib.hid HB4.out.drew
            have HT5 : Hid (w4.drew.heap[w.heap.size]? = some (.cells #[.int .u64 f1, .int .i64 f2] 49 (0, 0))) := HT4.out
            go_still_tail 19, (by kernel_rfl)
            change wpList _ _ _ _ _ w4.drew
            generalize w4.drew = w5 at *
            cases hc2 : aheadB (x, xi) (bx, bi) with
            | true =>
              rw [hc2] at C2
              have IB2 := Lib.hid (InvB.yes iB.out hlt2 hb9 hxk (by rw [HPK.out, HPB.out]; exact hc2))
              clear hc2 hxk
              go_wp2_with (go_at_call 33; refine C2.out.mono ?_; rintro e w6 ⟨rfl, hb6⟩)
              exact ⟨⟨k + 1, f1, f2, k, by omega, by go_num, rfl, (hb6.block _ (heap_lt HT5.out)).trans HT5.out, HB5.out.trans (hb6.mono HB5.out.size), iF2.out, IB2.out⟩, by simp [intOf] <;> omega⟩
            | false =>
              rw [hc2] at C2
              have IB2 := Lib.hid (InvB.no iB.out hlt2 hb9 (by rw [HPK.out, HPB.out]; exact hc2))
              clear hc2 hxk
              go_wp2_with (go_at_call 33; refine C2.out.mono ?_; rintro e w6 ⟨rfl, hb6⟩)
              exact ⟨⟨k + 1, f1, f2, b, by omega, by go_num, rfl, (hb6.block _ (heap_lt HT5.out)).trans HT5.out, HB5.out.trans (hb6.mono HB5.out.size), iF2.out, IB2.out⟩, by simp [intOf] <;> omega⟩
        · have t1 : ¬ (x : Int) ≥ (n : Int) := by omega
          have t2 : decide (n ≤ x) = false := decide_eq_false hxn
          have IB2 := Lib.hid (InvB.lt iB.out hlt2 (by rw [HPK.out]; show x < n; omega))
          go_quiet (fail)
          go_wp2_with (fail)
          exact ⟨⟨k + 1, f1, f2, bst, by omega, by go_num, rfl, HT4.out, below_drewN' HB4.out _, iF2.out, IB2.out⟩, by simp [intOf] <;> omega⟩
    · obtain rfl : k = len := by omega
      have hE : Hid ((bst = -1 ∧ r = f2) ∨ ∃ b : Nat, bst = b ∧ ∃ hb : b < ps.length, r = ps[b].2) := HE.out (f1, f2) bst (by have h := iF.out; rw [HLN.out] at h; exact h) (by have h := iB.out; rw [HLN.out] at h; exact h)
      obtain ⟨e0, e1, _, _⟩ := cells2 hT.out
      rcases hE.out with ⟨rfl, rfl⟩ | ⟨b, rfl, hb9, h9⟩
      · go_wp2_with (fail)
        go_ret2
        exact ⟨rfl, hb.out⟩
      · have hbl : (b : Int) < (k : Int) := by have := HLN.out; omega
        have hbn : ¬ (b : Int) < 0 := by omega
        obtain ⟨_, d2⟩ := HC.out wr hb.out b hb9
        rw [← h9] at d2
        clear h9
        go_wp2_with (fail)
        go_ret2
        exact ⟨rfl, hb.out⟩
end Go.Proofs.Ytmeemajlcnpkeaa
