import Derived.Test.YtgonagkhnkhcnaaPoolAddP
import Derived.Deep.RegionHeld3
/- (*Pool).Add, Remove. -/
namespace Go.Proofs.Ytgonagkhnkhcnaa
set_option maxRecDepth 100000
open Go.RowKit
theorem get_some (L : List Bk) (i : Int) : (get L i).isSome = decide (i ∈ ids L) := by
  unfold get
  rw [Bool.eq_iff_iff, List.find?_isSome, decide_eq_true_iff, ids_mem]
  constructor
  · rintro ⟨b, hb, h⟩; exact ⟨b, hb, by simpa using h⟩
  · rintro ⟨b, hb, h⟩; exact ⟨b, hb, by simpa using h⟩
set_option maxHeartbeats 4000000 in
theorem add_any (B P M : Nat) (L : List Bk) (ps : List (Nat × Nat)) (b : Bk) (w : World) (h : PoolAt B P M L ps w) (hw : b.wt < W64) (hs : b.addr.size ≤ maxLen) (hi : (Lit.int .i64 b.id).wf = true) :
    Calls Try.prog 13 #[.pointer (some ⟨P, 0, none⟩), bkv b] w fun e w' => e = .returned (.int .i64 (addE L b)) ∧ (∃ ps', PoolAt B P M (addL L b) ps' w') ∧ Below B w w' ∧ (∀ k, k < w.heap.size → k ≠ P → k ≠ M → w'.heap[k]? = w.heap[k]?) := by
  obtain ⟨id, ad, wt⟩ := b
  obtain ⟨W0, hW0⟩ : ∃ W0, W0 = w.alloc (.cells #[.int .i64 id, .string ad, .float .f64 wt] 32) := ⟨_, rfl⟩
  have hb0 : Below w.heap.size w W0 := by rw [hW0]; exact (Below.refl _ w).alloc (Nat.le_refl _) _
  have hn0 : W0.heap[w.heap.size]? = some (.cells #[.int .i64 id, .string ad, .float .f64 wt] 32 (0, 0)) := by rw [hW0]; exact alloc_new _ _
  have h0 := h.below hb0
  have hBw : B ≤ w.heap.size := by
    obtain ⟨R, u, h1, _⟩ := h.ring
    have := heap_lt h1
    have := h.bP
    omega
  have HBW := Lib.hid hBw
  have HH := Lib.hid h
  have H0 := Lib.hid h0
  have HB0 := Lib.hid hb0
  have HN0 := Lib.hid hn0
  have C := Lib.hid (fun W => rcheck_any ⟨id, ad, wt⟩ W hw hs)
  have hsf := fun (b : Nat) (W : World) (c : Addr) (m : Mode) => store_float W c b m
  have HW0 := Lib.hid hW0
  unfold bkv at C ⊢
  simp only at C ⊢ hw hs hi
  have c0 : W0.cell? ⟨w.heap.size, 0, none⟩ = some (.int .i64 id) := by rw [Lib.cell_of_heap hn0]; rfl
  have c1 : W0.cell? ⟨w.heap.size, 1, none⟩ = some (.string ad) := by rw [Lib.cell_of_heap hn0]; rfl
  have c2 : W0.cell? ⟨w.heap.size, 2, none⟩ = some (.float .f64 wt) := by rw [Lib.cell_of_heap hn0]; rfl
  cases hk : bk_ok ⟨id, ad, wt⟩ with
  | false =>
    rw [hk] at C
    have e1 : Hid (addE L ⟨id, ad, wt⟩ = 1) := show _ = _ by unfold addE; rw [hk, if_neg (by simp)]
    have e2 : Hid (addL L ⟨id, ad, wt⟩ = L) := show _ = _ by unfold addL; rw [e1.out, if_neg (by decide)]
    replace C : Hid (∀ W, Calls Try.prog 21 #[.agg #[.int .i64 id, .string ad, .float .f64 wt]] W fun e w' => e = .returned (.int .i64 1) ∧ Below W.heap.size W w') := C
    clear h h0 hb0 hn0 hBw hW0 hk c0 c1 c2
    go_enter Try.func13, Try.ntmps13
    go_wp2_with (go_at_call 21; refine (C.out _).mono ?_; rintro e w1 ⟨rfl, hb1⟩)
    go_ret
    rw [← HW0.out] at hb1
    have hb01 := HB0.out.trans (hb1.mono HB0.out.size)
    exact ⟨by rw [e1.out]; rfl, ⟨ps, by rw [e2.out]; exact HH.out.below hb01⟩, hb01.mono HBW.out, fun k hk _ _ => hb01.block k hk⟩
  | true =>
    rw [hk] at C
    replace C : Hid (∀ W, Calls Try.prog 21 #[.agg #[.int .i64 id, .string ad, .float .f64 wt]] W fun e w' => e = .returned (.int .i64 0) ∧ Below W.heap.size W w') := C
    have HK := Lib.hid hk
    have NO : Hid (∀ W, Calls Try.prog 22 #[.float .f64 wt] W fun e w' => e = .returned (.tuple #[.float .f64 (FM.rung wt), .int .i64 0]) ∧ w' = W) := fun W => norm_ok wt W hw (by unfold bk_ok at hk; simp only [Bool.and_eq_true] at hk; exact hk.2)
    -- what is known behind Check
    have K1 : Hid (∀ w1, Below W0.heap.size W0 w1 → PoolAt B P M L ps w1 ∧ w1.heap[w.heap.size]? = some (.cells #[.int .i64 id, .string ad, .float .f64 wt] 32 (0, 0)) ∧ w1.cell? ⟨w.heap.size, 0, none⟩ = some (.int .i64 id) ∧ w1.cell? ⟨P, 0, none⟩ = some (.map (some M)) ∧
        (∀ W, Below w1.heap.size w1 W → (Instr.lookup 50 (.map (some M)) (.int .i64 id) true).run Try.prog W = .ok (.tuple #[bkv (got L id), .bool (get L id).isSome]) W) ∧ (∀ W, Below w1.heap.size w1 W → (Builtin.len_ #[50] 3 #[.map (some M)]).run Try.prog W = .ok (.int .i64 L.length) W)) := fun w1 hb1 => by
      have hp1 := h0.below hb1
      have hn1 : w1.heap[w.heap.size]? = some (.cells #[.int .i64 id, .string ad, .float .f64 wt] 32 (0, 0)) := by rw [hb1.block _ (heap_lt hn0)]; exact hn0
      exact ⟨hp1, hn1, by rw [Lib.cell_of_heap hn1]; rfl, hp1.cells, fun W hW => (hp1.pm.below hW).look id hi, fun W hW => (hp1.pm.below hW).len 3⟩
    have HI := Lib.hid hi
    by_cases hm : id ∈ ids L
    · have e1 : Hid (addE L ⟨id, ad, wt⟩ = 12) := show _ = _ by unfold addE; rw [if_pos HK.out, if_pos hm]
      have e2 : Hid (addL L ⟨id, ad, wt⟩ = L) := show _ = _ by unfold addL; rw [e1.out, if_neg (by decide)]
      have his : (get L id).isSome = true := by rw [get_some, decide_eq_true hm]
      rw [his] at K1
      obtain ⟨⟨gi, gs, gf⟩, hg⟩ : ∃ b, b = got L id := ⟨_, rfl⟩
      rw [← hg] at K1
      unfold bkv at K1
      simp only at K1
      clear h h0 hb0 hn0 hBw hW0 hk c0 c1 c2 hm his hg hw hs hi
      go_enter Try.func13, Try.ntmps13
      go_wp2_with (go_at_call 21; refine (C.out _).mono ?_; rintro e w1 ⟨rfl, hb1⟩)
      rw [← HW0.out] at hb1
      obtain ⟨hp1, hn1, d0, d1, l0, _⟩ := K1.out w1 hb1
      have l1 := l0 w1.drew ((Below.refl _ w1).drew)
      have l2 := l0 (w1.alloc (.cells #[.int .i64 0, .string ⟨#[]⟩, .float .f64 0] 32)).drew (((Below.refl _ w1).alloc (Nat.le_refl _) _).drew)
      have HB1 := Lib.hid hb1
      clear hp1 hn1 hb1 l0
      go_wp2_with (fail)
      go_region_held3 (fun w' => w'.cell? ⟨w.heap.size, 0, none⟩ = some (.int .i64 id) ∧ w'.cell? ⟨P, 0, none⟩ = some (.map (some M))) (go_keep) (fail)
      all_goals (try simp [Exit.then, Act.put])
      all_goals go_wp2_with (fail)
      all_goals go_ret
      all_goals (
        have hb01 := HB0.out.trans (HB1.out.mono HB0.out.size)
        have hb02 := (hb01.alloc hb01.size (.cells #[.int .i64 gi, .string gs, .float .f64 gf] 32)).drew
        exact ⟨by rw [e1.out]; rfl, ⟨ps, by rw [e2.out]; exact HH.out.below hb02⟩, hb02.mono HBW.out, fun k hk _ _ => hb02.block k hk⟩)
    · have his : (get L id).isSome = false := by rw [get_some, decide_eq_false hm]
      rw [his] at K1
      obtain ⟨⟨gi, gs, gf⟩, hg⟩ : ∃ b, b = got L id := ⟨_, rfl⟩
      rw [← hg] at K1
      unfold bkv at K1
      simp only at K1
      obtain ⟨len, hln⟩ : ∃ n, n = L.length := ⟨_, rfl⟩
      rw [← hln] at K1
      by_cases h64 : 64 ≤ len
      · have e1 : Hid (addE L ⟨id, ad, wt⟩ = 11) := show _ = _ by unfold addE; rw [if_pos HK.out, if_neg hm, if_pos (by omega)]
        have e2 : Hid (addL L ⟨id, ad, wt⟩ = L) := show _ = _ by unfold addL; rw [e1.out, if_neg (by decide)]
        have h65 : (len : Int) ≥ 64 := by omega
        clear h h0 hb0 hn0 hBw hW0 hk c0 c1 c2 hm his hg hw hs hi hln
        go_enter Try.func13, Try.ntmps13
        go_wp2_with (go_at_call 21; refine (C.out _).mono ?_; rintro e w1 ⟨rfl, hb1⟩)
        rw [← HW0.out] at hb1
        obtain ⟨hp1, hn1, d0, d1, l0, n0⟩ := K1.out w1 hb1
        have l1 := l0 w1.drew ((Below.refl _ w1).drew)
        have l2 := l0 (w1.alloc (.cells #[.int .i64 0, .string ⟨#[]⟩, .float .f64 0] 32)).drew (((Below.refl _ w1).alloc (Nat.le_refl _) _).drew)
        have n1 := n0 (w1.alloc (.cells #[.int .i64 gi, .string gs, .float .f64 gf] 32)).drew (((Below.refl _ w1).alloc (Nat.le_refl _) _).drew)
        have HB1 := Lib.hid hb1
        clear hp1 hn1 hb1 l0 n0
        go_wp2_with (fail)
        go_region_held3 (fun w' => w'.cell? ⟨w.heap.size, 0, none⟩ = some (.int .i64 id) ∧ w'.cell? ⟨P, 0, none⟩ = some (.map (some M))) (go_keep) (fail)
        all_goals (try simp [Exit.then, Act.put])
        all_goals go_wp2_with (fail)
        all_goals go_ret
        all_goals (
          have hb01 := HB0.out.trans (HB1.out.mono HB0.out.size)
          have hb02 := (hb01.alloc hb01.size (.cells #[.int .i64 gi, .string gs, .float .f64 gf] 32)).drew
          exact ⟨by rw [e1.out]; rfl, ⟨ps, by rw [e2.out]; exact HH.out.below hb02⟩, hb02.mono HBW.out, fun k hk _ _ => hb02.block k hk⟩)
      · have e1 : Hid (addE L ⟨id, ad, wt⟩ = 0) := show _ = _ by unfold addE; rw [if_pos HK.out, if_neg hm, if_neg (by omega)]
        have e2 : Hid (addL L ⟨id, ad, wt⟩ = ins (nb ⟨id, ad, wt⟩) L) := show _ = _ by unfold addL; rw [if_pos e1.out]
        have GD : Hid (Good (ins (nb ⟨id, ad, wt⟩) L)) := h.good.ins HK.out hm (by omega)
        have HMM := Lib.hid hm
        have hlen : Hid (L.length ≤ 1000) := show L.length ≤ 1000 by omega
        have h65 : ¬ (len : Int) ≥ 64 := by omega
        obtain ⟨nw, hnw⟩ : ∃ x, x = FM.rung wt := ⟨_, rfl⟩
        rw [← hnw] at NO
        have HNW := Lib.hid hnw
        clear h h0 hb0 hn0 hBw hW0 hk c0 c1 c2 hm his hg hw hs hi hln hnw
        go_enter Try.func13, Try.ntmps13
        go_wp2_with (go_at_call 21; refine (C.out _).mono ?_; rintro e w1 ⟨rfl, hb1⟩)
        rw [← HW0.out] at hb1
        obtain ⟨hp1, hn1, d0, d1, l0, n0⟩ := K1.out w1 hb1
        have l1 := l0 w1.drew ((Below.refl _ w1).drew)
        have l2 := l0 (w1.alloc (.cells #[.int .i64 0, .string ⟨#[]⟩, .float .f64 0] 32)).drew (((Below.refl _ w1).alloc (Nat.le_refl _) _).drew)
        obtain ⟨W2, hW2⟩ : ∃ W2, W2 = (w1.alloc (.cells #[.int .i64 gi, .string gs, .float .f64 gf] 32)).drew := ⟨_, rfl⟩
        have hb2 : Below w1.heap.size w1 W2 := by rw [hW2]; exact ((Below.refl _ w1).alloc (Nat.le_refl _) _).drew
        have n1 := n0 W2 hb2
        have hn2 : W2.heap[w.heap.size]? = some (.cells #[.int .i64 id, .string ad, .float .f64 wt] 32 (0, 0)) := by rw [hb2.block _ (heap_lt hn1)]; exact hn1
        have HP2 := Lib.hid (hp1.below hb2)
        have m0 : W2.cell? ⟨P, 0, none⟩ = some (.map (some M)) := HP2.out.cells
        have m1 : W2.cell? ⟨w.heap.size, 2, none⟩ = some (.float .f64 wt) := by rw [Lib.cell_of_heap hn2]; rfl
        have m2 := Lib.frozen_of_heap hn2 2
        have HN2 := Lib.hid hn2
        have HB1 := Lib.hid hb1
        have HB2 := Lib.hid hb2
        have HW2 := Lib.hid hW2
        clear hp1 hn1 hb1 l0 n0 hb2 hn2 hW2
        go_wp2_with (fail)
        go_region_held3 (fun w' => w'.cell? ⟨w.heap.size, 0, none⟩ = some (.int .i64 id) ∧ w'.cell? ⟨P, 0, none⟩ = some (.map (some M))) (go_keep) (fail)
        all_goals (try simp [Exit.then, Act.put])
        all_goals rw [← HW2.out]
        all_goals clear l1 l2 d0 d1
        all_goals go_wp2_with (go_at_call 22; refine (NO.out _).mono ?_; rintro e w3 ⟨rfl, rfl⟩)
        all_goals (
          obtain ⟨W3, hW3⟩ : ∃ W3, W3 = w3.setCell ⟨w.heap.size, 2, none⟩ (.float .f64 nw) := ⟨_, rfl⟩
          rw [← hW3]
          have hn3 : W3.heap[w.heap.size]? = some (.cells #[.int .i64 id, .string ad, .float .f64 nw] 32 (0, 0)) := by rw [hW3]; exact cell_set HN2.out (i := 2) (by show 2 < 3; omega) (.float .f64 nw)
          have hoth3 : ∀ k, k ≠ w.heap.size → W3.heap[k]? = w3.heap[k]? := fun k hk => by rw [hW3]; exact set_other hk
          obtain ⟨R, u, hr1, hr2⟩ := HH.out.ring
          have hPl := heap_lt hr1
          have hMl := HH.out.pm.lt
          have hPM : P ≠ M := fun e => by
            obtain ⟨es, clock, h1⟩ := HH.out.pm.obj
            rw [← e, hr1] at h1
            cases h1
          have hb01 := HB0.out.trans (HB1.out.mono HB0.out.size)
          have hb02 := hb01.trans (HB2.out.mono hb01.size)
          have hb03 : Below w.heap.size w W3 := by rw [hW3]; exact hb02.setCell (p := ⟨w.heap.size, 2, none⟩) (Nat.le_refl _) _
          have hp3 : W3.heap[P]? = some (.cells #[.map (some M), fnv R] 53 (0, 0)) := by rw [hb03.block P hPl]; exact hr1
          have hm3 : PM M L W3.drew := (HH.out.pm.below hb03.drew)
          obtain ⟨w4, q1, q2, q3⟩ := hm3.put ⟨id, ad, nw⟩ HMM.out HI.out hlen.out
          have hb04 : ∀ k, k < w.heap.size → k ≠ M → w4.heap[k]? = w.heap[k]? := fun k hk hne => by
            rw [q3.block k (Nat.lt_of_lt_of_le hk hb03.size) (fun e => hne (by injection e)), show W3.drew.heap[k]? = W3.heap[k]? from rfl, hb03.block k hk]
          have hp4 : w4.heap[P]? = some (.cells #[.map (some M), fnv R] 53 (0, 0)) := by rw [hb04 P hPl hPM]; exact hr1
          have hbB4 : Below B w w4 := (hb03.drew.mono HBW.out).grown q3 (Nat.le_trans HBW.out hb03.size) (fun q hq => by injection hq with hq; rw [← hq]; exact HH.out.bM)
          have hn4 : w4.heap[w.heap.size]? = some (.cells #[.int .i64 id, .string ad, .float .f64 nw] 32 (0, 0)) := by
            rw [q3.block _ (heap_lt hn3) (fun e => by injection e with e; omega)]; exact hn3
          have hperm : (ins (nb ⟨id, ad, wt⟩) L).Perm (⟨id, ad, nw⟩ :: L) := by rw [HNW.out]; exact ins_perm _ L
          have T := Lib.hid (turn_any B P M (fnv R) (ins (nb ⟨id, ad, wt⟩) L) w4 hp4 (q2.perm hperm) GD.out HH.out.bP HH.out.bM)
          have g0 : W3.cell? ⟨w.heap.size, 0, none⟩ = some (.int .i64 id) := by rw [Lib.cell_of_heap hn3]; rfl
          have g1 : W3.cell? ⟨w.heap.size, 1, none⟩ = some (.string ad) := by rw [Lib.cell_of_heap hn3]; rfl
          have g2 : W3.cell? ⟨w.heap.size, 2, none⟩ = some (.float .f64 nw) := by rw [Lib.cell_of_heap hn3]; rfl
          have g3 : W3.cell? ⟨P, 0, none⟩ = some (.map (some M)) := by rw [Lib.cell_of_heap hp3]; rfl
          have g4 : w4.cell? ⟨w.heap.size, 0, none⟩ = some (.int .i64 id) := by rw [Lib.cell_of_heap hn4]; rfl
          have g5 : w4.cell? ⟨w.heap.size, 1, none⟩ = some (.string ad) := by rw [Lib.cell_of_heap hn4]; rfl
          have g6 : w4.cell? ⟨w.heap.size, 2, none⟩ = some (.float .f64 nw) := by rw [Lib.cell_of_heap hn4]; rfl
          have g7 : w4.cell? ⟨P, 0, none⟩ = some (.map (some M)) := by rw [Lib.cell_of_heap hp4]; rfl
          unfold bkv at q1
          simp only at q1
          have HB04 := Lib.hid hb04
          have HBB4 := Lib.hid hbB4
          have HSZ4 : Hid (w.heap.size ≤ w4.heap.size) := show w.heap.size ≤ w4.heap.size from Nat.le_trans hb03.drew.size (grown_size q3)
          clear hW3 hn3 hoth3 hr1 hr2 hPl hMl hPM hb01 hb02 hb03 hp3 hm3 q2 q3 hb04 hp4 hbB4 hn4 hperm n1 m0 m1 m2
          go_region_held3 (fun w' => w'.cell? ⟨w.heap.size, 0, none⟩ = some (.int .i64 id) ∧ w'.cell? ⟨w.heap.size, 1, none⟩ = some (.string ad) ∧ w'.cell? ⟨w.heap.size, 2, none⟩ = some (.float .f64 nw) ∧ w'.cell? ⟨P, 0, none⟩ = some (.map (some M))) (go_keep) (fail)
          all_goals (try simp [Exit.then, Act.put])
          all_goals (go_wp2_with (go_at_call 20; refine T.out.mono ?_; rintro e w5 ⟨rfl, t1, t2, t3⟩))
          all_goals go_ret
          all_goals exact ⟨by rw [e1.out]; rfl, by rw [e2.out]; exact t1, HBB4.out.trans t2, fun k hk h1 h2 => by rw [t3 k (Nat.lt_of_lt_of_le hk HSZ4.out) h1]; exact HB04.out k hk h2⟩)
end Go.Proofs.Ytgonagkhnkhcnaa
