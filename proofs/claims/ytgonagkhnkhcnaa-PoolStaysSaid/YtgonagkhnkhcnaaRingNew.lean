import Derived.Test.YtgonagkhnkhcnaaSort
/- ring.New: the walk. -/
namespace Go.Proofs.Ytgonagkhnkhcnaa
set_option maxRecDepth 100000
open Go.RowKit
set_option maxRecDepth 100000 in
set_option maxHeartbeats 4000000 in
theorem newA (bs : List Bk) (a : Option Addr) (cap : Nat) (w : World) (hl : bs.length ≤ 100) (hin : BkIn w a bs) (hok : BkOk bs) :
    Calls Try.prog 28 #[.slice a bs.length cap] w (fun e w' => newPost bs w e w') := by
  have HI := Lib.hid hin
  have HO := Lib.hid hok
  have hmm := @run_makeMap Try.prog
  have hsf := fun (b : Nat) (W : World) (c : Addr) (m : Mode) => store_float W c b m
  clear hin hok
  go_enter Try.func28, Try.ntmps28
  go_wp2_with (fail)
  go_loopw [15] (fun i wr => ∃ k : Nat, k ≤ bs.length ∧ i = .int .i64 k ∧ Hid (∃ v, So w.heap.size (w.heap.size + 1) w.heap.size w v (gath bs k) (ids (bs.take k)) wr) ∧ Hid ((bs.take k).all bk_ok = true)) (fun i _ => bs.length - (intOf i).toNat)
  case atStart => exact ⟨0, by omega, rfl, ⟨_, So.new w⟩, rfl⟩
  case round =>
    obtain ⟨k, hk, rfl, hso, hall⟩ := hrel
    by_cases hlt : k < bs.length
    · obtain ⟨v, hS⟩ := hso.out
      obtain ⟨x, rfl, c0, c1, c2⟩ := HI.out k hlt
      obtain ⟨o1, o2, o3⟩ := HO.out bs[k] (List.getElem_mem hlt)
      obtain ⟨⟨id, ad, wt⟩, hb⟩ : ∃ b, b = bs[k] := ⟨_, rfl⟩
      rw [← hb] at c0 c1 c2 o1 o2 o3
      simp only at c0 c1 c2 o1 o2 o3
      have d0 : wr.cell? (x.add (k * 3)) = some (.int .i64 id) := (hS.bel.cell (World.block_lt_of_cell? w _ c0)).trans c0
      have d1 : wr.cell? { block := (x.add (k * 3)).block, off := (x.add (k * 3)).off + 1 } = some (.string ad) := (hS.bel.cell (World.block_lt_of_cell? w _ c1)).trans c1
      have d2 : wr.cell? { block := (x.add (k * 3)).block, off := (x.add (k * 3)).off + 2 } = some (.float .f64 wt) := (hS.bel.cell (World.block_lt_of_cell? w _ c2)).trans c2
      have HB := Lib.hid hb
      have C1 := Lib.hid (fun W => rcheck_any ⟨id, ad, wt⟩ W o1 o2)
      obtain ⟨l, hl9⟩ : ∃ l, l = ids (bs.take k) := ⟨_, rfl⟩
      obtain ⟨q, hq9⟩ : ∃ q, q = gath bs k := ⟨_, rfl⟩
      have hll : l.length = k := by rw [hl9]; unfold ids; rw [List.length_map, List.length_take]; omega
      have hl5 : l.length ≤ 100000 := by omega
      have hql : q.length ≤ 256 * k := by rw [hq9]; exact gath_len bs k (by omega)
      rw [← hl9, ← hq9] at hS
      have HL := Lib.hid hl9
      have HQ := Lib.hid hq9
      have HO3 := Lib.hid o3
      have HS := Lib.hid hS
      have SB : Hid (∀ w1, Below (wr.alloc (.cells #[.int .i64 id, .string ad, .float .f64 wt] 32)).heap.size (wr.alloc (.cells #[.int .i64 id, .string ad, .float .f64 wt] 32)) w1 → St w.heap.size (w.heap.size + 1) w.heap.size wr.heap.size w id ad wt v q l w1) := fun w1 hb1 =>
        (HS.out.box id ad wt ((Below.refl _ wr).alloc (Nat.le_refl _) _) (alloc_new _ _)).below hb1
      cases hk0 : bk_ok ⟨id, ad, wt⟩ with
      | false =>
        replace C1 : Hid (∀ W, Calls Try.prog 21 #[.agg #[.int .i64 id, .string ad, .float .f64 wt]] W fun e w' => e = .returned (.int .i64 1) ∧ Below W.heap.size W w') := fun W => by
          have h := C1.out W; rw [hk0] at h; exact h
        have HK := Lib.hid hk0
        clear c0 c1 c2 hso hS hb hl9 hq9 hk0 o1 o2 o3
        go_wp2_with (go_at_call 21; refine (C1.out _).mono ?_; rintro e w1 ⟨rfl, hb1⟩)
        go_ret2
        have e1 := newE_bad bs k hlt (by rw [← HB.out]; exact HK.out)
        exact ⟨(SB.out w1 hb1).bel, fun _ => by rw [e1]; rfl, fun h => by rw [e1] at h; cases h⟩
      | true =>
        replace C1 : Hid (∀ W, Calls Try.prog 21 #[.agg #[.int .i64 id, .string ad, .float .f64 wt]] W fun e w' => e = .returned (.int .i64 0) ∧ Below W.heap.size W w') := fun W => by
          have h := C1.out W; rw [hk0] at h; exact h
        have HK := Lib.hid hk0
        have CE : Hid (∀ w1, St w.heap.size (w.heap.size + 1) w.heap.size wr.heap.size w id ad wt v q l w1 → (w1.cell? ⟨wr.heap.size, 0, none⟩ = some (.int .i64 id) ∧ (Instr.lookup 72 (.map (some w.heap.size)) (.int .i64 id) false).run Try.prog w1 = .ok (.bool (decide (id ∈ l))) w1 ∧ (Builtin.len_ #[72] 3 #[.map (some w.heap.size)]).run Try.prog w1 = .ok (.int .i64 (dn l)) w1)) := fun w1 h => ⟨h.cT0, seen_look _ _ _ h.seen _ HO3.out, seen_len _ _ _ h.seen _⟩
        clear c0 c1 c2 hso hS hb hl9 hq9 hk0 o2 o3
        by_cases hm : id ∈ l
        · have hd : decide (id ∈ l) = true := decide_eq_true hm
          rw [hd] at CE
          go_wp2_with (go_at_call 21; refine (C1.out _).mono ?_; rintro e w1 ⟨rfl, hb1⟩; have hS1 := SB.out w1 hb1; obtain ⟨f0, f1, f2⟩ := CE.out w1 hS1; obtain ⟨w2, hr2, hS2⟩ := hS1.put id HO3.out hl5)
          refine ⟨⟨k + 1, by omega, by go_num, ⟨v, ?_⟩, all_succ bs k hlt hall.out (by rw [← HB.out]; exact HK.out)⟩, by simp [intOf]; omega⟩
          have e1 : gath bs (k + 1) = q := by rw [gath_succ bs k hlt, ← HB.out, ← HL.out, ← HQ.out]; exact if_neg (fun hc => hc.1 hm)
          have e2 : ids (bs.take (k + 1)) = l ++ [id] := by rw [ids_succ bs k hlt, ← HB.out, ← HL.out]
          rw [e1, e2]; exact hS2.out
        · have hd : decide (id ∈ l) = false := decide_eq_false hm
          rw [hd] at CE
          by_cases hs : dn l < 64
          · obtain ⟨i, rfl⟩ : ∃ i : Nat, id = i := ⟨id.toNat, by have := HK.out; unfold bk_ok at this; simp at this; omega⟩
            have hi : i ≤ 65535 := by have := HK.out; unfold bk_ok at this; simp at this; omega
            have C2 := Lib.hid (fun W => points_any wt W o1)
            have hpl := FM.points_le wt
            obtain ⟨n, hn⟩ : ∃ n, n = FM.points wt := ⟨_, rfl⟩
            rw [← hn] at C2 hpl
            have HN := Lib.hid hn
            have CF : Hid (∀ w1, St w.heap.size (w.heap.size + 1) w.heap.size wr.heap.size w i ad wt v q l w1 → w1.cell? ⟨wr.heap.size, 2, none⟩ = some (.float .f64 wt)) := fun w1 h => h.cT2
            clear o1 hn
            go_wp2_with (first | (go_at_call 21; (with_reducible refine (C1.out _).mono ?_); rintro e w1 ⟨rfl, hb1⟩; have hS1 := SB.out w1 hb1; obtain ⟨f0, f1, f2⟩ := CE.out w1 hS1; have f3 := CF.out w1 hS1) | (go_at_call 35; (with_reducible refine (C2.out _).mono ?_); rintro e w3 ⟨rfl, rfl⟩))
            have HS1 := Lib.hid hS1
            clear hS1 f0 f1 f2 f3 C1 C2 CE CF SB HS
            obtain ⟨T, hT⟩ : ∃ T, T = wr.heap.size := ⟨_, rfl⟩
            rw [← hT] at HS1 ⊢
            clear hT
            go_loopw [37] (fun t wr2 => ∃ j : Nat, j ≤ n ∧ t = .int .i64 j ∧ Hid (∃ v, St w.heap.size (w.heap.size + 1) w.heap.size T w i ad wt v (q ++ (pts ⟨i, ad, wt⟩).take j) l wr2)) (fun t _ => n - (intOf t).toNat)
            case atStart => exact ⟨0, by omega, rfl, ⟨v, by rw [List.take_zero, List.append_nil]; exact HS1.out⟩⟩
            case round =>
              obtain ⟨j, hj, rfl, hst⟩ := hrel
              by_cases hjl : j < n
              · obtain ⟨v2, hS2⟩ := hst.out
                have HP := Lib.hid (fun W => point_any i j W (by omega) (by omega))
                obtain ⟨h, hh⟩ : ∃ h, h = hpt i j := ⟨_, rfl⟩
                rw [← hh] at HP
                have HH := Lib.hid hh
                have HS2 := Lib.hid hS2
                have g0 := hS2.cR
                have g1 := hS2.fR
                have g2 := hS2.cT0
                clear hh hst hS2
                go_wp2_with (fail)
                have hln : (q ++ (pts ⟨i, ad, wt⟩).take j).length ≤ 1000000 := by rw [List.length_append, List.length_take]; omega
                have HLN := Lib.hid hln
                clear hln
                go_region_law (first | (go_simp; go_at_call 36; (with_reducible refine (HP.out _).mono ?_); rintro e w1 ⟨rfl, hb1⟩; have hS3 := St.below (St.drew HS2.out) hb1; have g3 := hS3.cR; have g4 := hS3.fR; have g5 := hS3.cT0; have g6 := (hS3.alloc (.cells #[.int .u64 h, .int .i64 i] 78)).cR; have g7 := heap_lt hS3.hR; have HS3 := Lib.hid hS3; clear hS3 hb1) | (refine step_append_at (Operand.tmp 44) (Operand.tmp 52) 73 rfl rfl ?_; refine ex_mono (St.append (B := w.heap.size) (R := w.heap.size + 1) (M := w.heap.size) (T := T) (w0 := w) (id := i) (ad := ad) (wt := wt) (v := v2) (ps := q ++ (pts ⟨i, ad, wt⟩).take j) (ids := l) ?_ _ _ _ (h, i) ?_ HLN.out) ?_; (focus (repeat (first | exact HS3.out | refine St.drew ?_ | refine St.alloc ?_ _))); (focus (first | exact alloc_new _ _ | exact alloc_new_drew _ _)); rintro v3 w3 ⟨hM, g9, c9, rfl⟩; obtain ⟨u3, m0⟩ := hM.cR; have m1 := hM.fR; have m2 := hM.cT0; have HM := Lib.hid hM; clear hM))
                all_goals (have HM2 : Hid (∃ v, St w.heap.size (w.heap.size + 1) w.heap.size T w i ad wt v (q ++ (pts ⟨i, ad, wt⟩).take (j + 1)) l (w3.setCell ⟨w.heap.size + 1, 0, none⟩ (.slice (some ⟨g9, 0, none⟩) ((q ++ (pts ⟨i, ad, wt⟩).take j).length + 1) c9)))  := ⟨_, by rw [pts_succ ⟨i, ad, wt⟩ j (by rw [← HN.out]; exact hjl), ← List.append_assoc, show (hpt (Int.toNat (i : Int)) j, Int.toNat (i : Int)) = (h, i) by rw [HH.out]; rfl]; exact HM.out.store⟩)
                all_goals (clear HM m0 m1 m2 HS3 g3 g4 g5 g6 g7 g0 g1 g2 HS2)
                all_goals (go_wp2_with (fail))
                all_goals (refine ⟨⟨j + 1, by omega, by go_num, ?_⟩, by simp [intOf] <;> omega⟩; show ∃ v, _; simpa using HM2.out)
              · obtain rfl : j = n := by omega
                obtain ⟨v2, hS2⟩ := hst.out
                have g2 := hS2.cT0
                obtain ⟨w2, hr2, hS3⟩ := hS2.put i HO3.out hl5
                have HS3 := Lib.hid hS3
                clear hst hS2 hS3
                go_wp2_with (fail)
                refine ⟨⟨k + 1, by omega, by go_num, ⟨v2, ?_⟩, all_succ bs k hlt hall.out (by rw [← HB.out]; exact HK.out)⟩, by simp [intOf] <;> omega⟩
                have e1 : gath bs (k + 1) = q ++ (pts ⟨i, ad, wt⟩).take j := by rw [gath_succ bs k hlt, ← HB.out, ← HL.out, ← HQ.out, List.take_of_length_le (by rw [pts_len, HN.out]; exact Nat.le_refl _)]; exact if_pos ⟨hm, hs⟩
                have e2 : ids (bs.take (k + 1)) = l ++ [(i : Int)] := by rw [ids_succ bs k hlt, ← HB.out, ← HL.out]
                rw [e1, e2]; exact HS3.out.out
          · have hs2 : ¬ (dn l : Int) < 64 := by omega
            go_wp2_with (go_at_call 21; refine (C1.out _).mono ?_; rintro e w1 ⟨rfl, hb1⟩; have hS1 := SB.out w1 hb1; obtain ⟨f0, f1, f2⟩ := CE.out w1 hS1; obtain ⟨w2, hr2, hS2⟩ := hS1.put id HO3.out hl5)
            refine ⟨⟨k + 1, by omega, by go_num, ⟨v, ?_⟩, all_succ bs k hlt hall.out (by rw [← HB.out]; exact HK.out)⟩, by simp [intOf]; omega⟩
            have e1 : gath bs (k + 1) = q := by rw [gath_succ bs k hlt, ← HB.out, ← HL.out, ← HQ.out]; exact if_neg (fun hc => hs hc.2)
            have e2 : ids (bs.take (k + 1)) = l ++ [id] := by rw [ids_succ bs k hlt, ← HB.out, ← HL.out]
            rw [e1, e2]; exact hS2.out
    · obtain rfl : k = bs.length := by omega
      obtain ⟨v, hS⟩ := hso.out
      have hall2 : bs.all bk_ok = true := by have := hall.out; rw [List.take_length] at this; exact this
      rw [List.take_length] at hS
      have hlen := seen_len _ _ _ hS.seen 3
      have cR := hS.cR
      obtain ⟨q, hq⟩ : ∃ q, q = gath bs bs.length := ⟨_, rfl⟩
      rw [← hq] at hS
      have hql : q.length ≤ 1000000 := by rw [hq]; have := gath_len bs bs.length (Nat.le_refl _); omega
      have HQ := Lib.hid hq
      obtain ⟨d, hd⟩ : ∃ d, d = dn (ids bs) := ⟨_, rfl⟩
      rw [← hd] at hlen
      have HD := Lib.hid hd
      have HA := Lib.hid hall2
      have HS := Lib.hid hS
      clear hso hall hall2 hq hd
      by_cases h1 : d < bs.length
      · have e0 : Hid (newE bs = 12) := show newE bs = 12 by unfold newE; rw [if_pos HA.out, if_pos (by rw [← HD.out]; exact h1)]
        have h1' : (d : Int) < (bs.length : Int) := by omega
        clear hS
        go_wp2_with (fail)
        go_ret2
        exact ⟨HS.out.bel, fun _ => by rw [e0.out]; rfl, fun h => by rw [e0.out] at h; cases h⟩
      · have h1' : ¬ (d : Int) < (bs.length : Int) := by omega
        by_cases h2 : 64 < bs.length
        · have e0 : Hid (newE bs = 11) := show newE bs = 11 by unfold newE; rw [if_pos HA.out, if_neg (by rw [← HD.out]; exact h1), if_pos h2]
          have h2' : (64 : Int) < (bs.length : Int) := by omega
          clear hS
          go_wp2_with (fail)
          go_ret2
          exact ⟨HS.out.bel, fun _ => by rw [e0.out]; rfl, fun h => by rw [e0.out] at h; cases h⟩
        · have e0 : Hid (newE bs = 0) := show newE bs = 0 by unfold newE; rw [if_pos HA.out, if_neg (by rw [← HD.out]; exact h1), if_neg h2]
          have h2' : ¬ (64 : Int) < (bs.length : Int) := by omega
          rcases Nat.eq_zero_or_pos q.length with hz | hz
          · obtain rfl : q = [] := List.eq_nil_of_length_eq_zero hz
            rcases hS.row.2 with ⟨rfl, _⟩ | ⟨g, cap9, cur, rfl, _⟩
            · clear hS
              go_wp2_with (go_at_call 37; refine (sort_none _).mono ?_; rintro e w1 ⟨rfl, hb1⟩)
              go_ret2
              exact ⟨HS.out.bel.trans (hb1.mono HS.out.le), fun h => absurd e0.out h, fun _ => ⟨_, _, [], rfl, RingAt.below ⟨HS.out.hR, HS.out.row, HS.out.vR, HS.out.bR⟩ hb1, by rw [← HQ.out], List.Pairwise.nil⟩⟩
            · have C : Hid (Calls Try.prog 37 #[.slice (some ⟨g, 0, none⟩) 0 cap9, .func (.func 38) #[] #[]] wr fun e w' => e = .returned (.tuple #[]) ∧ (∃ ps', ps'.Perm ([] : List (Nat × Nat)) ∧ ps'.Pairwise ptle ∧ RingAt w.heap.size (w.heap.size + 1) (.slice (some ⟨g, 0, none⟩) 0 cap9) ps' w') ∧ Below w.heap.size wr w') := sort_any w.heap.size (w.heap.size + 1) g cap9 [] wr ⟨HS.out.hR, HS.out.row, HS.out.vR, HS.out.bR⟩ (by simp)
              replace cR : wr.cell? ⟨w.heap.size + 1, 0, none⟩ = some (.slice (some ⟨g, 0, none⟩) 0 cap9) := cR
              clear hS
              go_wp2_with (go_at_call 37; refine C.out.mono ?_; rintro e w1 ⟨rfl, ⟨ps', p1, p2, p3⟩, hb1⟩)
              go_ret2
              exact ⟨HS.out.bel.trans hb1, fun h => absurd e0.out h, fun _ => ⟨_, _, ps', rfl, p3, by rw [← HQ.out]; exact p1, p2⟩⟩
          · obtain ⟨g, c, rfl, _⟩ := hS.row.shape hz
            have C := Lib.hid (sort_any w.heap.size (w.heap.size + 1) g c q wr ⟨HS.out.hR, HS.out.row, HS.out.vR, HS.out.bR⟩ hql)
            obtain ⟨n, hn⟩ : ∃ n, n = q.length := ⟨_, rfl⟩
            rw [← hn] at C cR
            clear hS hn
            go_wp2_with (go_at_call 37; refine C.out.mono ?_; rintro e w1 ⟨rfl, ⟨ps', p1, p2, p3⟩, hb1⟩)
            go_ret2
            exact ⟨HS.out.bel.trans hb1, fun h => absurd e0.out h, fun _ => ⟨_, _, ps', rfl, p3, by rw [← HQ.out]; exact p1, p2⟩⟩

end Go.Proofs.Ytgonagkhnkhcnaa
