import Derived.Test.YtgonagkhnkhcnaaPoolStayP
/- PoolStays: the walk. -/
namespace Go.Proofs.Ytgonagkhnkhcnaa
set_option maxRecDepth 100000
open Go.RowKit
set_option maxHeartbeats 4000000 in
theorem staysA (cs : List Ac) (a : Option Addr) (cap : Nat) (w : World) (hin : ActIn w a cs) (hok : ActOk cs) :
    Calls Try.prog 5 #[.slice a cs.length cap] w fun e w' => e = .returned (.bool true) ∧ Below w.heap.size w w' := by
  have A := Lib.hid (fun W => awake_any W)
  have F := Lib.hid (fun W hW => few_any cs a cap W (hin.below hW) hok)
  cases hf : fewA cs with
  | false =>
    rw [hf] at F
    clear hin hok hf
    go_enter Try.func5, Try.ntmps5
    go_wp2_with (first | (go_at_call 6; refine (A.out _).mono ?_; rintro e w1 ⟨rfl, hb1⟩) | (go_at_call 7; refine (F.out _ hb1).mono ?_; rintro e w2 ⟨rfl, rfl⟩))
    go_ret
    exact ⟨rfl, hb1⟩
  | true =>
    rw [hf] at F
    have HA : Hid (∀ W, Below w.heap.size w W → ActIn W a cs) := fun W hW => hin.below hW
    have HO := Lib.hid hok
    have PN := Lib.hid (fun W => pnew_any W)
    have hc101 : cs.length ≤ 101 := by
      unfold fewA at hf
      rw [Bool.and_eq_true] at hf
      exact of_decide_eq_true hf.1
    have hsf := fun (b : Nat) (W : World) (c : Addr) (m : Mode) => store_float W c b m
    have hmg := guard32
    clear hin hok hf
    go_enter Try.func5, Try.ntmps5
    go_wp2_with (first | (go_at_call 6; refine (A.out _).mono ?_; rintro e w1 ⟨rfl, hb1⟩) | (go_at_call 7; refine (F.out _ hb1).mono ?_; rintro e w2 ⟨rfl, rfl⟩) | (go_at_call 8; refine (PN.out _).mono ?_; rintro e w3 ⟨P, M, ps0, rfl, hp3, hb3⟩))
    obtain ⟨B, hB⟩ : ∃ B, B = w2.heap.size := ⟨_, rfl⟩
    rw [← hB] at hp3 hb3
    have hwB : w.heap.size ≤ B := by rw [hB]; exact hb1.size
    have HB1 := Lib.hid hb1
    have HWB := Lib.hid hwB
    have HP3 := Lib.hid hp3
    clear hp3 hb1 hB hwB A F PN
    go_loopw [4] (fun i wr => ∃ (k : Nat) (L : List Bk) (ps : List (Nat × Nat)), k ≤ cs.length ∧ i = .int .i64 k ∧ Hid (PoolAt B P M L ps wr) ∧ Below B w2 wr) (fun i _ => cs.length - (intOf i).toNat)
    case atStart => exact ⟨0, [], ps0, by omega, rfl, HP3, hb3⟩
    case round =>
      obtain ⟨k, L, ps, hk, rfl, hp, hb⟩ := hrel
      have hbw : Below w.heap.size w wr := HB1.out.trans (hb.mono HWB.out)
      have hBr : B ≤ wr.heap.size ∧ P < wr.heap.size ∧ M < wr.heap.size := by
        obtain ⟨R, u, h1, _⟩ := hp.out.ring
        have := heap_lt h1
        have := hp.out.bP
        exact ⟨by omega, heap_lt h1, hp.out.pm.lt⟩
      have HBR := Lib.hid hBr
      clear hBr
      by_cases hlt : k < cs.length
      · have HCELL : Hid (∀ W, Below B w2 W → ∃ x, a = some x ∧ W.cell? (x.add (k * 4)) = some (.bool cs[k].rem) ∧ W.cell? { block := (x.add (k * 4)).block, off := (x.add (k * 4)).off + 1 } = some (.int .i64 cs[k].b.id) ∧ W.cell? { block := (x.add (k * 4)).block, off := (x.add (k * 4)).off + 2 } = some (.string cs[k].b.addr) ∧ W.cell? { block := (x.add (k * 4)).block, off := (x.add (k * 4)).off + 3 } = some (.float .f64 cs[k].b.wt)) := fun W hW => HA.out W (HB1.out.trans (hW.mono HWB.out)) k hlt
        obtain ⟨x, rfl, _⟩ := HCELL.out wr hb
        obtain ⟨o1, o2, o3⟩ := HO.out cs[k] (List.getElem_mem hlt)
        obtain ⟨⟨rem, ⟨id, ad, wt⟩⟩, hck⟩ : ∃ c, c = cs[k] := ⟨_, rfl⟩
        rw [← hck] at HCELL o1 o2 o3
        simp only at HCELL o1 o2 o3
        obtain ⟨L', hL'⟩ : ∃ L', L' = doL L ⟨rem, ⟨id, ad, wt⟩⟩ := ⟨_, rfl⟩
        obtain ⟨se, hse⟩ : ∃ se, se = doE L ⟨rem, ⟨id, ad, wt⟩⟩ := ⟨_, rfl⟩
        have LI := Lib.hid (plist_any B P M L ps wr hp.out)
        have DO : Hid (∀ W, Below wr.heap.size wr W → Calls Try.prog 9 #[.pointer (some ⟨P, 0, none⟩), .agg #[.bool rem, .int .i64 id, .string ad, .float .f64 wt]] W fun e w' => e = .returned (.int .i64 se) ∧ (∃ ps', PoolAt B P M L' ps' w') ∧ Below B W w' ∧ (∀ k, k < W.heap.size → k ≠ P → k ≠ M → w'.heap[k]? = W.heap[k]?)) := fun W hW => by
          have h := do_any B P M L ps ⟨rem, ⟨id, ad, wt⟩⟩ W (hp.out.below hW) o1 o2 o3
          rw [← hL', ← hse] at h
          exact h
        have HB := Lib.hid hb
        have HL' := Lib.hid hL'
        have HSE := Lib.hid hse
        have HID := Lib.hid o3
        have HW64 := Lib.hid o1
        have c0 : ∀ W, Below B w2 W → W.cell? (x.add (k * 4)) = some (.bool rem) ∧ W.cell? { block := (x.add (k * 4)).block, off := (x.add (k * 4)).off + 1 } = some (.int .i64 id) ∧ W.cell? { block := (x.add (k * 4)).block, off := (x.add (k * 4)).off + 2 } = some (.string ad) ∧ W.cell? { block := (x.add (k * 4)).block, off := (x.add (k * 4)).off + 3 } = some (.float .f64 wt) := fun W hW => by
          obtain ⟨x', hx, h⟩ := HCELL.out W hW
          obtain rfl := Option.some.inj hx
          exact h
        have C0 := Lib.hid c0
        clear c0 HCELL o1 o2 o3 hck hbw hb hL' hse
        have stepA : Hid (∀ w5, Below wr.heap.size wr w5 → Below B w2 w5) := fun w5 h5 => HB.out.trans (h5.mono HBR.out.1)
        by_cases hE : se = 0
        · subst hE
          have z1 : ((0 : Int) != 0) = false := rfl
          cases rem with
          | true =>
            go_wp2_with (first | (go_at_call 14; (with_reducible refine LI.out.mono ?_); rintro e w5 ⟨va, rfl, hva, hb5⟩; obtain ⟨aa, ca, rfl, _⟩ := hva.open; have q5 := C0.out w5 (stepA.out w5 hb5); obtain ⟨q50, q51, q52, q53⟩ := q5) | (go_at_call 9; (with_reducible refine (DO.out _ hb5).mono ?_); rintro e w6 ⟨rfl, ⟨ps6, hp6⟩, hb6, hs6⟩; have HP6 := Lib.hid hp6; have HS6 := Lib.hid hs6; clear hp6 hs6 q50 q51 q52 q53) | (go_at_call 14; refine (plist_any B P M L' ps6 w6 HP6.out).mono ?_; rintro e w7 ⟨vb, rfl, hvb, hb7⟩; obtain ⟨ab, cb, rfl, _⟩ := hvb.open) | (go_at_call 17; refine (plen_any B P M L' ps6 w7 (HP6.out.below hb7)).mono ?_; rintro e w8 ⟨rfl, rfl⟩; obtain ⟨q0, q1, q2, q3⟩ := C0.out w8 ((stepA.out w5 hb5).trans (hb6.trans (hb7.mono (Nat.le_trans (Nat.le_trans HBR.out.1 hb5.size) hb6.size))))))
            have HBSZ : Hid (B ≤ w8.heap.size) := show B ≤ w8.heap.size from Nat.le_trans (Nat.le_trans HBR.out.1 hb5.size) (Nat.le_trans hb6.size hb7.size)
            have HPW := Lib.hid (HP6.out.below hb7)
            have HVB := Lib.hid hvb
            have HBW : Hid (Below B w2 w8) := (stepA.out w5 hb5).trans (hb6.trans (hb7.mono (Nat.le_trans (Nat.le_trans HBR.out.1 hb5.size) hb6.size)))
            clear hva hvb hb7 hb6 hb5

            have G := Lib.hid (get_any B P M L' ps6 id w8 HPW.out HID.out)
            obtain ⟨⟨gi, gs, gf⟩, hg⟩ : ∃ b, b = got L' id := ⟨_, rfl⟩
            obtain ⟨is, his⟩ : ∃ b, b = (get L' id).isSome := ⟨_, rfl⟩
            rw [← hg, ← his] at G
            unfold bkv at G
            simp only at G
            obtain rfl : is = false := by rw [his, get_some, HL'.out]; exact decide_eq_false (stay_rem rfl)
            clear hg
            try clear his
            (with_reducible refine G.out.mono ?_)
            rintro e w10 ⟨rfl, hb10⟩
            clear q0 q1 q2 q3
            obtain ⟨k6, k7, k8⟩ := box_cells (alloc_new w10 (.cells #[.int .i64 gi, .string gs, .float .f64 gf] 32)) _ (Below.refl _ _)
            have hb911 : Below w8.heap.size w8 (w10.alloc (.cells #[.int .i64 gi, .string gs, .float .f64 gf] 32)) := hb10.alloc hb10.size _
            go_wp2_with (fail)
            obtain ⟨W11, hW11⟩ : ∃ W, W = w10.alloc (.cells #[.int .i64 gi, .string gs, .float .f64 gf] 32) := ⟨_, rfl⟩
            rw [← hW11] at k6 k7 k8 hb911 ⊢
            have HB11 : Hid (Below B w2 W11) := HBW.out.trans (hb911.mono HBSZ.out)
            have HP11 := Lib.hid (HPW.out.below hb911)
            have HV11 := Lib.hid (HVB.out.below hb911)
            obtain ⟨p0, p1, p2, p3⟩ := C0.out W11 HB11.out
            have HE11 : Hid (B ≤ W11.heap.size) := Nat.le_trans HBSZ.out hb911.size
            have hl64 : L'.length ≤ 64 := HP11.out.good.few
            clear hb10 hb911 hW11 G
            go_quiet (fail)
            clear p0 p1 p2 p3 k6 k7 k8
            go_wp2_with (fail)
            go_loopw [10] (fun j W => ∃ t : Nat, 1 ≤ t ∧ t ≤ L'.length + 1 ∧ j = .int .i64 t ∧ Below W11.heap.size W11 W) (fun j _ => L'.length + 1 - (intOf j).toNat)
            case atStart => exact ⟨1, by omega, by omega, rfl, below_drewN (Below.refl _ _) _⟩
            case round =>
              obtain ⟨t, ht1, ht2, rfl, hbt⟩ := hrel
              by_cases hlt2 : t < L'.length
              · obtain ⟨g, c8, e8, hcell⟩ := HV11.out.at (by omega)
                injection e8 with e8 _ e9
                subst e8 e9
                obtain ⟨x1, _, _⟩ := hcell wr hbt t hlt2
                obtain ⟨x0, _, _⟩ := hcell wr hbt (t - 1) (by omega)
                have hri : ¬ L'[t].id ≤ L'[t - 1].id := by
                  have h := List.pairwise_iff_getElem.1 HP11.out.good.risen (t - 1) t (by omega) hlt2 (by omega)
                  omega
                obtain ⟨j1, hj1⟩ : ∃ j, j = L'[t].id := ⟨_, rfl⟩
                obtain ⟨j0, hj0⟩ : ∃ j, j = L'[t - 1].id := ⟨_, rfl⟩
                rw [← hj1] at x1 hri
                rw [← hj0] at x0 hri
                have hsub : IntKind.i64.wrap ((t : Int) - 1) = ((t - 1 : Nat) : Int) := by rw [IntKind.wrap_i64]; omega
                have ht3 : (t : Int) < (L'.length : Int) := by omega
                have ht4 : (0 : Int) ≤ (t : Int) := by omega
                have ht5 : ((t - 1 : Nat) : Int) < (L'.length : Int) := by omega
                have ht6 : (0 : Int) ≤ ((t - 1 : Nat) : Int) := by omega
                have HBT := Lib.hid hbt
                clear hj1 hj0 hcell hbt
                go_wp2_with (fail)
                go_quiet (fail)
                go_wp2_with (fail)
                exact ⟨⟨t + 1, by omega, by omega, by go_num, below_drewN HBT.out _⟩, by simp [intOf] <;> omega⟩
              · have HBT := Lib.hid hbt
                clear hbt
                go_wp2_with (fail)
                exact ⟨⟨k + 1, L', ps6, by omega, by go_num, HP11.out.below HBT.out, HB11.out.trans (HBT.out.mono HE11.out)⟩, by simp [intOf] <;> omega⟩
          | false =>
            go_wp2_with (first | (go_at_call 14; (with_reducible refine LI.out.mono ?_); rintro e w5 ⟨va, rfl, hva, hb5⟩; obtain ⟨aa, ca, rfl, _⟩ := hva.open; have q5 := C0.out w5 (stepA.out w5 hb5); obtain ⟨q50, q51, q52, q53⟩ := q5) | (go_at_call 9; (with_reducible refine (DO.out _ hb5).mono ?_); rintro e w6 ⟨rfl, ⟨ps6, hp6⟩, hb6, hs6⟩; have HP6 := Lib.hid hp6; have HS6 := Lib.hid hs6; clear hp6 hs6 q50 q51 q52 q53) | (go_at_call 14; refine (plist_any B P M L' ps6 w6 HP6.out).mono ?_; rintro e w7 ⟨vb, rfl, hvb, hb7⟩; obtain ⟨ab, cb, rfl, _⟩ := hvb.open) | (go_at_call 17; refine (plen_any B P M L' ps6 w7 (HP6.out.below hb7)).mono ?_; rintro e w8 ⟨rfl, rfl⟩; obtain ⟨q0, q1, q2, q3⟩ := C0.out w8 ((stepA.out w5 hb5).trans (hb6.trans (hb7.mono (Nat.le_trans (Nat.le_trans HBR.out.1 hb5.size) hb6.size))))))
            have HBSZ : Hid (B ≤ w8.heap.size) := show B ≤ w8.heap.size from Nat.le_trans (Nat.le_trans HBR.out.1 hb5.size) (Nat.le_trans hb6.size hb7.size)
            have HPW := Lib.hid (HP6.out.below hb7)
            have HVB := Lib.hid hvb
            have HBW : Hid (Below B w2 w8) := (stepA.out w5 hb5).trans (hb6.trans (hb7.mono (Nat.le_trans (Nat.le_trans HBR.out.1 hb5.size) hb6.size)))
            clear hva hvb hb7 hb6 hb5

            have G := Lib.hid (get_any B P M L' ps6 id w8 HPW.out HID.out)
            obtain ⟨⟨gi, gs, gf⟩, hg⟩ : ∃ b, b = got L' id := ⟨_, rfl⟩
            obtain ⟨is, his⟩ : ∃ b, b = (get L' id).isSome := ⟨_, rfl⟩
            rw [← hg, ← his] at G
            unfold bkv at G
            simp only at G
            obtain ⟨s1, s2, s3⟩ := stay_add (L := L) (c := ⟨false, ⟨id, ad, wt⟩⟩) (by rw [← HL'.out]; exact HPW.out.good) rfl HSE.out.symm
            simp only at s1 s2 s3
            rw [← HL'.out] at s1 s2
            obtain rfl : is = true := by rw [his, get_some]; exact decide_eq_true s1
            rw [s2] at hg
            have hbq := nb_eq (b := ⟨id, ad, wt⟩) HW64.out s3
            rw [← hg] at hbq
            have hq : ∀ W, (binOp .neq 32 (.agg #[.int .i64 gi, .string gs, .float .f64 gf]) (.agg #[.int .i64 id, .string ad, .float .f64 wt])).run Try.prog W = .ok (.bool false) W := fun W => by rw [bk_neq, hbq]; rfl
            have SB : Hid (∀ W, Calls Try.prog 15 #[.float .f64 gf] W fun e w' => e = .returned (.bool false) ∧ w' = W) := fun W => signbit_any gf W (by
              have h := congrArg Bk.wt hg
              simp only [nb] at h
              rw [h]; unfold FM.rung; omega)
            clear s1 s2 s3 hbq
            clear hg
            try clear his
            (with_reducible refine G.out.mono ?_)
            rintro e w10 ⟨rfl, hb10⟩
            clear q0 q1 q2 q3
            obtain ⟨k6, k7, k8⟩ := box_cells (alloc_new w10 (.cells #[.int .i64 gi, .string gs, .float .f64 gf] 32)) _ (Below.refl _ _)
            have hb911 : Below w8.heap.size w8 (w10.alloc (.cells #[.int .i64 gi, .string gs, .float .f64 gf] 32)) := hb10.alloc hb10.size _
            go_wp2_with (fail)
            obtain ⟨W11, hW11⟩ : ∃ W, W = w10.alloc (.cells #[.int .i64 gi, .string gs, .float .f64 gf] 32) := ⟨_, rfl⟩
            rw [← hW11] at k6 k7 k8 hb911 ⊢
            have HB11 : Hid (Below B w2 W11) := HBW.out.trans (hb911.mono HBSZ.out)
            have HP11 := Lib.hid (HPW.out.below hb911)
            have HV11 := Lib.hid (HVB.out.below hb911)
            obtain ⟨p0, p1, p2, p3⟩ := C0.out W11 HB11.out
            have HE11 : Hid (B ≤ W11.heap.size) := Nat.le_trans HBSZ.out hb911.size
            have hl64 : L'.length ≤ 64 := HP11.out.good.few
            clear hb10 hb911 hW11 G
            go_quiet ((go_at_call 15; exact Calls.quiet_of_same (SB.out _)))
            clear p0 p1 p2 p3 k6 k7 k8
            go_wp2_with (fail)
            go_loopw [10] (fun j W => ∃ t : Nat, 1 ≤ t ∧ t ≤ L'.length + 1 ∧ j = .int .i64 t ∧ Below W11.heap.size W11 W) (fun j _ => L'.length + 1 - (intOf j).toNat)
            case atStart => exact ⟨1, by omega, by omega, rfl, below_drewN (Below.refl _ _) _⟩
            case round =>
              obtain ⟨t, ht1, ht2, rfl, hbt⟩ := hrel
              by_cases hlt2 : t < L'.length
              · obtain ⟨g, c8, e8, hcell⟩ := HV11.out.at (by omega)
                injection e8 with e8 _ e9
                subst e8 e9
                obtain ⟨x1, _, _⟩ := hcell wr hbt t hlt2
                obtain ⟨x0, _, _⟩ := hcell wr hbt (t - 1) (by omega)
                have hri : ¬ L'[t].id ≤ L'[t - 1].id := by
                  have h := List.pairwise_iff_getElem.1 HP11.out.good.risen (t - 1) t (by omega) hlt2 (by omega)
                  omega
                obtain ⟨j1, hj1⟩ : ∃ j, j = L'[t].id := ⟨_, rfl⟩
                obtain ⟨j0, hj0⟩ : ∃ j, j = L'[t - 1].id := ⟨_, rfl⟩
                rw [← hj1] at x1 hri
                rw [← hj0] at x0 hri
                have hsub : IntKind.i64.wrap ((t : Int) - 1) = ((t - 1 : Nat) : Int) := by rw [IntKind.wrap_i64]; omega
                have ht3 : (t : Int) < (L'.length : Int) := by omega
                have ht4 : (0 : Int) ≤ (t : Int) := by omega
                have ht5 : ((t - 1 : Nat) : Int) < (L'.length : Int) := by omega
                have ht6 : (0 : Int) ≤ ((t - 1 : Nat) : Int) := by omega
                have HBT := Lib.hid hbt
                clear hj1 hj0 hcell hbt
                go_wp2_with (fail)
                go_quiet (fail)
                go_wp2_with (fail)
                exact ⟨⟨t + 1, by omega, by omega, by go_num, below_drewN HBT.out _⟩, by simp [intOf] <;> omega⟩
              · have HBT := Lib.hid hbt
                clear hbt
                go_wp2_with (fail)
                exact ⟨⟨k + 1, L', ps6, by omega, by go_num, HP11.out.below HBT.out, HB11.out.trans (HBT.out.mono HE11.out)⟩, by simp [intOf] <;> omega⟩
        · have e1 : (se == 0) = false := by rw [beq_eq_false_iff_ne]; exact hE
          have e2 : (se != 0) = true := by rw [bne, e1]; rfl
          have e3 : (!(se != 0)) = false := by rw [e2]; rfl
          have hLL : L' = L := by rw [HL'.out]; exact stay_err (by rw [← HSE.out]; exact hE)
          have HLL := Lib.hid hLL
          have SELF : Hid (∀ y ∈ L, bkeq y y = true) := fun y hy => bkeq_self (List.all_eq_true.1 hp.out.good.ok y hy)
          clear hE hLL hp
          go_wp2_with (first | (go_at_call 14; (with_reducible refine LI.out.mono ?_); rintro e w5 ⟨va, rfl, hva, hb5⟩; obtain ⟨aa, ca, rfl, _⟩ := hva.open; have q5 := C0.out w5 (stepA.out w5 hb5); obtain ⟨q50, q51, q52, q53⟩ := q5) | (go_at_call 9; (with_reducible refine (DO.out _ hb5).mono ?_); rintro e w6 ⟨rfl, ⟨ps6, hp6⟩, hb6, hs6⟩; have HP6 := Lib.hid hp6; have HS6 := Lib.hid hs6; clear hp6 hs6 q50 q51 q52 q53) | (go_at_call 14; refine (plist_any B P M L' ps6 w6 HP6.out).mono ?_; rintro e w7 ⟨vb, rfl, hvb, hb7⟩; obtain ⟨ab, cb, rfl, _⟩ := hvb.open) | (go_at_call 17; refine (plen_any B P M L' ps6 w7 (HP6.out.below hb7)).mono ?_; rintro e w8 ⟨rfl, rfl⟩))
          have hva8 : BRow wr.heap.size (.slice aa L.length ca) L w8 := (hva.same (fun q hq => by
            have h1 := World.ownsRow.lt hva q hq
            have := HBR.out
            exact HS6.out q h1.2 (by omega) (by omega))).below hb7
          have hvb8 := hvb
          rw [HLL.out] at hvb8
          rw [HLL.out]
          refine (same_any _ _ (.slice aa L.length ca) (.slice ab L.length cb) L w8 hva8 hvb8 SELF.out).mono ?_
          rw [← HLL.out]
          rintro e w9 ⟨rfl, hb9⟩
          have HBSZ : Hid (B ≤ w9.heap.size) := show B ≤ w9.heap.size from Nat.le_trans (Nat.le_trans HBR.out.1 hb5.size) (Nat.le_trans hb6.size (Nat.le_trans hb7.size hb9.size))
          have HPW := Lib.hid ((HP6.out.below hb7).below hb9)
          have HVB := Lib.hid (hvb.below hb9)
          have HBW : Hid (Below B w2 w9) := (stepA.out w5 hb5).trans (hb6.trans ((hb7.trans (hb9.mono hb7.size)).mono (Nat.le_trans (Nat.le_trans HBR.out.1 hb5.size) hb6.size)))
          clear hva8 hvb8 hva hvb hb9 hb7 hb6 hb5
          obtain ⟨q0, q1, q2, q3⟩ := C0.out w9 HBW.out
          go_wp2_with (fail)
          have G := Lib.hid (get_any B P M L' ps6 id w9 HPW.out HID.out)
          obtain ⟨⟨gi, gs, gf⟩, hg⟩ : ∃ b, b = got L' id := ⟨_, rfl⟩
          obtain ⟨is, his⟩ : ∃ b, b = (get L' id).isSome := ⟨_, rfl⟩
          rw [← hg, ← his] at G
          unfold bkv at G
          simp only at G

          clear hg
          try clear his
          (with_reducible refine G.out.mono ?_)
          rintro e w10 ⟨rfl, hb10⟩
          clear q0 q1 q2 q3
          obtain ⟨k6, k7, k8⟩ := box_cells (alloc_new w10 (.cells #[.int .i64 gi, .string gs, .float .f64 gf] 32)) _ (Below.refl _ _)
          have hb911 : Below w9.heap.size w9 (w10.alloc (.cells #[.int .i64 gi, .string gs, .float .f64 gf] 32)) := hb10.alloc hb10.size _
          go_wp2_with (fail)
          obtain ⟨W11, hW11⟩ : ∃ W, W = w10.alloc (.cells #[.int .i64 gi, .string gs, .float .f64 gf] 32) := ⟨_, rfl⟩
          rw [← hW11] at k6 k7 k8 hb911 ⊢
          have HB11 : Hid (Below B w2 W11) := HBW.out.trans (hb911.mono HBSZ.out)
          have HP11 := Lib.hid (HPW.out.below hb911)
          have HV11 := Lib.hid (HVB.out.below hb911)
          obtain ⟨p0, p1, p2, p3⟩ := C0.out W11 HB11.out
          have HE11 : Hid (B ≤ W11.heap.size) := Nat.le_trans HBSZ.out hb911.size
          have hl64 : L'.length ≤ 64 := HP11.out.good.few
          clear hb10 hb911 hW11 G
          go_quiet (fail)
          clear p0 p1 p2 p3 k6 k7 k8
          go_wp2_with (fail)
          go_loopw [10] (fun j W => ∃ t : Nat, 1 ≤ t ∧ t ≤ L'.length + 1 ∧ j = .int .i64 t ∧ Below W11.heap.size W11 W) (fun j _ => L'.length + 1 - (intOf j).toNat)
          case atStart => exact ⟨1, by omega, by omega, rfl, below_drewN (Below.refl _ _) _⟩
          case round =>
            obtain ⟨t, ht1, ht2, rfl, hbt⟩ := hrel
            by_cases hlt2 : t < L'.length
            · obtain ⟨g, c8, e8, hcell⟩ := HV11.out.at (by omega)
              injection e8 with e8 _ e9
              subst e8 e9
              obtain ⟨x1, _, _⟩ := hcell wr hbt t hlt2
              obtain ⟨x0, _, _⟩ := hcell wr hbt (t - 1) (by omega)
              have hri : ¬ L'[t].id ≤ L'[t - 1].id := by
                have h := List.pairwise_iff_getElem.1 HP11.out.good.risen (t - 1) t (by omega) hlt2 (by omega)
                omega
              obtain ⟨j1, hj1⟩ : ∃ j, j = L'[t].id := ⟨_, rfl⟩
              obtain ⟨j0, hj0⟩ : ∃ j, j = L'[t - 1].id := ⟨_, rfl⟩
              rw [← hj1] at x1 hri
              rw [← hj0] at x0 hri
              have hsub : IntKind.i64.wrap ((t : Int) - 1) = ((t - 1 : Nat) : Int) := by rw [IntKind.wrap_i64]; omega
              have ht3 : (t : Int) < (L'.length : Int) := by omega
              have ht4 : (0 : Int) ≤ (t : Int) := by omega
              have ht5 : ((t - 1 : Nat) : Int) < (L'.length : Int) := by omega
              have ht6 : (0 : Int) ≤ ((t - 1 : Nat) : Int) := by omega
              have HBT := Lib.hid hbt
              clear hj1 hj0 hcell hbt
              go_wp2_with (fail)
              go_quiet (fail)
              go_wp2_with (fail)
              exact ⟨⟨t + 1, by omega, by omega, by go_num, below_drewN HBT.out _⟩, by simp [intOf] <;> omega⟩
            · have HBT := Lib.hid hbt
              clear hbt
              go_wp2_with (fail)
              exact ⟨⟨k + 1, L', ps6, by omega, by go_num, HP11.out.below HBT.out, HB11.out.trans (HBT.out.mono HE11.out)⟩, by simp [intOf] <;> omega⟩
      · obtain rfl : k = cs.length := by omega
        have LI := Lib.hid (plist_any B P M L ps wr hp.out)
        have HBW := Lib.hid hbw
        have HP := Lib.hid hp
        clear hb hp hbw
        obtain ⟨ws, hws⟩ : ∃ ws, ws = L.map Bk.wt := ⟨_, rfl⟩
        obtain ⟨T, hT⟩ : ∃ T, T = sumP ws := ⟨_, rfl⟩
        have hwl : ws.length = L.length := by rw [hws, List.length_map]
        have HWS := Lib.hid hws
        have HTT := Lib.hid hT
        have HWL := Lib.hid hwl
        have hL64 : L.length ≤ 64 := HP.out.out.good.few
        have hTle : T ≤ 4294967296 := by
          have h := sumP_le ws
          rw [← hT, hwl] at h
          omega
        have HTL := Lib.hid hTle
        have hs0 : Hid (SumOk T (sumP (ws.take 0)) 0 0) := by
          have h : sumP (ws.take 0) = 0 := rfl
          show SumOk _ _ _ _
          rw [h]; exact sum_start T
        clear hws hT hwl hTle
        go_wp2_with (go_at_call 14; (with_reducible refine LI.out.mono ?_); rintro e w5 ⟨va, rfl, hva, hb5⟩; obtain ⟨aa, ca, rfl, _⟩ := hva.open)
        have HVA := Lib.hid hva
        have HB5 := Lib.hid hb5
        have HP5 := Lib.hid (HP.out.out.below hb5)
        clear hva hb5
        go_loopw [12, 13] (fun s j W => ∃ (k sn : Nat), k ≤ L.length ∧ j = .int .i64 k ∧ s = .float .f64 sn ∧ Hid (SumOk T (sumP (ws.take k)) k sn) ∧ Hid (0 < k → T ≠ 0) ∧ Below w5.heap.size w5 W) (fun _ j _ => L.length - (intOf j).toNat)
        case atStart => exact ⟨0, 0, by omega, rfl, rfl, hs0, (fun h => absurd h (by omega)), Below.refl _ _⟩
        case round =>
          obtain ⟨k, sn, hk2, rfl, rfl, hsum, hpos, hbW⟩ := hrel
          by_cases hlt2 : k < L.length
          · obtain ⟨g, c8, e8, hcell⟩ := HVA.out.at (by omega)
            injection e8 with e8 _ e9
            subst e8 e9
            obtain ⟨x0, _, _⟩ := hcell wr hbW k hlt2
            obtain ⟨sh1, sh2⟩ := share_at HP.out.out.good k hlt2
            rw [← HWS.out, ← HTT.out] at sh1 sh2
            have hwf : (Lit.int .i64 L[k].id).wf = true := (HP.out.out.good.bkok _ (List.getElem_mem hlt2)).2.2
            have hpt : FM.points L[k].wt ≤ T := by
              have h := points_sum ws k (by rw [HWL.out]; exact hlt2)
              have e : ws[k]'(by rw [HWL.out]; exact hlt2) = L[k].wt := by simp only [HWS.out, List.getElem_map]
              rw [e] at h
              rw [HTT.out]; exact h
            have hsnoc : sumP (ws.take (k + 1)) = sumP (ws.take k) + FM.points L[k].wt := by
              have e : ws[k]'(by rw [HWL.out]; exact hlt2) = L[k].wt := by simp only [HWS.out, List.getElem_map]
              rw [take_oneN ws k (by rw [HWL.out]; exact hlt2), sumP_snoc, e]
            obtain ⟨py, hpy⟩ : ∃ py, py = FM.points L[k].wt := ⟨_, rfl⟩
            rw [← hpy] at sh2 hpt hsnoc
            obtain ⟨id, hid⟩ : ∃ id, id = L[k].id := ⟨_, rfl⟩
            rw [← hid] at x0 sh1 sh2 hwf
            have hpW := HP5.out.below hbW
            have SHC := Lib.hid (pshare_any B P M L ps id wr hpW hwf)
            rw [sh1] at SHC
            by_cases hT0 : T = 0
            · rw [if_pos hT0] at SHC
              obtain ⟨sv, hsv⟩ : ∃ x, x = shV L id := ⟨_, rfl⟩
              rw [← hsv] at SHC
              have hno := no_points HP.out.out.good (by rw [← HWS.out, ← HTT.out]; exact hT0) HP.out.out.perm 7
              have FD : Hid (∀ W, Below wr.heap.size wr W → Calls Try.prog 12 #[.pointer (some ⟨P, 0, none⟩), .int .u64 7] W fun e w' => e = .returned (.tuple #[bkv (got L (fA ps 7)), .bool false]) ∧ Below W.heap.size W w') := fun W hW => by
                have h := pfind_any B P M 7 L ps W (hpW.below hW)
                rw [hno] at h; exact h
              obtain ⟨⟨gi, gs, gf⟩, hg⟩ : ∃ b, b = got L (fA ps 7 : Nat) := ⟨_, rfl⟩
              rw [← hg] at FD
              unfold bkv at FD
              simp only at FD
              have HBX := Lib.hid hbW
              clear sh1 sh2 hwf hpt hsnoc hpy hid hpW hT0 hsv hno hg hcell hbW
              go_wp2_with (first | (go_at_call 18; (with_reducible refine SHC.out.mono ?_); rintro e w6 ⟨rfl, hb6⟩) | (go_at_call 12; (with_reducible refine (FD.out _ hb6).mono ?_); rintro e w7 ⟨rfl, hb7⟩))
              go_ret
              have hfin := HBX.out.trans ((hb6.trans (hb7.mono hb6.size)).mono HBX.out.size)
              exact ⟨rfl, (HBW.out.trans (HB5.out.mono HBW.out.size)).trans ((hfin.alloc hfin.size _).mono (Nat.le_trans HBW.out.size HB5.out.size))⟩
            · rw [if_neg hT0, sh2 hT0] at SHC
              obtain ⟨r, hr1, hr2⟩ := sum_step T (sumP (ws.take k)) k sn py hT0 HTL.out hpt (by rw [HTT.out]; exact sumP_take ws k) (by omega) hsum.out
              rw [← hsnoc] at hr2
              have hadd : ∀ W, (binOp .add 30 (.float .f64 sn) (.float .f64 (quoW py T))).run Try.prog W = .ok (.float .f64 r) W := fun W => run_float_arith W .add 30 .f64 _ _ r hr1
              have HR2 := Lib.hid hr2
              have HT0 := Lib.hid hT0
              obtain ⟨z, hz9⟩ : ∃ z, z = quoW py T := ⟨_, rfl⟩
              rw [← hz9] at SHC hadd
              have HBX := Lib.hid hbW
              clear sh1 sh2 hwf hpt hsnoc hpy hid hpW hT0 hr1 hr2 hz9 hcell hbW
              go_wp2_with (go_at_call 18; (with_reducible refine SHC.out.mono ?_); rintro e w6 ⟨rfl, hb6⟩; have ha6 := hadd w6)
              exact ⟨⟨k + 1, r, by omega, by go_num, rfl, HR2, (fun _ => HT0.out), HBX.out.trans (hb6.mono HBX.out.size)⟩, by simp [intOf] <;> omega⟩
          · obtain rfl : k = L.length := by omega
            have HFIN : Hid (Below w.heap.size w wr) := (HBW.out.trans (HB5.out.mono HBW.out.size)).trans (hbW.mono (Nat.le_trans HBW.out.size HB5.out.size))
            by_cases hL0 : L.length = 0
            · have hL1 : (L.length : Int) = 0 := by omega
              clear hbW
              go_wp2_with (fail)
              go_ret
              exact ⟨rfl, HFIN.out⟩
            · have hT0 := hpos.out (by omega)
              obtain ⟨f1, f2⟩ := sum_end T L.length sn hT0 (by omega) (by have h := hsum.out; rw [← HWL.out, List.take_length, ← HTT.out, HWL.out] at h; exact h)
              replace f1 : (FloatKind.f64.format.order sn 4607182409792818153 == some .gt) = true := f1
              replace f2 : (FloatKind.f64.format.order sn 4607182423303617035 == some .lt) = true := f2
              have hL1 : ((L.length : Int) == 0) = false := by rw [beq_eq_false_iff_ne]; omega
              clear hbW hT0
              go_wp2_with (fail)
              go_ret
              exact ⟨rfl, HFIN.out⟩
theorem stays_walk (w : World) (cs : List Ac) (a : Option Addr) (cap : Nat) (hin : ActIn w a cs) (hok : ActOk cs) :
    Calls Try.prog 5 #[.slice a cs.length cap] w fun e w' => e = .returned (.bool true) ∧ Below w.heap.size w w' := staysA cs a cap w hin hok
end Go.Proofs.Ytgonagkhnkhcnaa
