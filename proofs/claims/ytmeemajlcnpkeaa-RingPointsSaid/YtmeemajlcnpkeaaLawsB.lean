import Derived.Test.YtmeemajlcnpkeaaLawsA
import Derived.Deep.QuietTactic
import Derived.BigQuiet
/- RingPoints: the walk. -/
namespace Go.Proofs.Ytmeemajlcnpkeaa
open Go.RowKit
theorem below_drewN {B : Nat} {a w : World} (h : Below B a w) (n : Nat) : Below B a (w.drewN n) := ⟨h.os, h.tape, h.output, h.size, h.block⟩
theorem lb_self (ps : List (Nat × Nat)) (hs : ps.Pairwise ptle) (i : Nat) (hi : i < ps.length) : lb ps ps[i].1 ≤ i ∧ ∃ h : lb ps ps[i].1 < ps.length, ps[lb ps ps[i].1].1 = ps[i].1 ∧ own ps ps[i].1 = ps[lb ps ps[i].1].2 := by
  obtain ⟨h1, h2, h3⟩ := lb_spec ps ps[i].1 hs
  have hle : lb ps ps[i].1 ≤ i := by
    rcases Nat.lt_or_ge i (lb ps ps[i].1) with h | h
    · exact absurd (h2 i hi h) (Nat.lt_irrefl _)
    · exact h
  have hlt : lb ps ps[i].1 < ps.length := by omega
  refine ⟨hle, hlt, Nat.le_antisymm (sorted_le hs hle hi) (h3 _ hlt (Nat.le_refl _)), ?_⟩
  unfold own
  rw [dif_pos (Nat.mod_lt _ (by omega))]
  simp only [Nat.mod_eq_of_lt hlt]
set_option maxRecDepth 100000 in
set_option maxHeartbeats 4000000 in
theorem pointsA (bs : List Bk) (a : Option Addr) (cap : Nat) (w : World) (hin : BkIn w a bs) (hok : BkOk bs) :
    Calls Try.prog 5 #[.slice a bs.length cap] w fun e w' => e = .returned (.bool true) ∧ Below w.heap.size w w' := by
  have A := Lib.hid (fun W => awake_any W)
  have F := Lib.hid (fun W hW => few_any bs a cap W (hin.below hW) hok)
  cases hf : fewB bs with
  | false =>
    rw [hf] at F
    clear hin hok hf
    go_enter Try.func5, Try.ntmps5
    go_wp2_with (first | (go_at_call 8; refine (A.out _).mono ?_; rintro e w1 ⟨rfl, hb1⟩) | (go_at_call 9; refine (F.out _ hb1).mono ?_; rintro e w2 ⟨rfl, rfl⟩))
    go_ret
    exact ⟨rfl, hb1⟩
  | true =>
    rw [hf] at F
    have hl := few_len bs hf
    have M := Lib.hid (fun W hW => made_any bs a cap W (by omega) (hin.below hW) hok)
    clear hin hok hf
    by_cases h0 : newE bs = 0
    · have hgl := gath_len bs bs.length (Nat.le_refl _)
      go_enter Try.func5, Try.ntmps5
      go_wp2_with (first | (go_at_call 8; refine (A.out _).mono ?_; rintro e w1 ⟨rfl, hb1⟩) | (go_at_call 9; refine (F.out _ hb1).mono ?_; rintro e w2 ⟨rfl, rfl⟩) | (go_at_call 20; refine (M.out _ hb1).mono ?_; rintro e w3 ⟨hb3, _, h9⟩; obtain ⟨R, v, ps, rfl, r1, r2, r3⟩ := h9 h0))
      have hlen : ps.length ≤ 1000000 := by have := r2.length_eq; omega
      have HB03 := Lib.hid (hb1.trans (hb3.mono hb1.size))
      refine (rpts_any _ R v ps w3 r1 hlen).mono ?_
      rintro e w4 ⟨v', rfl, q1, q2⟩
      have LN := Lib.hid (len_any _ R v ps w4 (r1.below q2))
      have HS := Lib.hid r3
      have FN : Hid (∀ i (hi : i < ps.length) W, Below w4.heap.size w4 W → Calls Try.prog 15 #[.pointer (some ⟨R, 0, none⟩), .int .u64 ps[i].1] W fun e w' => e = .returned (.tuple #[.int .i64 (own ps ps[i].1), .bool true]) ∧ Below W.heap.size W w') := fun i hi W hW => find_some _ R _ v ps W ((r1.below q2).below hW) r3 hlen (by omega)
      have PN : Hid (∀ (n : Nat) W, Below w4.heap.size w4 W → Calls Try.prog 18 #[.pointer (some ⟨R, 0, none⟩), .int .u64 n] W fun e w' => e = .returned (.int .i64 (lb ps n)) ∧ Below W.heap.size W w') := fun n W hW => place_any _ R n v ps W ((r1.below q2).below hW) r3 hlen
      have HQ2 := Lib.hid q2
      rcases Nat.eq_zero_or_pos ps.length with hz | hz
      · obtain rfl : ps = [] := List.eq_nil_of_length_eq_zero hz
        obtain ⟨a', c', rfl⟩ := q1.val
        replace LN : Hid (Calls Try.prog 17 #[.pointer (some ⟨R, 0, none⟩)] w4 fun e w' => e = .returned (.int .i64 0) ∧ w' = w4) := LN
        replace hz : ([] : List (Nat × Nat)).length = 0 := rfl
        rw [hz]
        clear r1 r2 r3 q1 q2 hb1 hb3 M F A h0 hgl HS FN PN
        go_wp2_with (go_at_call 17; refine LN.out.mono ?_; rintro e w5 ⟨rfl, rfl⟩)
        refine wp_loop_rounds 1 ?_
        rw [rounds_succ]
        go_wp2_with (fail)
        go_ret
        exact ⟨rfl, HB03.out.trans (HQ2.out.mono HB03.out.size)⟩
      · obtain ⟨g, c, rfl, hc⟩ := q1.shape hz
        have HC : Hid (∀ W, Below w4.heap.size w4 W → ∀ i (hi : i < ps.length), W.cell? ⟨g, i * 2, none⟩ = some (.int .u64 ps[i].1) ∧ W.cell? ⟨g, i * 2 + 1, none⟩ = some (.int .i64 ps[i].2)) := fun W hW i hi =>
          ⟨(hW.cell (World.block_lt_of_cell? w4 _ (hc i hi).1)).trans (hc i hi).1, (hW.cell (World.block_lt_of_cell? w4 _ (hc i hi).2)).trans (hc i hi).2⟩
        obtain ⟨len, hln⟩ : ∃ len, len = ps.length := ⟨_, rfl⟩
        rw [← hln] at LN ⊢
        have HLN := Lib.hid hln
        clear r1 r2 r3 q1 q2 hb1 hb3 M F A h0 hgl hc hln hz
        go_wp2_with (go_at_call 17; refine LN.out.mono ?_; rintro e w5 ⟨rfl, rfl⟩)
        clear LN
        go_loopw [5] (fun i wr => ∃ k : Nat, k ≤ len ∧ i = .int .i64 k ∧ Below w5.heap.size w5 wr) (fun i _ => len - (intOf i).toNat)
        case atStart => exact ⟨0, by omega, rfl, Below.refl _ _⟩
        case round =>
          obtain ⟨i, hi, rfl, hb⟩ := hrel
          by_cases hlt : i < len
          · have hlt2 : i < ps.length := by rw [← HLN.out]; exact hlt
            obtain ⟨s1, s2, s3, s4⟩ := lb_self ps HS.out i hlt2
            have F1 := FN.out i hlt2
            have P1 := PN.out ps[i].1
            have D1 : Hid (∀ W, Below w5.heap.size w5 W → W.cell? ⟨g, i * 2, none⟩ = some (.int .u64 ps[i].1) ∧ W.cell? ⟨g, lb ps ps[i].1 * 2, none⟩ = some (.int .u64 ps[i].1) ∧ W.cell? ⟨g, lb ps ps[i].1 * 2 + 1, none⟩ = some (.int .i64 (own ps ps[i].1))) := fun W hW => by
              obtain ⟨x0, x1⟩ := HC.out W hW i hlt2
              obtain ⟨y0, y1⟩ := HC.out W hW _ s2
              rw [s3] at y0
              exact ⟨x0, y0, by rw [s4]; exact y1⟩
            have D2 : Hid (0 < i → ∃ y z : Nat, wr.cell? ⟨g, (i - 1) * 2, none⟩ = some (.int .u64 y) ∧ wr.cell? ⟨g, (i - 1) * 2 + 1, none⟩ = some (.int .i64 z) ∧ (y < ps[i].1 ∨ (y = ps[i].1 ∧ z ≤ ps[i].2))) := fun h0 => by
              obtain ⟨y0, y1⟩ := HC.out wr hb (i - 1) (by omega)
              exact ⟨_, _, y0, y1, List.pairwise_iff_getElem.1 HS.out (i - 1) i (by omega) hlt2 (by omega)⟩
            obtain ⟨c0, c1⟩ := HC.out wr hb i hlt2
            obtain ⟨x, hx⟩ : ∃ x, x = ps[i].1 := ⟨_, rfl⟩
            obtain ⟨xi, hxi⟩ : ∃ x, x = ps[i].2 := ⟨_, rfl⟩
            rw [← hx] at c0 F1 P1 D1 D2 s1 s2
            rw [← hxi] at c1 D2
            obtain ⟨k, hk⟩ : ∃ k, k = lb ps x := ⟨_, rfl⟩
            obtain ⟨o, ho⟩ : ∃ o, o = own ps x := ⟨_, rfl⟩
            rw [← hk] at P1 D1 s1 s2
            rw [← ho] at F1 D1
            rw [← HLN.out] at s2
            have hil : (i : Int) < (len : Int) := by omega
            have hkl : (k : Int) < (len : Int) := by omega
            have hki : ¬ (k : Int) > (i : Int) := by omega
            have FH := Lib.hid F1
            have PH := Lib.hid P1
            have HB := Lib.hid hb
            clear s3 s4 hx hxi hk ho F1 P1 HC FN PN
            rcases Nat.eq_zero_or_pos i with hz | hz
            · have hz1 : ¬ (i : Int) > 0 := by omega
              have hz2 : ¬ 0 < i := by omega
              have hz3 : decide (0 < i) = false := decide_eq_false hz2
              clear D2 hz
              go_wp2_with (fail)
              go_quiet (fail)
              go_wp2_with (first | (go_at_call 15; refine (FH.out _ (below_drewN HB.out _)).mono ?_; rintro e w6 ⟨rfl, hb6⟩; have hc6 := (below_drewN HB.out _).trans (hb6.mono (below_drewN HB.out _).size); obtain ⟨g0, g1, g2⟩ := D1.out w6 hc6) | (go_at_call 18; refine (PH.out w6 hc6).mono ?_; rintro e w7 ⟨rfl, hb7⟩; have hc7 := hc6.trans (hb7.mono hc6.size); obtain ⟨g3, g4, g5⟩ := D1.out w7 hc7))
              go_quiet (fail)
              go_wp2_with (fail)
              exact ⟨⟨i + 1, by omega, by go_num, below_drewN hc7 _⟩, by simp [intOf] <;> omega⟩
            · obtain ⟨y, z, d0, d1, hyz⟩ := D2.out hz
              have hz1 : (i : Int) > 0 := by omega
              have hsub : IntKind.i64.wrap ((i : Int) - 1) = ((i - 1 : Nat) : Int) := by rw [IntKind.wrap_i64]; omega
              have hil1 : ((i - 1 : Nat) : Int) < (len : Int) := by omega
              clear D2
              rcases hyz with hyz | hyz
              · have t1 : decide (x < y) = false := decide_eq_false (by omega)
                have t2 : ((x : Int) == (y : Int)) = false := by rw [beq_eq_false_iff_ne]; omega
                have t3 : (x == y) = false := by rw [beq_eq_false_iff_ne]; omega
                have t4 : decide (x = y) = false := decide_eq_false (by omega)
                go_wp2_with (fail)
                go_quiet (fail)
                go_wp2_with (first | (go_at_call 15; refine (FH.out _ (below_drewN HB.out _)).mono ?_; rintro e w6 ⟨rfl, hb6⟩; have hc6 := (below_drewN HB.out _).trans (hb6.mono (below_drewN HB.out _).size); obtain ⟨g0, g1, g2⟩ := D1.out w6 hc6) | (go_at_call 18; refine (PH.out w6 hc6).mono ?_; rintro e w7 ⟨rfl, hb7⟩; have hc7 := hc6.trans (hb7.mono hc6.size); obtain ⟨g3, g4, g5⟩ := D1.out w7 hc7))
                go_quiet (fail)
                go_wp2_with (fail)
                exact ⟨⟨i + 1, by omega, by go_num, below_drewN hc7 _⟩, by simp [intOf] <;> omega⟩
              · have t1 : decide (x < y) = false := decide_eq_false (by omega)
                have t5 : decide (xi < z) = false := decide_eq_false (by omega)
                obtain ⟨hyx, _⟩ := hyz
                subst hyx
                go_wp2_with (fail)
                go_quiet (fail)
                go_wp2_with (first | (go_at_call 15; refine (FH.out _ (below_drewN HB.out _)).mono ?_; rintro e w6 ⟨rfl, hb6⟩; have hc6 := (below_drewN HB.out _).trans (hb6.mono (below_drewN HB.out _).size); obtain ⟨g0, g1, g2⟩ := D1.out w6 hc6) | (go_at_call 18; refine (PH.out w6 hc6).mono ?_; rintro e w7 ⟨rfl, hb7⟩; have hc7 := hc6.trans (hb7.mono hc6.size); obtain ⟨g3, g4, g5⟩ := D1.out w7 hc7))
                go_quiet (fail)
                go_wp2_with (fail)
                exact ⟨⟨i + 1, by omega, by go_num, below_drewN hc7 _⟩, by simp [intOf] <;> omega⟩
          · obtain rfl : i = len := by omega
            go_wp2_with (fail)
            go_ret
            exact ⟨rfl, HB03.out.trans ((HQ2.out.trans (hb.mono HQ2.out.size)).mono HB03.out.size)⟩
    · go_enter Try.func5, Try.ntmps5
      go_wp2_with (first | (go_at_call 8; refine (A.out _).mono ?_; rintro e w1 ⟨rfl, hb1⟩) | (go_at_call 9; refine (F.out _ hb1).mono ?_; rintro e w2 ⟨rfl, rfl⟩) | (go_at_call 20; refine (M.out _ hb1).mono ?_; rintro e w3 ⟨hb3, h9, _⟩; obtain rfl := h9 h0))
      go_ret
      exact ⟨rfl, hb1.trans (hb3.mono hb1.size)⟩
end Go.Proofs.Ytmeemajlcnpkeaa
