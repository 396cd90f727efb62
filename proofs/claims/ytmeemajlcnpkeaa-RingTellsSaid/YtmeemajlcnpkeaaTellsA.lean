import Derived.Test.YtmeemajlcnpkeaaRef22f
/- RingTells: the walk. -/
namespace Go.Proofs.Ytmeemajlcnpkeaa
open Go.RowKit
theorem lb_perm {ps qs : List (Nat × Nat)} (h : ps.Perm qs) (n : Nat) : lb ps n = lb qs n := h.countP_eq _
set_option maxRecDepth 100000 in
set_option maxHeartbeats 4000000 in
theorem tellsA (bs : List Bk) (a : Option Addr) (cap n : Nat) (w : World) (hin : BkIn w a bs) (hok : BkOk bs) :
    Calls Try.prog 3 #[.slice a bs.length cap, .int .u64 n] w fun e w' => e = .returned (.bool true) ∧ Below w.heap.size w w' := by
  have A := Lib.hid (fun W => awake_any W)
  have F := Lib.hid (fun W hW => few_any bs a cap W (hin.below hW) hok)
  cases hf : fewB bs with
  | false =>
    rw [hf] at F
    clear hin hok hf
    go_enter Try.func3, Try.ntmps3
    go_wp2_with (first | (go_at_call 8; refine (A.out _).mono ?_; rintro e w1 ⟨rfl, hb1⟩) | (go_at_call 9; refine (F.out _ hb1).mono ?_; rintro e w2 ⟨rfl, rfl⟩))
    go_ret
    exact ⟨rfl, hb1⟩
  | true =>
    rw [hf] at F
    have hl := few_len bs hf
    have N := Lib.hid (fun W hW => newA bs a cap W (by omega) (hin.below hW) hok)
    have K := Lib.hid (fun W hW => rcheck22_any bs a cap W (by omega) (hin.below hW) hok)
    have P := Lib.hid (fun W hW hall => rpoints22_any bs a cap W (by omega) (hin.below hW) hok hall)
    have HI : Hid (∀ W, Below w.heap.size w W → BkIn W a bs) := fun W hW => hin.below hW
    have HO := Lib.hid hok
    clear hin hok hf
    go_enter Try.func3, Try.ntmps3
    go_wp2_with (first | (go_at_call 8; refine (A.out _).mono ?_; rintro e w1 ⟨rfl, hb1⟩) | (go_at_call 9; refine (F.out _ hb1).mono ?_; rintro e w2 ⟨rfl, rfl⟩))
    go_loopw [5] (fun i wr => ∃ k : Nat, k ≤ bs.length ∧ i = .int .i64 k ∧ Below w.heap.size w wr) (fun i _ => bs.length - (intOf i).toNat)
    case atStart => exact ⟨0, by omega, rfl, hb1⟩
    case round =>
      obtain ⟨k, hk, rfl, hb⟩ := hrel
      by_cases hlt : k < bs.length
      · have HC : Hid (∀ W, Below w.heap.size w W → _) := fun W hW => HI.out W hW k hlt
        obtain ⟨x, rfl, c0, c1, c2⟩ := HI.out wr hb k hlt
        obtain ⟨o1, o2, o3⟩ := HO.out bs[k] (List.getElem_mem hlt)
        obtain ⟨⟨id, ad, wt⟩, hbk⟩ : ∃ b, b = bs[k] := ⟨_, rfl⟩
        rw [← hbk] at c0 c1 c2 o1 o2
        rw [← hbk] at HC
        simp only at c0 c1 c2 o1 o2
        have C := Lib.hid (fun W => rcheck_any ⟨id, ad, wt⟩ W o1 o2)
        have M := Lib.hid (fun W => rmay22_any ⟨id, ad, wt⟩ W o1)
        have HB := Lib.hid hb
        obtain ⟨len, hln⟩ : ∃ len, len = bs.length := ⟨_, rfl⟩
        rw [← hln]
        cases hk0 : bk_ok ⟨id, ad, wt⟩ with
        | true =>
          rw [hk0] at C M
          have C0 : Hid (∀ W, Calls Try.prog 10 #[.agg #[.int .i64 id, .string ad, .float .f64 wt]] W fun e w' => e = .returned (.int .i64 0) ∧ Below W.heap.size W w') := C.out
          have M0 : Hid (∀ W, Calls Try.prog 11 #[.agg #[.int .i64 id, .string ad, .float .f64 wt]] W fun e w' => e = .returned (.bool true) ∧ Below W.heap.size W w') := M.out
          clear o1 o2 o3 hbk hk0 hb C M
          go_wp2_with (fail)
          go_region_law (first | (go_simp; go_at_call 10; (with_reducible refine (C0.out _).mono ?_); rintro e w3 ⟨rfl, hb3⟩; obtain ⟨x', hx', d0, d1, d2⟩ := HC.out w3 ((HB.out.drew).trans (hb3.mono HB.out.size)); obtain rfl := Option.some.inj hx') | (go_simp; go_at_call 11; (with_reducible refine (M0.out _).mono ?_); rintro e w4 ⟨rfl, hb4⟩))
          all_goals (have hf4 := ((HB.out.drew).trans (hb3.mono HB.out.size)); replace hf4 := hf4.trans (hb4.mono hf4.size); clear hb3 hb4 d0 d1 d2 c0 c1 c2 HC C0 M0)
          all_goals simp [Exit.then, Act.put]
          all_goals go_wp2_with (fail)
          all_goals (first | exact ⟨⟨k + 1, by omega, by go_num, hf4⟩, by simp [intOf] <;> omega⟩ | exact ⟨⟨k + 1, by omega, by go_num⟩, by simp [intOf] <;> omega⟩)
        | false =>
          rw [hk0] at C M
          have C0 : Hid (∀ W, Calls Try.prog 10 #[.agg #[.int .i64 id, .string ad, .float .f64 wt]] W fun e w' => e = .returned (.int .i64 1) ∧ Below W.heap.size W w') := C.out
          have M0 : Hid (∀ W, Calls Try.prog 11 #[.agg #[.int .i64 id, .string ad, .float .f64 wt]] W fun e w' => e = .returned (.bool false) ∧ Below W.heap.size W w') := M.out
          clear o1 o2 o3 hbk hk0 hb C M
          go_wp2_with (fail)
          go_region_law (first | (go_simp; go_at_call 10; (with_reducible refine (C0.out _).mono ?_); rintro e w3 ⟨rfl, hb3⟩; obtain ⟨x', hx', d0, d1, d2⟩ := HC.out w3 ((HB.out.drew).trans (hb3.mono HB.out.size)); obtain rfl := Option.some.inj hx') | (go_simp; go_at_call 11; (with_reducible refine (M0.out _).mono ?_); rintro e w4 ⟨rfl, hb4⟩))
          all_goals (have hf4 := ((HB.out.drew).trans (hb3.mono HB.out.size)); replace hf4 := hf4.trans (hb4.mono hf4.size); clear hb3 hb4 d0 d1 d2 c0 c1 c2 HC C0 M0)
          all_goals simp [Exit.then, Act.put]
          all_goals go_wp2_with (fail)
          all_goals (first | exact ⟨⟨k + 1, by omega, by go_num, hf4⟩, by simp [intOf] <;> omega⟩ | exact ⟨⟨k + 1, by omega, by go_num⟩, by simp [intOf] <;> omega⟩)
      · obtain rfl : k = bs.length := by omega
        have HB := Lib.hid hb
        by_cases h0 : newE bs = 0
        · have hgl := gath_len bs bs.length (Nat.le_refl _)
          have hga := gath_all bs h0
          have hall := ((newE_zero bs).1 h0).1
          have K0 : Hid (∀ W, Below w.heap.size w W → Calls Try.prog 13 #[.slice a bs.length cap] W fun e w' => e = .returned (.int .i64 0) ∧ Below W.heap.size W w') := fun W hW => by
            have h := K.out W hW
            rw [h0] at h; exact h
          go_wp2_with (first | (go_at_call 12; refine (N.out _ hb).mono ?_; rintro e w3 ⟨hb3, _, h9⟩; obtain ⟨R, v, ps, rfl, r1, r2, r3⟩ := h9 h0; have hb03 := hb.trans (hb3.mono hb.size)) | (go_at_call 13; refine (K0.out _ hb03).mono ?_; rintro e w4 ⟨rfl, hb4⟩; have hb04 := hb03.trans (hb4.mono hb03.size)))
          refine (P.out _ hb04 hall).mono ?_
          rintro e w5 ⟨v', rfl, q1, q2⟩
          have hb05 := hb04.trans (q2.mono hb04.size)
          rw [hga] at r2 hgl
          have hle := r2.length_eq
          have hlen : ps.length ≤ 1000000 := by omega
          have hR4 := r1.below hb4
          have hR5 := hR4.below q2
          have HB05 := Lib.hid hb05
          have BE := Lib.hid (fun W (hW : Below w5.heap.size w5 W) => rbelow_any _ n v' (allPts bs) W (row_below q1 hW) (by omega))
          rw [← lb_perm r2 n] at BE
          have LE := Lib.hid (fun W hW => len_any _ R v ps W (hR5.below hW))
          have PN := Lib.hid (fun W hW => place_any _ R n v ps W (hR5.below hW) r3 hlen)
          rcases Nat.eq_zero_or_pos ps.length with hz | hz
          · obtain rfl : ps = [] := List.eq_nil_of_length_eq_zero hz
            have hz2 : (allPts bs).length = 0 := by rw [← hle]; rfl
            obtain ⟨a', c', rfl⟩ := q1.val
            rw [hz2] at BE ⊢
            have FN := Lib.hid (find_none _ R n v w5 hR5)
            have FR : Hid (∀ W, Calls Try.prog 16 #[.slice a' 0 c', .int .u64 n] W fun e w' => e = .returned (.tuple #[.int .i64 0, .bool false]) ∧ w' = W) := fun W => rfind_none n a' c' W
            replace LE : Hid (∀ W, Below w5.heap.size w5 W → Calls Try.prog 17 #[.pointer (some ⟨R, 0, none⟩)] W fun e w' => e = .returned (.int .i64 0) ∧ w' = W) := LE
            replace PN : Hid (∀ W, Below w5.heap.size w5 W → Calls Try.prog 18 #[.pointer (some ⟨R, 0, none⟩), .int .u64 n] W fun e w' => e = .returned (.int .i64 0) ∧ Below W.heap.size W w') := PN
            replace BE : Hid (∀ W, Below w5.heap.size w5 W → Calls Try.prog 19 #[.slice a' 0 c', .int .u64 n] W fun e w' => e = .returned (.int .i64 0) ∧ w' = W) := BE
            clear hR4 hR5 r1 r2 r3 q1 q2 hgl hga hall K0 K P N hlen hle hz hz2
            go_wp2_with (first | (go_at_call 15; refine (FN.out).mono ?_; rintro e w6 ⟨rfl, hb6⟩) | (go_at_call 16; refine (FR.out _).mono ?_; rintro e w7 ⟨rfl, rfl⟩) | (go_at_call 17; refine (LE.out _ hb6).mono ?_; rintro e w8 ⟨rfl, rfl⟩) | (go_at_call 18; refine (PN.out _ hb6).mono ?_; rintro e w9 ⟨rfl, hb9⟩; have hb69 := hb6.trans (hb9.mono hb6.size)) | (go_at_call 19; refine (BE.out _ hb69).mono ?_; rintro e w10 ⟨rfl, rfl⟩))
            go_ret
            exact ⟨rfl, HB05.out.trans (hb69.mono HB05.out.size)⟩
          · obtain ⟨g, c, rfl, hc⟩ := q1.shape (by omega)
            have FN := Lib.hid (find_some _ R n v ps w5 hR5 r3 hlen hz)
            have FR := Lib.hid (fun W (hW : Below w5.heap.size w5 W) => rfind_some _ g c n (allPts bs) ps W (row_below q1 hW) (by omega) (by omega) r2 r3)
            obtain ⟨len, hln⟩ : ∃ len, len = (allPts bs).length := ⟨_, rfl⟩
            obtain ⟨o, ho⟩ : ∃ o, o = own ps n := ⟨_, rfl⟩
            obtain ⟨k, hk⟩ : ∃ k, k = lb ps n := ⟨_, rfl⟩
            rw [hle, ← hln] at LE
            rw [← hk] at PN BE
            rw [← ho] at FN FR
            rw [← hln] at FR BE ⊢
            clear hR4 hR5 r1 r2 r3 q1 q2 hgl hga hall K0 K P N hlen hz hc hle hln ho hk
            go_wp2_with (first | (go_at_call 15; (with_reducible refine (FN.out).mono ?_); rintro e w6 ⟨rfl, hb6⟩) | (go_at_call 16; (with_reducible refine (FR.out _ hb6).mono ?_); rintro e w7 ⟨rfl, hb7⟩; have hb67 := hb6.trans (hb7.mono hb6.size)) | (go_at_call 17; (with_reducible refine (LE.out _ hb67).mono ?_); rintro e w8 ⟨rfl, rfl⟩) | (go_at_call 18; (with_reducible refine (PN.out _ hb67).mono ?_); rintro e w9 ⟨rfl, hb9⟩; have hb69 := hb67.trans (hb9.mono hb67.size)) | (go_at_call 19; (with_reducible refine (BE.out _ hb69).mono ?_); rintro e w10 ⟨rfl, rfl⟩))
            go_ret
            exact ⟨rfl, HB05.out.trans (hb69.mono HB05.out.size)⟩
        · obtain ⟨r, hr⟩ : ∃ r, r = newE bs := ⟨_, rfl⟩
          have hr0 : (r == 0) = false := by rw [beq_eq_false_iff_ne, hr]; exact h0
          have N0 : Hid (∀ W, Below w.heap.size w W → Calls Try.prog 12 #[.slice a bs.length cap] W fun e w' => e = .returned (.tuple #[.pointer none, .int .i64 r]) ∧ Below W.heap.size W w') := fun W hW => (N.out W hW).mono fun e w' h => by rw [hr]; exact ⟨h.2.1 h0, h.1⟩
          rw [← hr] at K
          have hr2 : (!(r != 0)) = false := by simp [bne, hr0]
          have hr3 : (r != 0) = true := by simp [bne, hr0]
          clear h0 hr N P
          go_wp2_with (first | (go_at_call 12; refine (N0.out _ hb).mono ?_; rintro e w3 ⟨rfl, hb3⟩; have hb03 := hb.trans (hb3.mono hb.size)) | (go_at_call 13; refine (K.out _ hb03).mono ?_; rintro e w4 ⟨rfl, hb4⟩; have hb04 := hb03.trans (hb4.mono hb03.size)))
          go_ret
          exact ⟨rfl, hb04⟩
theorem tells_walk (w : World) (bs : List Bk) (a : Option Addr) (cap : Nat) (hin : BkIn w a bs) (hok : BkOk bs) (_ : bs.length ≤ cap) (_ : cap ≤ maxLen) (_ : a = none → bs.length = 0 ∧ cap = 0) (n : Nat) (_ : n < 18446744073709551616) :
    Calls Try.prog 3 #[.slice a bs.length cap, .int .u64 n] w fun e w' => e = .returned (.bool true) ∧ Below w.heap.size w w' := tellsA bs a cap n w hin hok
end Go.Proofs.Ytmeemajlcnpkeaa
