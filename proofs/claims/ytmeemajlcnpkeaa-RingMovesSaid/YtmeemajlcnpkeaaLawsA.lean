import Derived.Test.YtmeemajlcnpkeaaMade2
import Derived.Test.YtmeemajlcnpkeaaOpen
/- RingShares: the walk. -/
namespace Go.Proofs.Ytmeemajlcnpkeaa
open Go.RowKit
theorem lb_ex (ps : List (Nat × Nat)) (n : Nat) (hs : ps.Pairwise ptle) : ∃ k, k ≤ ps.length ∧ (∀ t (h : t < ps.length), t < k → ps[t].1 < n) ∧ (∀ t (h : t < ps.length), k ≤ t → n ≤ ps[t].1) := by
  induction ps with
  | nil => refine ⟨0, Nat.le_refl _, ?_, ?_⟩ <;> (intro t h; cases h)
  | cons p t ih =>
    rw [List.pairwise_cons] at hs
    by_cases hp : p.1 < n
    · obtain ⟨k, h1, h2, h3⟩ := ih hs.2
      refine ⟨k + 1, by simp; omega, fun i h hi => ?_, fun i h hi => ?_⟩
      · cases i with
        | zero => exact hp
        | succ i => exact h2 i (by simpa using h) (by omega)
      · cases i with
        | zero => omega
        | succ i => exact h3 i (by simpa using h) (by omega)
    · refine ⟨0, Nat.zero_le _, fun i h hi => by omega, fun i h _ => ?_⟩
      cases i with
      | zero => show n ≤ p.1; omega
      | succ i =>
        have hi : i < t.length := by simpa using h
        have := hs.1 _ (List.getElem_mem hi)
        show n ≤ t[i].1
        rcases this with h | ⟨h, _⟩ <;> omega
theorem lb_spec (ps : List (Nat × Nat)) (n : Nat) (hs : ps.Pairwise ptle) : lb ps n ≤ ps.length ∧ (∀ t (h : t < ps.length), t < lb ps n → ps[t].1 < n) ∧ (∀ t (h : t < ps.length), lb ps n ≤ t → n ≤ ps[t].1) := by
  obtain ⟨k, h1, h2, h3⟩ := lb_ex ps n hs
  rw [lb_split ps n k h1 h2 h3]
  exact ⟨h1, h2, h3⟩
theorem BkIn.below {w w' : World} {a : Option Addr} {bs : List Bk} (h : BkIn w a bs) (hb : Below w.heap.size w w') : BkIn w' a bs := by
  intro j hj
  obtain ⟨x, hx, c0, c1, c2⟩ := h j hj
  exact ⟨x, hx, (hb.cell (World.block_lt_of_cell? w _ c0)).trans c0, (hb.cell (World.block_lt_of_cell? w _ c1)).trans c1, (hb.cell (World.block_lt_of_cell? w _ c2)).trans c2⟩
theorem few_len (bs : List Bk) (h : fewB bs = true) : bs.length ≤ 81 := by
  unfold fewB at h
  rw [Bool.and_eq_true] at h
  exact of_decide_eq_true h.1
theorem row_le {B : Nat} {v : Value} {ps : List (Nat × Nat)} {w w1 W : World} (h : Row B v ps w1) (hb : Below w1.heap.size w1 W) : Row B v ps W := row_below h hb
set_option maxRecDepth 100000 in
set_option maxHeartbeats 4000000 in
theorem sharesA (bs : List Bk) (a : Option Addr) (cap n : Nat) (w : World) (hin : BkIn w a bs) (hok : BkOk bs) :
    Calls Try.prog 7 #[.slice a bs.length cap, .int .u64 n] w fun e w' => e = .returned (.bool true) ∧ Below w.heap.size w w' := by
  have A := Lib.hid (fun W => awake_any W)
  have F := Lib.hid (fun W hW => few_any bs a cap W (hin.below hW) hok)
  cases hf : fewB bs with
  | false =>
    rw [hf] at F
    clear hin hok hf
    go_enter Try.func7, Try.ntmps7
    go_wp2_with (first | (go_at_call 8; refine (A.out _).mono ?_; rintro e w1 ⟨rfl, hb1⟩) | (go_at_call 9; refine (F.out _ hb1).mono ?_; rintro e w2 ⟨rfl, rfl⟩))
    go_ret
    exact ⟨rfl, hb1⟩
  | true =>
    rw [hf] at F
    have hl := few_len bs hf
    have M := Lib.hid (fun W hW => made_any bs a cap W (by omega) (hin.below hW) hok)
    clear hin hok hf
    by_cases h0 : newE bs = 0
    · have hgl := gath_len bs bs.length (Nat.le_refl _)
      go_enter Try.func7, Try.ntmps7
      go_wp2_with (first | (go_at_call 8; refine (A.out _).mono ?_; rintro e w1 ⟨rfl, hb1⟩) | (go_at_call 9; refine (F.out _ hb1).mono ?_; rintro e w2 ⟨rfl, rfl⟩) | (go_at_call 20; refine (M.out _ hb1).mono ?_; rintro e w3 ⟨hb3, _, h9⟩; obtain ⟨R, v, ps, rfl, r1, r2, r3⟩ := h9 h0))
      have hlen : ps.length ≤ 1000000 := by have := r2.length_eq; omega
      have hb03 := hb1.trans (hb3.mono hb1.size)
      have HB03 := Lib.hid hb03
      rcases Nat.eq_zero_or_pos ps.length with hz | hz
      · obtain rfl : ps = [] := List.eq_nil_of_length_eq_zero hz
        refine (rpts_any _ R v [] w3 r1 hlen).mono ?_
        rintro e w4 ⟨v', rfl, q1, q2⟩
        obtain ⟨a', c', rfl⟩ := q1.val
        have FN := Lib.hid (find_none _ R n v w4 (r1.below q2))
        have PN : Hid (∀ W, Below w4.heap.size w4 W → Calls Try.prog 18 #[.pointer (some ⟨R, 0, none⟩), .int .u64 n] W fun e w' => e = .returned (.int .i64 0) ∧ Below W.heap.size W w') := fun W hW => place_any _ R n v [] W ((r1.below q2).below hW) r3 hlen
        have HQ2 := Lib.hid q2
        clear r1 r2 r3 q1 q2 hb1 hb3 hb03 M F A h0 hgl
        replace hz : ([] : List (Nat × Nat)).length = 0 := rfl
        rw [hz]
        go_wp2_with (first | (go_at_call 15; refine FN.out.mono ?_; rintro e w5 ⟨rfl, hb5⟩) | (go_at_call 18; refine (PN.out _ hb5).mono ?_; rintro e w6 ⟨rfl, hb6⟩))
        go_ret
        exact ⟨rfl, HB03.out.trans ((HQ2.out.trans ((hb5.trans (hb6.mono hb5.size)).mono HQ2.out.size)).mono HB03.out.size)⟩
      · obtain ⟨k1, k2, k3⟩ := lb_spec ps n r3
        have hkm : lb ps n % ps.length < ps.length := Nat.mod_lt _ hz
        refine (rpts_any _ R v ps w3 r1 hlen).mono ?_
        rintro e w4 ⟨v', rfl, q1, q2⟩
        have FN := Lib.hid (find_some _ R n v ps w4 (r1.below q2) r3 hlen hz)
        have PN := Lib.hid (fun W (hW : Below w4.heap.size w4 W) => place_any _ R n v ps W ((r1.below q2).below hW) r3 hlen)
        obtain ⟨g, c, rfl, hc⟩ := q1.shape hz
        have HC := Lib.hid hc
        have HQ2 := Lib.hid q2
        obtain ⟨k, hk⟩ : ∃ k, k = lb ps n := ⟨_, rfl⟩
        obtain ⟨len, hln⟩ : ∃ len, len = ps.length := ⟨_, rfl⟩
        obtain ⟨o, ho⟩ : ∃ o, o = own ps n := ⟨_, rfl⟩
        have ho2 : ps[lb ps n % ps.length].2 = o := by rw [ho]; unfold own; rw [dif_pos hkm]
        have HM : Hid (∀ W, Below w4.heap.size w4 W → W.cell? ⟨g, (k % len) * 2 + 1, none⟩ = some (.int .i64 o)) := fun W hW => by
          have h := (HC.out _ hkm).2
          rw [ho2, ← hk, ← hln] at h
          exact (hW.cell (World.block_lt_of_cell? w4 _ h)).trans h
        have HL : Hid (∀ W, Below w4.heap.size w4 W → 0 < k → ∃ m : Nat, ¬ ((m : Int) ≥ (n : Int)) ∧ W.cell? ⟨g, (k - 1) * 2, none⟩ = some (.int .u64 m)) := fun W hW h1 => by
          have h := (HC.out (k - 1) (by omega)).1
          have h2 := k2 (k - 1) (by omega) (by omega)
          exact ⟨_, by omega, (hW.cell (World.block_lt_of_cell? w4 _ h)).trans h⟩
        have HG : Hid (∀ W, Below w4.heap.size w4 W → k < len → ∃ m : Nat, ¬ ((m : Int) < (n : Int)) ∧ W.cell? ⟨g, k * 2, none⟩ = some (.int .u64 m)) := fun W hW h1 => by
          have h := (HC.out k (by omega)).1
          have h2 := k3 k (by omega) (by omega)
          exact ⟨_, by omega, (hW.cell (World.block_lt_of_cell? w4 _ h)).trans h⟩
        rw [← ho] at FN
        rw [← hk] at PN
        rw [← hln]
        have hkl : k ≤ len := by omega
        have hlen2 : len ≤ 1000000 := by omega
        have hl0 : ¬ len = 0 := by omega
        have hl1 : ((len : Int) == 0) = false := by rw [beq_eq_false_iff_ne]; omega
        have hrem : (k : Int).tmod (len : Int) = ((k % len : Nat) : Int) := (Int.ofNat_tmod k len).symm
        obtain ⟨r, hr⟩ : ∃ r, r = k % len := ⟨_, rfl⟩
        have hrl : r < len := by rw [hr]; exact Nat.mod_lt _ (by omega)
        rw [← hr] at HM hrem
        have hrl' : (r : Int) < (len : Int) := by omega
        clear r1 r2 r3 q1 q2 hb1 hb3 hb03 M F A h0 hgl hc HC k1 k2 k3 hkm ho2 ho hk hln hr hrl
        have hk0 : ¬ (k : Int) < 0 := by omega
        have hk1 : ¬ (k : Int) > (len : Int) := by omega
        by_cases hkz : 0 < k
        · have hkz' : (k : Int) > 0 := by omega
          have hsub : IntKind.i64.wrap ((k : Int) - 1) = ((k - 1 : Nat) : Int) := by rw [IntKind.wrap_i64]; omega
          by_cases hkn : k < len
          · have hkn' : (k : Int) < (len : Int) := by omega
            go_wp2_with (first | (go_at_call 15; refine FN.out.mono ?_; rintro e w5 ⟨rfl, hb5⟩) | (go_at_call 18; refine (PN.out _ hb5).mono ?_; rintro e w6 ⟨rfl, hb6⟩; have hb46 := hb5.trans (hb6.mono hb5.size); have g1 := HM.out w6 hb46; obtain ⟨m1, g2, g3⟩ := HL.out w6 hb46 hkz; obtain ⟨m2, g4, g5⟩ := HG.out w6 hb46 hkn))
            go_ret
            exact ⟨rfl, HB03.out.trans ((HQ2.out.trans (hb46.mono HQ2.out.size)).mono HB03.out.size)⟩
          · have hkn' : ¬ (k : Int) < (len : Int) := by omega
            go_wp2_with (first | (go_at_call 15; refine FN.out.mono ?_; rintro e w5 ⟨rfl, hb5⟩) | (go_at_call 18; refine (PN.out _ hb5).mono ?_; rintro e w6 ⟨rfl, hb6⟩; have hb46 := hb5.trans (hb6.mono hb5.size); have g1 := HM.out w6 hb46; obtain ⟨m1, g2, g3⟩ := HL.out w6 hb46 hkz))
            go_ret
            exact ⟨rfl, HB03.out.trans ((HQ2.out.trans (hb46.mono HQ2.out.size)).mono HB03.out.size)⟩
        · have hkz' : ¬ (k : Int) > 0 := by omega
          have hkn : k < len := by omega
          have hkn' : (k : Int) < (len : Int) := by omega
          go_wp2_with (first | (go_at_call 15; refine FN.out.mono ?_; rintro e w5 ⟨rfl, hb5⟩) | (go_at_call 18; refine (PN.out _ hb5).mono ?_; rintro e w6 ⟨rfl, hb6⟩; have hb46 := hb5.trans (hb6.mono hb5.size); have g1 := HM.out w6 hb46; obtain ⟨m2, g4, g5⟩ := HG.out w6 hb46 hkn))
          go_ret
          exact ⟨rfl, HB03.out.trans ((HQ2.out.trans (hb46.mono HQ2.out.size)).mono HB03.out.size)⟩
    · go_enter Try.func7, Try.ntmps7
      go_wp2_with (first | (go_at_call 8; refine (A.out _).mono ?_; rintro e w1 ⟨rfl, hb1⟩) | (go_at_call 9; refine (F.out _ hb1).mono ?_; rintro e w2 ⟨rfl, rfl⟩) | (go_at_call 20; refine (M.out _ hb1).mono ?_; rintro e w3 ⟨hb3, h9, _⟩; obtain rfl := h9 h0))
      go_ret
      exact ⟨rfl, hb1.trans (hb3.mono hb1.size)⟩
theorem shares_walk (w : World) (bs : List Bk) (a : Option Addr) (cap : Nat) (hin : BkIn w a bs) (hok : BkOk bs) (_ : bs.length ≤ cap) (_ : cap ≤ maxLen) (_ : a = none → bs.length = 0 ∧ cap = 0) (n : Nat) (_ : n < 18446744073709551616) :
    Calls Try.prog 7 #[.slice a bs.length cap, .int .u64 n] w fun e w' => e = .returned (.bool true) ∧ Below w.heap.size w w' := sharesA bs a cap n w hin hok
end Go.Proofs.Ytmeemajlcnpkeaa
