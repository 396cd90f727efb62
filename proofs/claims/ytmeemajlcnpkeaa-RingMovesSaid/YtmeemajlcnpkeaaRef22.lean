import Derived.Test.YtmeemajlcnpkeaaRefHash2
import Derived.Test.YtmeemajlcnpkeaaMade2
/- The document's ring: which backends may be, which number lies where. -/
namespace Go.Proofs.Ytmeemajlcnpkeaa
open Go.RowKit
set_option maxRecDepth 100000 in
set_option maxHeartbeats 1000000 in
theorem rmay22_any (b : Bk) (w : World) (hw : b.wt < W64) :
    Calls Try.prog 11 #[bkv b] w fun e w' => e = .returned (.bool (bk_ok b)) ∧ Below w.heap.size w w' := by
  obtain ⟨id, ad, wt⟩ := b
  unfold bkv
  simp only at hw ⊢
  obtain ⟨r, hr⟩ : ∃ r, r = bk_ok ⟨id, ad, wt⟩ := ⟨_, rfl⟩
  rw [← hr]
  have HR := Lib.hid hr
  have C := Lib.hid (fun W => rmay_any wt W hw)
  obtain ⟨q, hq⟩ : ∃ q, q = FM.may wt := ⟨_, rfl⟩
  rw [← hq] at C
  have HQ := Lib.hid hq
  clear hr hq hw
  by_cases h1 : (1 : Int) ≤ id
  · by_cases h2 : id ≤ 65535
    · cases h3 : ((ad.size : Int) == 4) with
      | true =>
        have h4 : ad.size = 4 := by have := beq_iff_eq.1 h3; omega
        have e0 : r = q := by
          rw [HR.out, HQ.out]; unfold bk_ok; simp only
          rw [decide_eq_true h1, decide_eq_true h2, decide_eq_true h4]; rfl
        subst e0
        clear h4
        go_enter Try.func11, Try.ntmps11
        go_wp2_with (go_at_call 23; refine (C.out _).mono ?_; rintro e w1 ⟨rfl, rfl⟩)
        go_ret
        exact ⟨rfl, (Below.refl _ w).alloc (Nat.le_refl _) _⟩
      | false =>
        have h4 : ¬ ad.size = 4 := by intro h; rw [h] at h3; exact absurd h3 (by decide)
        have e0 : r = false := by
          rw [HR.out]; unfold bk_ok; simp only
          rw [decide_eq_false h4, Bool.and_false, Bool.false_and]
        subst e0
        clear h4
        go_enter Try.func11, Try.ntmps11
        go_wp2_with (fail)
        go_ret
        exact ⟨rfl, (Below.refl _ w).alloc (Nat.le_refl _) _⟩
    · have e0 : r = false := by
        rw [HR.out]; unfold bk_ok; simp only
        rw [decide_eq_false h2, Bool.and_false, Bool.false_and, Bool.false_and]
      subst e0
      go_enter Try.func11, Try.ntmps11
      go_wp2_with (fail)
      go_ret
      exact ⟨rfl, (Below.refl _ w).alloc (Nat.le_refl _) _⟩
  · have e0 : r = false := by
      rw [HR.out]; unfold bk_ok; simp only
      rw [decide_eq_false h1, Bool.false_and, Bool.false_and, Bool.false_and]
    subst e0
    go_enter Try.func11, Try.ntmps11
    go_wp2_with (fail)
    go_ret
    exact ⟨rfl, (Below.refl _ w).alloc (Nat.le_refl _) _⟩
theorem lb_take (ps : List (Nat × Nat)) (n k : Nat) (h : k < ps.length) : lb (ps.take (k + 1)) n = lb (ps.take k) n + (if ps[k].1 < n then 1 else 0) := by
  unfold lb
  rw [take_one ps k h, List.countP_append]
  by_cases hp : ps[k].1 < n
  · rw [if_pos hp]; simp [hp]
  · rw [if_neg hp]; simp [hp]
set_option maxRecDepth 100000 in
set_option maxHeartbeats 1000000 in
theorem rbelow_any (B n : Nat) (v : Value) (ps : List (Nat × Nat)) (w : World) (h : Row B v ps w) (hl : ps.length ≤ 1000000) :
    Calls Try.prog 19 #[v, .int .u64 n] w fun e w' => e = .returned (.int .i64 (lb ps n)) ∧ w' = w := by
  obtain ⟨a, c, rfl⟩ := h.val
  have HC : Hid (∀ k (hk : k < ps.length), ∃ g, a = some ⟨g, 0, none⟩ ∧ w.cell? ⟨g, k * 2, none⟩ = some (.int .u64 ps[k].1)) := fun k hk => by
    obtain ⟨g, c', e, hc⟩ := h.shape (by omega)
    injection e with e _ _
    exact ⟨g, e, (hc k hk).1⟩
  obtain ⟨len, hln⟩ : ∃ len, len = ps.length := ⟨_, rfl⟩
  rw [← hln]
  have HLN := Lib.hid hln
  have hl2 : len ≤ 1000000 := by omega
  clear h hln hl
  go_enter Try.func19, Try.ntmps19
  go_wp2_with (fail)
  go_loop [5, 6] (fun x i => ∃ k : Nat, k ≤ len ∧ i = .int .i64 k ∧ x = .int .i64 (lb (ps.take k) n)) (fun _ i => len - (intOf i).toNat)
  case atStart => exact ⟨0, by omega, rfl, rfl⟩
  case round =>
    obtain ⟨k, hk, rfl, rfl⟩ := hrel
    by_cases hlt : k < len
    · have hlt2 : k < ps.length := by rw [← HLN.out]; exact hlt
      obtain ⟨g, rfl, c0⟩ := HC.out k hlt2
      have hs := lb_take ps n k hlt2
      have hle : lb (ps.take k) n ≤ k := by unfold lb; exact Nat.le_trans (List.countP_le_length) (by rw [List.length_take]; omega)
      obtain ⟨x, hx⟩ : ∃ x, x = ps[k].1 := ⟨_, rfl⟩
      obtain ⟨y, hy⟩ : ∃ y, y = lb (ps.take k) n := ⟨_, rfl⟩
      rw [← hx] at c0 hs
      rw [← hy] at hs hle ⊢
      have HS := Lib.hid hs
      clear hx hy hs
      by_cases hxn : x < n
      · have hxn' : (x : Int) < (n : Int) := by omega
        go_wp2_with (fail)
        go_round
        case rel => exact ⟨k + 1, by omega, by go_num, by rw [HS.out, if_pos hxn]; go_num⟩
        case measure => simp [intOf]; omega
      · have hxn' : ¬ (x : Int) < (n : Int) := by omega
        go_wp2_with (fail)
        go_round
        case rel => exact ⟨k + 1, by omega, by go_num, by rw [HS.out, if_neg hxn]; rfl⟩
        case measure => simp [intOf]; omega
    · obtain rfl : k = len := by omega
      have e1 : Hid (lb (ps.take k) n = lb ps n) := show _ = _ by rw [HLN.out, List.take_length]
      go_wp2_with (fail)
      go_ret
      refine ⟨?_, rfl⟩
      rw [← e1.out]; rfl
end Go.Proofs.Ytmeemajlcnpkeaa
