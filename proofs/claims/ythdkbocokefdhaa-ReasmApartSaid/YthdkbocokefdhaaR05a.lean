import Derived.Test.YthdkbocokefdhaaRefS
import Derived.Test.YthdkbocokefdhaaGetR
/- The document's small functions of layer 5. -/
namespace Go.Proofs.Ythdkbocokefdhaa
set_option maxRecDepth 100000
open Go.RowKit
set_option maxHeartbeats 1000000 in
theorem rin_any (n lo hi : Int) (w : World) : Calls Try.prog 69 #[.int .i64 n, .int .i64 lo, .int .i64 hi] w fun e w' => e = .returned (.bool (decide (lo ≤ n) && decide (n ≤ hi))) ∧ w' = w := by
  by_cases h1 : lo ≤ n
  · have e1 : n ≥ lo := h1
    have e2 : decide (n ≥ lo) = true := decide_eq_true e1
    rw [decide_eq_true h1, Bool.true_and]
    go_enter Try.func69, Try.ntmps69
    go_wp2_with (fail)
    go_ret
    exact ⟨rfl, rfl⟩
  · have e1 : ¬ n ≥ lo := h1
    have e2 : decide (n ≥ lo) = false := decide_eq_false e1
    rw [decide_eq_false h1, Bool.false_and]
    go_enter Try.func69, Try.ntmps69
    go_wp2_with (fail)
    go_ret
    exact ⟨rfl, rfl⟩
set_option maxHeartbeats 1000000 in
theorem rnum_any (n m : Nat) (hn : n < 9223372036854775808) (hm : m ≤ 8) (w : World) : Calls Try.prog 46 #[.int .i64 n, .int .i64 m] w fun e w' => e = .returned (.string (bs (be n m))) ∧ Below w.heap.size w w' := by
  have C := Lib.hid (rbytes_any n m w (by omega) hm)
  have e1 : (n : Int) % 18446744073709551616 = (n : Int) := by omega
  go_enter Try.func46, Try.ntmps46
  go_wp2_with (go_at_call 70; (with_reducible refine C.out.mono ?_); rintro e w1 ⟨rfl, hb1⟩)
  go_ret
  exact ⟨rfl, hb1⟩
set_option maxHeartbeats 1000000 in
theorem rat_any (s : ByteArray) (a n b : Nat) (w : World) (hb : b = a + n) (hn : n ≤ 2) (hs : b ≤ s.size) (hs9 : s.size ≤ 1000000) : Calls Try.prog 51 #[.string s, .int .i64 a, .int .i64 n] w fun e w' => e = .returned (.int .i64 (bv ((s.data.toList.drop a).take n) : Nat)) ∧ w' = w := by
  have C0 := rvalue_any (s.extract a b) w (by rw [ByteArray.size_extract]; omega)
  rw [ext_list, show b - a = n by omega] at C0
  obtain ⟨v, hv⟩ : ∃ v, v = bv ((s.data.toList.drop a).take n) := ⟨_, rfl⟩
  have hvl : v < 65536 := by
    rw [hv]
    have h1 := bv_lt ((s.data.toList.drop a).take n)
    have h2 : ((s.data.toList.drop a).take n).length ≤ 2 := by rw [List.length_take]; omega
    have h3 : 256 ^ ((s.data.toList.drop a).take n).length ≤ 256 ^ 2 := Nat.pow_le_pow_right (by decide) h2
    omega
  rw [← hv] at C0 ⊢
  have C := Lib.hid C0
  have e1 : (a : Int) + (n : Int) = (b : Int) := by omega
  have e2 : (b : Int) ≤ (s.size : Int) := by omega
  have e3 : (a : Int) ≤ (b : Int) := by omega
  have e4 : (0 : Int) ≤ (a : Int) := by omega
  have e5 : (a : Int).toNat = a := by omega
  have e6 : (b : Int).toNat = b := by omega
  have e7 : IntKind.i64.wrap (v : Int) = (v : Int) := IntWalk.i64_in _ (by omega)
  have e8 : a ≤ b := by omega
  clear hv C0 hb
  go_enter Try.func51, Try.ntmps51
  go_wp2_with (go_at_call 76; (with_reducible refine C.out.mono ?_); rintro e w1 ⟨rfl, rfl⟩)
  go_ret
  exact ⟨rfl, rfl⟩
set_option maxHeartbeats 8000000 in
theorem rright_any (h : H4) (w : World) (hl : h.src.length < 9223372036854775808 ∧ h.dst.length < 9223372036854775808 ∧ h.opt.length < 9223372036854775808) : Calls Try.prog 45 #[hv h] w fun e w' => e = .returned (.bool (chk h)) ∧ Below w.heap.size w w' := by
  obtain ⟨r, hr⟩ : ∃ r, r = chk h := ⟨_, rfl⟩
  rw [← hr]
  obtain ⟨tos, id, off, ttl, proto, df, mf, src, dst, opt⟩ := h
  unfold hv hc
  simp only at hl ⊢
  obtain ⟨T1, hT1⟩ : ∃ b, b = (decide ((0 : Int) ≤ tos) && decide (tos ≤ (255 : Int))) := ⟨_, rfl⟩
  have I1 : Hid (∀ V, Calls Try.prog 69 #[.int .i64 tos, .int .i64 0, .int .i64 255] V fun e w' => e = .returned (.bool T1) ∧ w' = V) := Lib.hid (fun V => by rw [hT1]; exact rin_any tos 0 255 V)
  obtain ⟨T2, hT2⟩ : ∃ b, b = (decide ((0 : Int) ≤ ttl) && decide (ttl ≤ (255 : Int))) := ⟨_, rfl⟩
  have I2 : Hid (∀ V, Calls Try.prog 69 #[.int .i64 ttl, .int .i64 0, .int .i64 255] V fun e w' => e = .returned (.bool T2) ∧ w' = V) := Lib.hid (fun V => by rw [hT2]; exact rin_any ttl 0 255 V)
  obtain ⟨T3, hT3⟩ : ∃ b, b = (decide ((0 : Int) ≤ proto) && decide (proto ≤ (255 : Int))) := ⟨_, rfl⟩
  have I3 : Hid (∀ V, Calls Try.prog 69 #[.int .i64 proto, .int .i64 0, .int .i64 255] V fun e w' => e = .returned (.bool T3) ∧ w' = V) := Lib.hid (fun V => by rw [hT3]; exact rin_any proto 0 255 V)
  obtain ⟨T4, hT4⟩ : ∃ b, b = (decide ((0 : Int) ≤ id) && decide (id ≤ (65535 : Int))) := ⟨_, rfl⟩
  have I4 : Hid (∀ V, Calls Try.prog 69 #[.int .i64 id, .int .i64 0, .int .i64 65535] V fun e w' => e = .returned (.bool T4) ∧ w' = V) := Lib.hid (fun V => by rw [hT4]; exact rin_any id 0 65535 V)
  obtain ⟨T5, hT5⟩ : ∃ b, b = (decide ((0 : Int) ≤ off) && decide (off ≤ (8191 : Int))) := ⟨_, rfl⟩
  have I5 : Hid (∀ V, Calls Try.prog 69 #[.int .i64 off, .int .i64 0, .int .i64 8191] V fun e w' => e = .returned (.bool T5) ∧ w' = V) := Lib.hid (fun V => by rw [hT5]; exact rin_any off 0 8191 V)
  obtain ⟨L1, hL1⟩ : ∃ b, b = decide (src.length = 4) := ⟨_, rfl⟩
  obtain ⟨L2, hL2⟩ : ∃ b, b = decide (dst.length = 4) := ⟨_, rfl⟩
  obtain ⟨L3, hL3⟩ : ∃ b, b = decide (opt.length ≤ 40) := ⟨_, rfl⟩
  obtain ⟨L4, hL4⟩ : ∃ b, b = decide (opt.length % 4 = 0) := ⟨_, rfl⟩
  have l1 : ((src.length : Int) == 4) = L1 := by rw [hL1, Bool.eq_iff_iff, beq_iff_eq, decide_eq_true_eq]; omega
  have l2 : ((dst.length : Int) == 4) = L2 := by rw [hL2, Bool.eq_iff_iff, beq_iff_eq, decide_eq_true_eq]; omega
  have l3 : decide ((opt.length : Int) ≤ 40) = L3 := by rw [hL3]; exact decide_eq_decide.2 (by omega)
  have l4 : (((opt.length : Int) % 4) == 0) = L4 := by rw [hL4, Bool.eq_iff_iff, beq_iff_eq, decide_eq_true_eq]; omega
  have z1 : (bs src).size = src.length := bs_size _
  have z2 : (bs dst).size = dst.length := bs_size _
  have z3 : (bs opt).size = opt.length := bs_size _
  have HC : Hid (r = (T1 && (T2 && (T3 && (T4 && (T5 && (L1 && (L2 && (L3 && L4))))))))) := Lib.hid (by
    rw [hr, hT1, hT2, hT3, hT4, hT5, hL1, hL2, hL3, hL4]
    unfold chk
    simp only [Bool.and_assoc])
  clear hr hT1 hT2 hT3 hT4 hT5 hL1 hL2 hL3 hL4
  cases T1 with
  | false =>
    go_enter Try.func45, Try.ntmps45
    go_wp2_with (first | (go_at_call 69; (with_reducible refine (I1.out _).mono ?_); rintro e w5 ⟨rfl, hw5⟩; replace hw5 := hw5.symm; subst hw5) | (go_at_call 69; (with_reducible refine (I2.out _).mono ?_); rintro e w5 ⟨rfl, hw5⟩; replace hw5 := hw5.symm; subst hw5) | (go_at_call 69; (with_reducible refine (I3.out _).mono ?_); rintro e w5 ⟨rfl, hw5⟩; replace hw5 := hw5.symm; subst hw5) | (go_at_call 69; (with_reducible refine (I4.out _).mono ?_); rintro e w5 ⟨rfl, hw5⟩; replace hw5 := hw5.symm; subst hw5) | (go_at_call 69; (with_reducible refine (I5.out _).mono ?_); rintro e w5 ⟨rfl, hw5⟩; replace hw5 := hw5.symm; subst hw5))
    go_ret
    exact ⟨by rw [HC.out]; rfl, (Below.refl _ _).alloc (Nat.le_refl _) _⟩
  | true =>
  cases T2 with
  | false =>
    go_enter Try.func45, Try.ntmps45
    go_wp2_with (first | (go_at_call 69; (with_reducible refine (I1.out _).mono ?_); rintro e w5 ⟨rfl, hw5⟩; replace hw5 := hw5.symm; subst hw5) | (go_at_call 69; (with_reducible refine (I2.out _).mono ?_); rintro e w5 ⟨rfl, hw5⟩; replace hw5 := hw5.symm; subst hw5) | (go_at_call 69; (with_reducible refine (I3.out _).mono ?_); rintro e w5 ⟨rfl, hw5⟩; replace hw5 := hw5.symm; subst hw5) | (go_at_call 69; (with_reducible refine (I4.out _).mono ?_); rintro e w5 ⟨rfl, hw5⟩; replace hw5 := hw5.symm; subst hw5) | (go_at_call 69; (with_reducible refine (I5.out _).mono ?_); rintro e w5 ⟨rfl, hw5⟩; replace hw5 := hw5.symm; subst hw5))
    go_ret
    exact ⟨by rw [HC.out]; rfl, (Below.refl _ _).alloc (Nat.le_refl _) _⟩
  | true =>
  cases T3 with
  | false =>
    go_enter Try.func45, Try.ntmps45
    go_wp2_with (first | (go_at_call 69; (with_reducible refine (I1.out _).mono ?_); rintro e w5 ⟨rfl, hw5⟩; replace hw5 := hw5.symm; subst hw5) | (go_at_call 69; (with_reducible refine (I2.out _).mono ?_); rintro e w5 ⟨rfl, hw5⟩; replace hw5 := hw5.symm; subst hw5) | (go_at_call 69; (with_reducible refine (I3.out _).mono ?_); rintro e w5 ⟨rfl, hw5⟩; replace hw5 := hw5.symm; subst hw5) | (go_at_call 69; (with_reducible refine (I4.out _).mono ?_); rintro e w5 ⟨rfl, hw5⟩; replace hw5 := hw5.symm; subst hw5) | (go_at_call 69; (with_reducible refine (I5.out _).mono ?_); rintro e w5 ⟨rfl, hw5⟩; replace hw5 := hw5.symm; subst hw5))
    go_ret
    exact ⟨by rw [HC.out]; rfl, (Below.refl _ _).alloc (Nat.le_refl _) _⟩
  | true =>
  cases T4 with
  | false =>
    go_enter Try.func45, Try.ntmps45
    go_wp2_with (first | (go_at_call 69; (with_reducible refine (I1.out _).mono ?_); rintro e w5 ⟨rfl, hw5⟩; replace hw5 := hw5.symm; subst hw5) | (go_at_call 69; (with_reducible refine (I2.out _).mono ?_); rintro e w5 ⟨rfl, hw5⟩; replace hw5 := hw5.symm; subst hw5) | (go_at_call 69; (with_reducible refine (I3.out _).mono ?_); rintro e w5 ⟨rfl, hw5⟩; replace hw5 := hw5.symm; subst hw5) | (go_at_call 69; (with_reducible refine (I4.out _).mono ?_); rintro e w5 ⟨rfl, hw5⟩; replace hw5 := hw5.symm; subst hw5) | (go_at_call 69; (with_reducible refine (I5.out _).mono ?_); rintro e w5 ⟨rfl, hw5⟩; replace hw5 := hw5.symm; subst hw5))
    go_ret
    exact ⟨by rw [HC.out]; rfl, (Below.refl _ _).alloc (Nat.le_refl _) _⟩
  | true =>
  cases T5 with
  | false =>
    go_enter Try.func45, Try.ntmps45
    go_wp2_with (first | (go_at_call 69; (with_reducible refine (I1.out _).mono ?_); rintro e w5 ⟨rfl, hw5⟩; replace hw5 := hw5.symm; subst hw5) | (go_at_call 69; (with_reducible refine (I2.out _).mono ?_); rintro e w5 ⟨rfl, hw5⟩; replace hw5 := hw5.symm; subst hw5) | (go_at_call 69; (with_reducible refine (I3.out _).mono ?_); rintro e w5 ⟨rfl, hw5⟩; replace hw5 := hw5.symm; subst hw5) | (go_at_call 69; (with_reducible refine (I4.out _).mono ?_); rintro e w5 ⟨rfl, hw5⟩; replace hw5 := hw5.symm; subst hw5) | (go_at_call 69; (with_reducible refine (I5.out _).mono ?_); rintro e w5 ⟨rfl, hw5⟩; replace hw5 := hw5.symm; subst hw5))
    go_ret
    exact ⟨by rw [HC.out]; rfl, (Below.refl _ _).alloc (Nat.le_refl _) _⟩
  | true =>
  cases L1 with
  | false =>
    go_enter Try.func45, Try.ntmps45
    go_wp2_with (first | (go_at_call 69; (with_reducible refine (I1.out _).mono ?_); rintro e w5 ⟨rfl, hw5⟩; replace hw5 := hw5.symm; subst hw5) | (go_at_call 69; (with_reducible refine (I2.out _).mono ?_); rintro e w5 ⟨rfl, hw5⟩; replace hw5 := hw5.symm; subst hw5) | (go_at_call 69; (with_reducible refine (I3.out _).mono ?_); rintro e w5 ⟨rfl, hw5⟩; replace hw5 := hw5.symm; subst hw5) | (go_at_call 69; (with_reducible refine (I4.out _).mono ?_); rintro e w5 ⟨rfl, hw5⟩; replace hw5 := hw5.symm; subst hw5) | (go_at_call 69; (with_reducible refine (I5.out _).mono ?_); rintro e w5 ⟨rfl, hw5⟩; replace hw5 := hw5.symm; subst hw5))
    go_ret
    exact ⟨by rw [HC.out]; rfl, (Below.refl _ _).alloc (Nat.le_refl _) _⟩
  | true =>
  cases L2 with
  | false =>
    go_enter Try.func45, Try.ntmps45
    go_wp2_with (first | (go_at_call 69; (with_reducible refine (I1.out _).mono ?_); rintro e w5 ⟨rfl, hw5⟩; replace hw5 := hw5.symm; subst hw5) | (go_at_call 69; (with_reducible refine (I2.out _).mono ?_); rintro e w5 ⟨rfl, hw5⟩; replace hw5 := hw5.symm; subst hw5) | (go_at_call 69; (with_reducible refine (I3.out _).mono ?_); rintro e w5 ⟨rfl, hw5⟩; replace hw5 := hw5.symm; subst hw5) | (go_at_call 69; (with_reducible refine (I4.out _).mono ?_); rintro e w5 ⟨rfl, hw5⟩; replace hw5 := hw5.symm; subst hw5) | (go_at_call 69; (with_reducible refine (I5.out _).mono ?_); rintro e w5 ⟨rfl, hw5⟩; replace hw5 := hw5.symm; subst hw5))
    go_ret
    exact ⟨by rw [HC.out]; rfl, (Below.refl _ _).alloc (Nat.le_refl _) _⟩
  | true =>
  cases L3 with
  | false =>
    go_enter Try.func45, Try.ntmps45
    go_wp2_with (first | (go_at_call 69; (with_reducible refine (I1.out _).mono ?_); rintro e w5 ⟨rfl, hw5⟩; replace hw5 := hw5.symm; subst hw5) | (go_at_call 69; (with_reducible refine (I2.out _).mono ?_); rintro e w5 ⟨rfl, hw5⟩; replace hw5 := hw5.symm; subst hw5) | (go_at_call 69; (with_reducible refine (I3.out _).mono ?_); rintro e w5 ⟨rfl, hw5⟩; replace hw5 := hw5.symm; subst hw5) | (go_at_call 69; (with_reducible refine (I4.out _).mono ?_); rintro e w5 ⟨rfl, hw5⟩; replace hw5 := hw5.symm; subst hw5) | (go_at_call 69; (with_reducible refine (I5.out _).mono ?_); rintro e w5 ⟨rfl, hw5⟩; replace hw5 := hw5.symm; subst hw5))
    go_ret
    exact ⟨by rw [HC.out]; rfl, (Below.refl _ _).alloc (Nat.le_refl _) _⟩
  | true =>
  go_enter Try.func45, Try.ntmps45
  go_wp2_with (first | (go_at_call 69; (with_reducible refine (I1.out _).mono ?_); rintro e w5 ⟨rfl, hw5⟩; replace hw5 := hw5.symm; subst hw5) | (go_at_call 69; (with_reducible refine (I2.out _).mono ?_); rintro e w5 ⟨rfl, hw5⟩; replace hw5 := hw5.symm; subst hw5) | (go_at_call 69; (with_reducible refine (I3.out _).mono ?_); rintro e w5 ⟨rfl, hw5⟩; replace hw5 := hw5.symm; subst hw5) | (go_at_call 69; (with_reducible refine (I4.out _).mono ?_); rintro e w5 ⟨rfl, hw5⟩; replace hw5 := hw5.symm; subst hw5) | (go_at_call 69; (with_reducible refine (I5.out _).mono ?_); rintro e w5 ⟨rfl, hw5⟩; replace hw5 := hw5.symm; subst hw5))
  go_ret
  exact ⟨by rw [HC.out]; rfl, (Below.refl _ _).alloc (Nat.le_refl _) _⟩
end Go.Proofs.Ythdkbocokefdhaa
