import Derived.Test.YtmeemajlcnpkeaaRefHash
/- The document's sum and points: the same numbers as the program's. -/
namespace Go.Proofs.Ytmeemajlcnpkeaa
open Go.RowKit
theorem times_eq (n : Nat) : IntKind.u64.wrap (IntKind.u64.wrap ((n : Int) % 16777216 * 1099511627776 + IntKind.u64.wrap ((n : Int) * 400)) + IntKind.u64.wrap ((n : Int) * 35)) = ((n * 1099511628211 % 18446744073709551616 : Nat) : Int) := by
  simp only [IntKind.wrap_u64]
  omega
set_option maxRecDepth 100000 in
set_option maxHeartbeats 1000000 in
theorem rtimes_any (n : Nat) (w : World) (hn : n < 18446744073709551616) :
    Calls Try.prog 64 #[.int .u64 n] w fun e w' => e = .returned (.int .u64 (n * 1099511628211 % 18446744073709551616 : Nat)) ∧ w' = w := by
  have T := Lib.hid (times_eq n)
  obtain ⟨r, hr⟩ : ∃ r, r = n * 1099511628211 % 18446744073709551616 := ⟨_, rfl⟩
  rw [← hr] at T ⊢
  clear hr
  go_enter Try.func64, Try.ntmps64
  go_wp2_with (fail)
  go_ret
  refine ⟨?_, rfl⟩
  rw [← T.out]
  simp
/-- the document's sum of a text -/
theorem fstep_eq (n : Nat) (b : UInt8) : fstep n b = (n ^^^ b.toNat) * 1099511628211 % 18446744073709551616 := rfl
theorem xor_lt (n : Nat) (b : UInt8) (hn : n < 18446744073709551616) : n ^^^ b.toNat < 18446744073709551616 := by
  have : b.toNat < 2 ^ 64 := Nat.lt_of_lt_of_le b.toNat_lt (by decide)
  exact Nat.xor_lt_two_pow (n := 64) hn this
set_option maxRecDepth 100000 in
set_option maxHeartbeats 1000000 in
theorem rsum_any (s : ByteArray) (w : World) (hs : s.size ≤ 1000000) :
    Calls Try.prog 47 #[.string s] w fun e w' => e = .returned (.int .u64 (fsum 14695981039346656037 s.data.toList)) ∧ w' = w := by
  have C := Lib.hid (fun n W hn => rtimes_any n W hn)
  go_enter Try.func47, Try.ntmps47
  go_wp2_with (fail)
  go_loop [3, 4] (fun v i => ∃ k : Nat, k ≤ s.size ∧ i = .int .i64 k ∧ v = .int .u64 (fsum 14695981039346656037 (s.data.toList.take k))) (fun _ i => s.size - (intOf i).toNat)
  case atStart => exact ⟨0, by omega, rfl, rfl⟩
  case round =>
    obtain ⟨k, hk, rfl, rfl⟩ := hrel
    by_cases hlt : k < s.size
    · obtain ⟨y, hy⟩ : ∃ y, y = fsum 14695981039346656037 (s.data.toList.take k) := ⟨_, rfl⟩
      have hyl : y < 18446744073709551616 := by rw [hy]; exact fsum_lt _ _ (by omega)
      have Hy := Lib.hid hy
      rw [← hy]
      clear hy
      obtain ⟨m, hm⟩ : ∃ m, m = y ^^^ s[k].toNat := ⟨_, rfl⟩
      have e1 : bits .xor .u64 (y : Int) (s[k].toNat : Int) = (m : Int) := by rw [hm]; exact xor_nat y s[k] hyl
      have hb : (s[k].toNat : Int) % 18446744073709551616 = s[k].toNat := by have := s[k].toNat_lt; omega
      have C1 := Lib.hid (C.out m · (by rw [hm]; exact xor_lt y s[k] hyl))
      obtain ⟨r, hr⟩ : ∃ r, r = m * 1099511628211 % 18446744073709551616 := ⟨_, rfl⟩
      rw [← hr] at C1
      have hst : Hid (fstep y s[k] = r) := show _ = _ by rw [hr, hm]; rfl
      clear hm hr
      go_wp2_with (go_at_call 64; refine (C1.out _).mono ?_; rintro e w1 ⟨rfl, rfl⟩)
      go_round
      case rel => exact ⟨k + 1, by omega, by go_num, by rw [take_snoc s k hlt, fsum_snoc, ← Hy.out, hst.out]⟩
      case measure => simp [intOf]; omega
    · go_wp2_with (fail)
      go_ret
      refine ⟨?_, rfl⟩
      rw [List.take_of_length_le (by simp; omega)]
      simp
theorem cat_list (a b : List UInt8) : (⟨a.toArray⟩ : ByteArray) ++ ⟨b.toArray⟩ = ⟨(a ++ b).toArray⟩ := by
  apply ByteArray.ext
  simp
set_option maxRecDepth 100000 in
set_option maxHeartbeats 1000000 in
theorem rpoint_any (id k : Nat) (w : World) (hi : id < 4294967296) (hk : k < 4294967296) :
    Calls Try.prog 32 #[.int .i64 id, .int .i64 k] w fun e w' => e = .returned (.int .u64 (hpt id k)) ∧ Below w.heap.size w w' := by
  have B1 : Hid (∀ W, Calls Try.prog 48 #[.int .u64 id, .int .i64 4] W fun e w' => e = .returned (.string ⟨(be id 4).toArray⟩) ∧ Below W.heap.size W w') := fun W => rbytes_any id 4 W (by omega) (by omega)
  have B2 : Hid (∀ W, Calls Try.prog 48 #[.int .u64 k, .int .i64 4] W fun e w' => e = .returned (.string ⟨(be k 4).toArray⟩) ∧ Below W.heap.size W w') := fun W => rbytes_any k 4 W (by omega) (by omega)
  obtain ⟨s1, h1⟩ : ∃ s : ByteArray, s = ⟨(be id 4).toArray⟩ := ⟨_, rfl⟩
  obtain ⟨s2, h2⟩ : ∃ s : ByteArray, s = ⟨(be k 4).toArray⟩ := ⟨_, rfl⟩
  have hz1 : s1.size = 4 := by rw [h1]; show (be id 4).toArray.size = 4; rw [List.size_toArray, be_length]
  have hz2 : s2.size = 4 := by rw [h2]; show (be k 4).toArray.size = 4; rw [List.size_toArray, be_length]
  have hcat : s1 ++ s2 = ⟨(be id 4 ++ be k 4).toArray⟩ := by rw [h1, h2, cat_list]
  obtain ⟨s3, h3⟩ : ∃ s : ByteArray, s = ⟨(be id 4 ++ be k 4).toArray⟩ := ⟨_, rfl⟩
  rw [← h3] at hcat
  have S : Hid (∀ W, Calls Try.prog 47 #[.string s3] W fun e w' => e = .returned (.int .u64 (hpt id k)) ∧ w' = W) := fun W => by
    have e : hpt id k = fsum 14695981039346656037 s3.data.toList := by rw [h3]; rfl
    rw [e]
    exact rsum_any s3 W (by rw [h3]; show (be id 4 ++ be k 4).toArray.size ≤ _; simp [be_length])
  obtain ⟨h, hh⟩ : ∃ h, h = hpt id k := ⟨_, rfl⟩
  rw [← h1] at B1
  rw [← h2] at B2
  rw [← hh] at S ⊢
  have c1 : IntKind.u64.wrap (id : Int) = id := by rw [IntKind.wrap_u64]; omega
  have c2 : IntKind.u64.wrap (k : Int) = k := by rw [IntKind.wrap_u64]; omega
  have hsz : ¬ 9223372036854775807 < s1.size + s2.size := by omega
  clear h1 h2 h3 hh hi hk hz1 hz2
  go_enter Try.func32, Try.ntmps32
  go_wp2_with (first | (go_at_call 48; (with_reducible refine (B1.out _).mono ?_); rintro e w1 ⟨rfl, hb1⟩) | (go_at_call 48; (with_reducible refine (B2.out _).mono ?_); rintro e w2 ⟨rfl, hb2⟩) | (go_at_call 47; refine (S.out _).mono ?_; rintro e w3 ⟨rfl, rfl⟩))
  go_ret
  exact ⟨rfl, hb1.trans (hb2.mono hb1.size)⟩
end Go.Proofs.Ytmeemajlcnpkeaa
