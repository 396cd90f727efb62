import Derived.Test.YtfagkmmenfeppaaDoorHelp
import Derived.OwnWalk
import Derived.Laws.BytesArg
import Derived.Laws.IdiomStrings
/- The document's small functions: Bytes, Value, two, in, Family. -/
namespace Go.Proofs.YtfagkmmenfeppaaDoor
set_option maxRecDepth 100000
open Go.RowKit
theorem one_str (w : World) (b : Nat) (hb : b < 256) : (convert 40 9 (.slice (some ⟨w.heap.size, 0, none⟩) 1 1)).run Tryd.prog (w.alloc (.cells #[.int .u8 b] 5)) = .ok (.string ⟨#[UInt8.ofNat b]⟩) (w.alloc (.cells #[.int .u8 b] 5)) := by
  have h0 := alloc_new w (.cells #[.int .u8 b] 5)
  have hc : (w.alloc (.cells #[.int .u8 b] 5)).cell? ⟨w.heap.size, 0, none⟩ = some (.int .u8 b) := by rw [Lib.cell_of_heap h0]; rfl
  have hb2 := run_convert_bytes_arg (P := Tryd.prog) (w.alloc (.cells #[.int .u8 b] 5)) 40 5 Tryd.underlying40 Tryd.underlying5 w.heap.size 0 1 1 [(b : Int)] (by simp) (fun i hi => by
    obtain rfl : i = 0 := by simp at hi; omega
    exact hc) 9 Tryd.underlying9
  rw [hb2]
  congr 2
theorem cat_str (a : UInt8) (l : List UInt8) : (⟨#[a]⟩ : ByteArray) ++ ⟨l.toArray⟩ = ⟨(a :: l).toArray⟩ := by
  apply ByteArray.ext
  simp
set_option maxHeartbeats 2000000 in
theorem rbytes_any (n m : Nat) (w : World) (hn : n < 18446744073709551616) (hm : m ≤ 8) :
    Calls Tryd.prog 30 #[.int .u64 n, .int .i64 m] w fun e w' => e = .returned (.string (bs (be n m))) ∧ Below w.heap.size w w' := by
  show Calls Tryd.prog 30 #[.int .u64 n, .int .i64 m] w fun e w' => e = .returned (.string ⟨(be n m).toArray⟩) ∧ Below w.heap.size w w'
  go_enter Tryd.func30, Tryd.ntmps30
  go_wp2_with (fail)
  go_loopw [0, 5, 6] (fun x s i wr => ∃ k : Nat, k ≤ m ∧ i = .int .i64 k ∧ x = .int .u64 (n / 256 ^ k : Nat) ∧ s = .string ⟨(be n k).toArray⟩ ∧ Below w.heap.size w wr) (fun _ _ i _ => m - (intOf i).toNat)
  case atStart => exact ⟨0, by omega, rfl, by simp, rfl, Below.refl _ _⟩
  case round =>
    obtain ⟨k, hk, rfl, rfl, rfl, hb⟩ := hrel
    obtain ⟨y, hy⟩ : ∃ y, y = n / 256 ^ k := ⟨_, rfl⟩
    obtain ⟨s, hs⟩ : ∃ s : ByteArray, s = ⟨(be n k).toArray⟩ := ⟨_, rfl⟩
    rw [← hy, ← hs]
    by_cases hlt : k < m
    · have hdiv : y / 256 = n / 256 ^ (k + 1) := by rw [hy, Nat.div_div_eq_div_mul, Nat.pow_succ]
      obtain ⟨b, hb9⟩ : ∃ b, b = y % 256 := ⟨_, rfl⟩
      have hcv := one_str wr b (by omega)
      have hcat : (⟨#[UInt8.ofNat b]⟩ : ByteArray) ++ s = ⟨(be n (k + 1)).toArray⟩ := by rw [hs, cat_str, hb9, hy]; rfl
      obtain ⟨s2, hs2⟩ : ∃ s2 : ByteArray, s2 = ⟨(be n (k + 1)).toArray⟩ := ⟨_, rfl⟩
      obtain ⟨z, hz⟩ : ∃ z, z = n / 256 ^ (k + 1) := ⟨_, rfl⟩
      rw [← hs2] at hcat
      rw [← hz] at hdiv
      have HS2 := Lib.hid hs2
      have HZ := Lib.hid hz
      have e1 : (y : Int) % 256 = (b : Int) := by omega
      have e3 : (b : Int) % 256 = (b : Int) := by omega
      have hzl : z < 18446744073709551616 := by rw [hz]; exact Nat.lt_of_le_of_lt (Nat.div_le_self _ _) hn
      have e4 : IntKind.u64.wrap (z : Int) = (z : Int) := by rw [IntKind.wrap_u64]; omega
      have hsz : s.size = k := by rw [hs]; show (be n k).toArray.size = k; rw [List.size_toArray, be_length]
      have hsz2 : ¬ 9223372036854775807 < 1 + s.size := by omega
      have e2 : (y : Int) / 256 = (z : Int) := by omega
      have HB := Lib.hid hb
      clear hy hs hs2 hz hdiv hb9 hb
      go_wp2_with (fail)
      exact ⟨⟨k + 1, by omega, by go_num, by rw [← HZ.out], by rw [← HS2.out], HB.out.alloc HB.out.size _⟩, by simp [intOf] <;> omega⟩
    · obtain rfl : k = m := by omega
      rw [hs]
      clear hs hy
      go_wp2_with (fail)
      go_ret
      exact ⟨rfl, hb⟩
theorem bv_le8 (l : List UInt8) (h : l.length ≤ 8) : bv l < 18446744073709551616 := by
  have h1 := bv_lt l
  have h2 : 256 ^ l.length ≤ 256 ^ 8 := Nat.pow_le_pow_right (by decide) h
  have h3 : (256 : Nat) ^ 8 = 18446744073709551616 := by decide
  omega
set_option maxHeartbeats 2000000 in
theorem rvalue_any (s : ByteArray) (w : World) (hs : s.size ≤ 8) : Calls Tryd.prog 39 #[.string s] w fun e w' => e = .returned (.int .u64 (bv s.data.toList : Nat)) ∧ w' = w := by
  go_enter Tryd.func39, Tryd.ntmps39
  go_wp2
  go_loop [3, 4] (fun v n => ∃ k : Nat, k ≤ s.size ∧ n = .int .i64 k ∧ v = .int .u64 (bv (s.data.toList.take k) : Nat)) (fun _ n => s.size - (intOf n).toNat)
  case atStart => exact ⟨0, by omega, rfl, rfl⟩
  case round =>
    obtain ⟨k, hk, rfl, rfl⟩ := hrel
    by_cases hlt : k < s.size
    · obtain ⟨y, hy⟩ : ∃ y, y = bv (s.data.toList.take k) := ⟨_, rfl⟩
      obtain ⟨z, hz⟩ : ∃ z, z = bv (s.data.toList.take (k + 1)) := ⟨_, rfl⟩
      have hzy : z = y * 256 + s[k].toNat := by
        rw [hz, hy, List.take_succ_eq_append_getElem (by simpa using hlt), bv_snoc]; rfl
      have hzl : z < 18446744073709551616 := by rw [hz]; exact bv_le8 _ (by rw [List.length_take]; omega)
      have hc := s[k].toNat_lt
      obtain ⟨c, hcc⟩ : ∃ c, c = s[k].toNat := ⟨_, rfl⟩
      rw [← hcc] at hzy hc
      have HZY := Lib.hid hzy
      have HZ := Lib.hid hz
      rw [← hy]
      have HC := Lib.hid hcc
      clear hy hz hcc hzy
      go_wp2
      have e3 : IntKind.u64.wrap ((s[k].toNat : Nat) : Int) = (c : Int) := by rw [← HC.out, IntKind.wrap_u64]; omega
      have e4 : IntKind.u64.wrap ((y : Int) * 256) = ((y * 256 : Nat) : Int) := by rw [IntKind.wrap_u64]; have := HZY.out; omega
      have e5 : IntKind.u64.wrap (((y * 256 : Nat) : Int) + (c : Int)) = (z : Int) := by rw [IntKind.wrap_u64]; have := HZY.out; omega
      exact ⟨⟨k + 1, by omega, by go_num, by rw [e3, e4, e5, HZ.out]⟩, by simp [intOf] <;> omega⟩
    · obtain rfl : k = s.size := by omega
      go_wp2
      go_ret
      refine ⟨?_, rfl⟩
      rw [List.take_of_length_le (by simp)]; rfl
theorem in_any (n hi : Int) (w : World) : Calls Tryd.prog 28 #[.int .i64 n, .int .i64 hi] w fun e w' => e = .returned (.bool (decide (0 ≤ n ∧ n ≤ hi))) ∧ w' = w := by
  go_enter Tryd.func28, Tryd.ntmps28
  by_cases h1 : 0 ≤ n
  · have e1 : decide (0 ≤ n) = true := decide_eq_true h1
    go_wp2_with (fail)
    go_ret
    refine ⟨?_, rfl⟩
    simp [h1]
  · have e1 : decide (0 ≤ n) = false := decide_eq_false h1
    go_wp2_with (fail)
    go_ret
    refine ⟨?_, rfl⟩
    simp [h1]
theorem two_any (n : Nat) (w : World) (hn : n ≤ 9223372036854775807) : Calls Tryd.prog 29 #[.int .i64 n] w fun e w' => e = .returned (.string (bs (be n 2))) ∧ Below w.heap.size w w' := by
  have HB : Hid (∀ V, Calls Tryd.prog 30 #[.int .u64 n, .int .i64 (2 : Nat)] V fun e w' => e = .returned (.string (bs (be n 2))) ∧ Below V.heap.size V w') := fun V => rbytes_any n 2 V (by omega) (by omega)
  go_enter Tryd.func29, Tryd.ntmps29
  have e1 : (n : Int) % 18446744073709551616 = n := by omega
  go_wp2_with (fail)
  refine (HB.out _).mono ?_
  rintro e w1 ⟨rfl, hb⟩
  go_wp2_with (fail)
  go_ret
  exact ⟨rfl, hb⟩
/-- what Family tells -/
def famT (n : Int) : Nat × Nat × Bool := match famN n with | some f => (f.2.1, f.2.2, true) | none => (0, 0, false)
set_option maxHeartbeats 2000000 in
theorem family_any (n : Int) (w : World) : Calls Tryd.prog 26 #[.int .i64 n] w fun e w' => e = .returned (.tuple #[.int .i64 ((famT n).1 : Nat), .int .i64 ((famT n).2.1 : Nat), .bool (famT n).2.2]) ∧ w' = w := by
  by_cases h : 0 ≤ n ∧ n ≤ 4
  · have : n = 0 ∨ n = 1 ∨ n = 2 ∨ n = 3 ∨ n = 4 := by omega
    rcases this with rfl | rfl | rfl | rfl | rfl
    all_goals
      go_enter Tryd.func26, Tryd.ntmps26
      go_wp2_with (fail)
      go_ret3
      exact ⟨rfl, rfl⟩
  · have z0 : (n == 0) = false := by rw [beq_eq_false_iff_ne]; omega
    have z1 : (n == 1) = false := by rw [beq_eq_false_iff_ne]; omega
    have z2 : (n == 2) = false := by rw [beq_eq_false_iff_ne]; omega
    have z3 : (n == 3) = false := by rw [beq_eq_false_iff_ne]; omega
    have z4 : (n == 4) = false := by rw [beq_eq_false_iff_ne]; omega
    have hz : famT n = (0, 0, false) := by
      have hn : famN n = none := by
        unfold famN
        rw [List.find?_eq_none]
        intro x hx
        simp [fams] at hx
        rcases hx with rfl | rfl | rfl | rfl | rfl <;> simp <;> omega
      unfold famT
      rw [hn]
    rw [hz]
    clear h hz
    go_enter Tryd.func26, Tryd.ntmps26
    go_wp2_with (fail)
    go_ret3
    exact ⟨rfl, rfl⟩
end Go.Proofs.YtfagkmmenfeppaaDoor
