import Derived.Test.YthdkbocokefdhaaSav
import Derived.Test.YthdkbocokefdhaaWire
import Derived.OwnWalk
import Derived.Laws.BytesArg
import Derived.Laws.IdiomStrings
/- The document's small functions: Bytes, num, in, Tunnel. -/
namespace Go.Proofs.Ythdkbocokefdhaa
set_option maxRecDepth 100000
set_option maxRecDepth 100000
open Go.RowKit
theorem one_str (w : World) (b : Nat) (hb : b < 256) : (convert 53 9 (.slice (some ⟨w.heap.size, 0, none⟩) 1 1)).run Try.prog (w.alloc (.cells #[.int .u8 b] 5)) = .ok (.string ⟨#[UInt8.ofNat b]⟩) (w.alloc (.cells #[.int .u8 b] 5)) := by
  have h0 := alloc_new w (.cells #[.int .u8 b] 5)
  have hc : (w.alloc (.cells #[.int .u8 b] 5)).cell? ⟨w.heap.size, 0, none⟩ = some (.int .u8 b) := by rw [Lib.cell_of_heap h0]; rfl
  have hb2 := run_convert_bytes_arg (P := Try.prog) (w.alloc (.cells #[.int .u8 b] 5)) 53 5 Try.underlying53 Try.underlying5 w.heap.size 0 1 1 [(b : Int)] (by simp) (fun i hi => by
    obtain rfl : i = 0 := by simp at hi; omega
    exact hc) 9 Try.underlying9
  rw [hb2]
  congr 2
theorem cat_str (a : UInt8) (l : List UInt8) : (⟨#[a]⟩ : ByteArray) ++ ⟨l.toArray⟩ = ⟨(a :: l).toArray⟩ := by
  apply ByteArray.ext
  simp
set_option maxHeartbeats 2000000 in
theorem rbytes_any (n m : Nat) (w : World) (hn : n < 18446744073709551616) (hm : m ≤ 8) :
    Calls Try.prog 70 #[.int .u64 n, .int .i64 m] w fun e w' => e = .returned (.string (bs (be n m))) ∧ Below w.heap.size w w' := by
  show Calls Try.prog 70 #[.int .u64 n, .int .i64 m] w fun e w' => e = .returned (.string ⟨(be n m).toArray⟩) ∧ Below w.heap.size w w'
  go_enter Try.func70, Try.ntmps70
  go_wp2_with (fail)
  go_loopw [0, 5, 6] (fun x s i wr => ∃ k : Nat, k ≤ m ∧ i = .int .i64 k ∧ x = .int .u64 (n / 256 ^ k : Nat) ∧ s = .string ⟨(be n k).toArray⟩ ∧ Below w.heap.size w wr) (fun _ _ i _ => m - (intOf i).toNat)
  case atStart => exact ⟨0, by omega, rfl, by simp, rfl, Below.refl _ _⟩
  case round =>
    obtain ⟨k, hk, rfl, rfl, rfl, hb⟩ := hrel
    obtain ⟨y, hy⟩ : ∃ y, y = n / 256 ^ k := ⟨_, rfl⟩
    obtain ⟨s, hs⟩ : ∃ s : ByteArray, s = ⟨(be n k).toArray⟩ := ⟨_, rfl⟩
    rw [← hy, ← hs]
    by_cases hlt : k < m
    · have hdiv : y / 256 = n / 256 ^ (k + 1) := by rw [hy, Nat.div_div_eq_div_mul, Nat.pow_succ]
      obtain ⟨b, hb9⟩ : ∃ b, b = y % 256 := ⟨_, rfl⟩
      have hcv := one_str wr b (by omega)
      have hcat : (⟨#[UInt8.ofNat b]⟩ : ByteArray) ++ s = ⟨(be n (k + 1)).toArray⟩ := by rw [hs, cat_str, hb9, hy]; rfl
      obtain ⟨s2, hs2⟩ : ∃ s2 : ByteArray, s2 = ⟨(be n (k + 1)).toArray⟩ := ⟨_, rfl⟩
      obtain ⟨z, hz⟩ : ∃ z, z = n / 256 ^ (k + 1) := ⟨_, rfl⟩
      rw [← hs2] at hcat
      rw [← hz] at hdiv
      have HS2 := Lib.hid hs2
      have HZ := Lib.hid hz
      have e1 : (y : Int) % 256 = (b : Int) := by omega
      have e3 : (b : Int) % 256 = (b : Int) := by omega
      have hzl : z < 18446744073709551616 := by rw [hz]; exact Nat.lt_of_le_of_lt (Nat.div_le_self _ _) hn
      have e4 : IntKind.u64.wrap (z : Int) = (z : Int) := by rw [IntKind.wrap_u64]; omega
      have hsz : s.size = k := by rw [hs]; show (be n k).toArray.size = k; rw [List.size_toArray, be_length]
      have hsz2 : ¬ 9223372036854775807 < 1 + s.size := by omega
      have e2 : (y : Int) / 256 = (z : Int) := by omega
      have HB := Lib.hid hb
      clear hy hs hs2 hz hdiv hb9 hb
      go_wp2_with (fail)
      exact ⟨⟨k + 1, by omega, by go_num, by rw [← HZ.out], by rw [← HS2.out], HB.out.alloc HB.out.size _⟩, by simp [intOf] <;> omega⟩
    · obtain rfl : k = m := by omega
      rw [hs]
      clear hs hy
      go_wp2_with (fail)
      go_ret
      exact ⟨rfl, hb⟩
end Go.Proofs.Ythdkbocokefdhaa
/- The document's Value and GetTunnel. -/
namespace Go.Proofs.Ythdkbocokefdhaa
set_option maxRecDepth 100000
set_option maxRecDepth 100000
open Go.RowKit
theorem bv_le8 (l : List UInt8) (h : l.length ≤ 8) : bv l < 18446744073709551616 := by
  have h1 := bv_lt l
  have h2 : 256 ^ l.length ≤ 256 ^ 8 := Nat.pow_le_pow_right (by decide) h
  have h3 : (256 : Nat) ^ 8 = 18446744073709551616 := by decide
  omega
set_option maxHeartbeats 2000000 in
theorem rvalue_any (s : ByteArray) (w : World) (hs : s.size ≤ 8) : Calls Try.prog 76 #[.string s] w fun e w' => e = .returned (.int .u64 (bv s.data.toList : Nat)) ∧ w' = w := by
  go_enter Try.func76, Try.ntmps76
  go_wp2
  go_loop [3, 4] (fun v n => ∃ k : Nat, k ≤ s.size ∧ n = .int .i64 k ∧ v = .int .u64 (bv (s.data.toList.take k) : Nat)) (fun _ n => s.size - (intOf n).toNat)
  case atStart => exact ⟨0, by omega, rfl, rfl⟩
  case round =>
    obtain ⟨k, hk, rfl, rfl⟩ := hrel
    by_cases hlt : k < s.size
    · obtain ⟨y, hy⟩ : ∃ y, y = bv (s.data.toList.take k) := ⟨_, rfl⟩
      obtain ⟨z, hz⟩ : ∃ z, z = bv (s.data.toList.take (k + 1)) := ⟨_, rfl⟩
      have hzy : z = y * 256 + s[k].toNat := by
        rw [hz, hy, List.take_succ_eq_append_getElem (by simpa using hlt), bv_snoc]; rfl
      have hzl : z < 18446744073709551616 := by rw [hz]; exact bv_le8 _ (by rw [List.length_take]; omega)
      have hc := s[k].toNat_lt
      obtain ⟨c, hcc⟩ : ∃ c, c = s[k].toNat := ⟨_, rfl⟩
      rw [← hcc] at hzy hc
      have HZY := Lib.hid hzy
      have HZ := Lib.hid hz
      rw [← hy]
      have HC := Lib.hid hcc
      clear hy hz hcc hzy
      go_wp2
      have e3 : IntKind.u64.wrap ((s[k].toNat : Nat) : Int) = (c : Int) := by rw [← HC.out, IntKind.wrap_u64]; omega
      have e4 : IntKind.u64.wrap ((y : Int) * 256) = ((y * 256 : Nat) : Int) := by rw [IntKind.wrap_u64]; have := HZY.out; omega
      have e5 : IntKind.u64.wrap (((y * 256 : Nat) : Int) + (c : Int)) = (z : Int) := by rw [IntKind.wrap_u64]; have := HZY.out; omega
      exact ⟨⟨k + 1, by omega, by go_num, by rw [e3, e4, e5, HZ.out]⟩, by simp [intOf] <;> omega⟩
    · obtain rfl : k = s.size := by omega
      go_wp2
      go_ret
      refine ⟨?_, rfl⟩
      rw [List.take_of_length_le (by simp)]; rfl
theorem ext_list (s : ByteArray) (a b : Nat) : (s.extract a b).data.toList = (s.data.toList.drop a).take (b - a) := by
  simp [ByteArray.data_extract, List.drop_take]
theorem bv_at (s : ByteArray) (k : Nat) (h : k < s.size) : bv ((s.data.toList.drop k).take 1) = s[k].toNat := by
  rw [List.drop_eq_getElem_cons (by simpa using h)]
  show bv [s[k]] = _
  simp [bv]
theorem tm_bit2 (x : Nat) (hx : x < 256) : (((IntKind.u8.wrap ((x : Int) / 2)).tmod 2) == 1) = (x / 2 % 2 == 1) := by
  have h1 : IntKind.u8.wrap ((x : Int) / 2) = ((x / 2 : Nat) : Int) := by rw [IntKind.wrap_u8]; omega
  rw [h1, Int.tmod_eq_emod_of_nonneg (by omega), Bool.eq_iff_iff]
  simp only [beq_iff_eq]
  omega
theorem tm_bit4 (x : Nat) (hx : x < 256) : (((IntKind.u8.wrap ((x : Int) / 4)).tmod 2) == 1) = (x / 4 % 2 == 1) := by
  have h1 : IntKind.u8.wrap ((x : Int) / 4) = ((x / 4 : Nat) : Int) := by rw [IntKind.wrap_u8]; omega
  rw [h1, Int.tmod_eq_emod_of_nonneg (by omega), Bool.eq_iff_iff]
  simp only [beq_iff_eq]
  omega
theorem tm_bit1 (x : Nat) : (((x : Int).tmod 2) == 1) = (x % 2 == 1) := by
  rw [Int.tmod_eq_emod_of_nonneg (by omega), Bool.eq_iff_iff]
  simp only [beq_iff_eq]
  omega
end Go.Proofs.Ythdkbocokefdhaa
