
import Derived.Test.YthdkbocokefdhaaSav
/- The document's Value and GetTunnel. -/
namespace Go.Proofs.Ythdkbocokefdhaa
set_option maxRecDepth 100000
set_option maxRecDepth 100000
open Go.RowKit
theorem bv_le8 (l : List UInt8) (h : l.length ≤ 8) : bv l < 18446744073709551616 := by
  have h1 := bv_lt l
  have h2 : 256 ^ l.length ≤ 256 ^ 8 := Nat.pow_le_pow_right (by decide) h
  have h3 : (256 : Nat) ^ 8 = 18446744073709551616 := by decide
  omega
set_option maxHeartbeats 2000000 in
theorem rvalue_any (s : ByteArray) (w : World) (hs : s.size ≤ 8) : Calls Try.prog 76 #[.string s] w fun e w' => e = .returned (.int .u64 (bv s.data.toList : Nat)) ∧ w' = w := by
  go_enter Try.func76, Try.ntmps76
  go_wp2
  go_loop [3, 4] (fun v n => ∃ k : Nat, k ≤ s.size ∧ n = .int .i64 k ∧ v = .int .u64 (bv (s.data.toList.take k) : Nat)) (fun _ n => s.size - (intOf n).toNat)
  case atStart => exact ⟨0, by omega, rfl, rfl⟩
  case round =>
    obtain ⟨k, hk, rfl, rfl⟩ := hrel
    by_cases hlt : k < s.size
    · obtain ⟨y, hy⟩ : ∃ y, y = bv (s.data.toList.take k) := ⟨_, rfl⟩
      obtain ⟨z, hz⟩ : ∃ z, z = bv (s.data.toList.take (k + 1)) := ⟨_, rfl⟩
      have hzy : z = y * 256 + s[k].toNat := by
        rw [hz, hy, List.take_succ_eq_append_getElem (by simpa using hlt), bv_snoc]; rfl
      have hzl : z < 18446744073709551616 := by rw [hz]; exact bv_le8 _ (by rw [List.length_take]; omega)
      have hc := s[k].toNat_lt
      obtain ⟨c, hcc⟩ : ∃ c, c = s[k].toNat := ⟨_, rfl⟩
      rw [← hcc] at hzy hc
      have HZY := Lib.hid hzy
      have HZ := Lib.hid hz
      rw [← hy]
      have HC := Lib.hid hcc
      clear hy hz hcc hzy
      go_wp2
      have e3 : IntKind.u64.wrap ((s[k].toNat : Nat) : Int) = (c : Int) := by rw [← HC.out, IntKind.wrap_u64]; omega
      have e4 : IntKind.u64.wrap ((y : Int) * 256) = ((y * 256 : Nat) : Int) := by rw [IntKind.wrap_u64]; have := HZY.out; omega
      have e5 : IntKind.u64.wrap (((y * 256 : Nat) : Int) + (c : Int)) = (z : Int) := by rw [IntKind.wrap_u64]; have := HZY.out; omega
      exact ⟨⟨k + 1, by omega, by go_num, by rw [e3, e4, e5, HZ.out]⟩, by simp [intOf] <;> omega⟩
    · obtain rfl : k = s.size := by omega
      go_wp2
      go_ret
      refine ⟨?_, rfl⟩
      rw [List.take_of_length_le (by simp)]; rfl
theorem ext_list (s : ByteArray) (a b : Nat) : (s.extract a b).data.toList = (s.data.toList.drop a).take (b - a) := by
  simp [ByteArray.data_extract, List.drop_take]
theorem bv_at (s : ByteArray) (k : Nat) (h : k < s.size) : bv ((s.data.toList.drop k).take 1) = s[k].toNat := by
  rw [List.drop_eq_getElem_cons (by simpa using h)]
  show bv [s[k]] = _
  simp [bv]
theorem tm_bit2 (x : Nat) (hx : x < 256) : (((IntKind.u8.wrap ((x : Int) / 2)).tmod 2) == 1) = (x / 2 % 2 == 1) := by
  have h1 : IntKind.u8.wrap ((x : Int) / 2) = ((x / 2 : Nat) : Int) := by rw [IntKind.wrap_u8]; omega
  rw [h1, Int.tmod_eq_emod_of_nonneg (by omega), Bool.eq_iff_iff]
  simp only [beq_iff_eq]
  omega
theorem tm_bit4 (x : Nat) (hx : x < 256) : (((IntKind.u8.wrap ((x : Int) / 4)).tmod 2) == 1) = (x / 4 % 2 == 1) := by
  have h1 : IntKind.u8.wrap ((x : Int) / 4) = ((x / 4 : Nat) : Int) := by rw [IntKind.wrap_u8]; omega
  rw [h1, Int.tmod_eq_emod_of_nonneg (by omega), Bool.eq_iff_iff]
  simp only [beq_iff_eq]
  omega
theorem tm_bit1 (x : Nat) : (((x : Int).tmod 2) == 1) = (x % 2 == 1) := by
  rw [Int.tmod_eq_emod_of_nonneg (by omega), Bool.eq_iff_iff]
  simp only [beq_iff_eq]
  omega
end Go.Proofs.Ythdkbocokefdhaa
