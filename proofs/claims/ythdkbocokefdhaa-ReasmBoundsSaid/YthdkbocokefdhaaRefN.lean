
import Derived.Test.YthdkbocokefdhaaSav
import Derived.Test.YthdkbocokefdhaaWire
import Derived.OwnWalk
import Derived.Laws.BytesArg
import Derived.Laws.IdiomStrings
/- The document's small functions: Bytes, num, in, Tunnel. -/
namespace Go.Proofs.Ythdkbocokefdhaa
set_option maxRecDepth 100000
set_option maxRecDepth 100000
open Go.RowKit
theorem one_str (w : World) (b : Nat) (hb : b < 256) : (convert 53 9 (.slice (some ⟨w.heap.size, 0, none⟩) 1 1)).run Try.prog (w.alloc (.cells #[.int .u8 b] 5)) = .ok (.string ⟨#[UInt8.ofNat b]⟩) (w.alloc (.cells #[.int .u8 b] 5)) := by
  have h0 := alloc_new w (.cells #[.int .u8 b] 5)
  have hc : (w.alloc (.cells #[.int .u8 b] 5)).cell? ⟨w.heap.size, 0, none⟩ = some (.int .u8 b) := by rw [Lib.cell_of_heap h0]; rfl
  have hb2 := run_convert_bytes_arg (P := Try.prog) (w.alloc (.cells #[.int .u8 b] 5)) 53 5 Try.underlying53 Try.underlying5 w.heap.size 0 1 1 [(b : Int)] (by simp) (fun i hi => by
    obtain rfl : i = 0 := by simp at hi; omega
    exact hc) 9 Try.underlying9
  rw [hb2]
  congr 2
theorem cat_str (a : UInt8) (l : List UInt8) : (⟨#[a]⟩ : ByteArray) ++ ⟨l.toArray⟩ = ⟨(a :: l).toArray⟩ := by
  apply ByteArray.ext
  simp
set_option maxHeartbeats 2000000 in
theorem rbytes_any (n m : Nat) (w : World) (hn : n < 18446744073709551616) (hm : m ≤ 8) :
    Calls Try.prog 70 #[.int .u64 n, .int .i64 m] w fun e w' => e = .returned (.string (bs (be n m))) ∧ Below w.heap.size w w' := by
  show Calls Try.prog 70 #[.int .u64 n, .int .i64 m] w fun e w' => e = .returned (.string ⟨(be n m).toArray⟩) ∧ Below w.heap.size w w'
  go_enter Try.func70, Try.ntmps70
  go_wp2_with (fail)
  go_loopw [0, 5, 6] (fun x s i wr => ∃ k : Nat, k ≤ m ∧ i = .int .i64 k ∧ x = .int .u64 (n / 256 ^ k : Nat) ∧ s = .string ⟨(be n k).toArray⟩ ∧ Below w.heap.size w wr) (fun _ _ i _ => m - (intOf i).toNat)
  case atStart => exact ⟨0, by omega, rfl, by simp, rfl, Below.refl _ _⟩
  case round =>
    obtain ⟨k, hk, rfl, rfl, rfl, hb⟩ := hrel
    obtain ⟨y, hy⟩ : ∃ y, y = n / 256 ^ k := ⟨_, rfl⟩
    obtain ⟨s, hs⟩ : ∃ s : ByteArray, s = ⟨(be n k).toArray⟩ := ⟨_, rfl⟩
    rw [← hy, ← hs]
    by_cases hlt : k < m
    · have hdiv : y / 256 = n / 256 ^ (k + 1) := by rw [hy, Nat.div_div_eq_div_mul, Nat.pow_succ]
      obtain ⟨b, hb9⟩ : ∃ b, b = y % 256 := ⟨_, rfl⟩
      have hcv := one_str wr b (by omega)
      have hcat : (⟨#[UInt8.ofNat b]⟩ : ByteArray) ++ s = ⟨(be n (k + 1)).toArray⟩ := by rw [hs, cat_str, hb9, hy]; rfl
      obtain ⟨s2, hs2⟩ : ∃ s2 : ByteArray, s2 = ⟨(be n (k + 1)).toArray⟩ := ⟨_, rfl⟩
      obtain ⟨z, hz⟩ : ∃ z, z = n / 256 ^ (k + 1) := ⟨_, rfl⟩
      rw [← hs2] at hcat
      rw [← hz] at hdiv
      have HS2 := Lib.hid hs2
      have HZ := Lib.hid hz
      have e1 : (y : Int) % 256 = (b : Int) := by omega
      have e3 : (b : Int) % 256 = (b : Int) := by omega
      have hzl : z < 18446744073709551616 := by rw [hz]; exact Nat.lt_of_le_of_lt (Nat.div_le_self _ _) hn
      have e4 : IntKind.u64.wrap (z : Int) = (z : Int) := by rw [IntKind.wrap_u64]; omega
      have hsz : s.size = k := by rw [hs]; show (be n k).toArray.size = k; rw [List.size_toArray, be_length]
      have hsz2 : ¬ 9223372036854775807 < 1 + s.size := by omega
      have e2 : (y : Int) / 256 = (z : Int) := by omega
      have HB := Lib.hid hb
      clear hy hs hs2 hz hdiv hb9 hb
      go_wp2_with (fail)
      exact ⟨⟨k + 1, by omega, by go_num, by rw [← HZ.out], by rw [← HS2.out], HB.out.alloc HB.out.size _⟩, by simp [intOf] <;> omega⟩
    · obtain rfl : k = m := by omega
      rw [hs]
      clear hs hy
      go_wp2_with (fail)
      go_ret
      exact ⟨rfl, hb⟩
end Go.Proofs.Ythdkbocokefdhaa
