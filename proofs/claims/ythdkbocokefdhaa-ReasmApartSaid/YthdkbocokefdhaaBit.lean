import Derived.Test.YthdkbocokefdhaaProg
import Derived.WalkKit
import Derived.WalkSpells
import Derived.WalkLawsBesides
import Derived.Laws.BitsLemmas
/- Bits of whole numbers. -/
namespace Go.Proofs.Ythdkbocokefdhaa
set_option maxRecDepth 100000
open Go.RowKit
theorem wraps_i64 (n : Int) (h₀ : 0 ≤ n) (h₁ : n < 2 ^ 63) : IntKind.i64.wrap n = n := by rw [IntKind.wrap_i64]; omega
theorem wraps_u64 (n : Int) (h₀ : 0 ≤ n) (h₁ : n < 2 ^ 64) : IntKind.u64.wrap n = n := by rw [IntKind.wrap_u64]; omega
theorem u64_mask16 (n : Nat) (h : n < 18446744073709551616) : bits .and .u64 (n : Int) 65535 = ((n % 65536 : Nat) : Int) := by
  have := bits_mask .u64 64 (Nat.le_refl _) wraps_u64 16 (by decide) (n : Int) (by omega) (by omega)
  rw [show (65535 : Int) = 2 ^ 16 - 1 by decide, this, show (2 : Int) ^ 16 = 65536 by decide]; omega
theorem i64_mask (i : Nat) (hi : i ≤ 63) (n : Nat) (h : n < 9223372036854775808) : bits .and .i64 (n : Int) (2 ^ i - 1) = (n : Int) % 2 ^ i :=
  bits_mask .i64 63 (by decide) wraps_i64 i hi (n : Int) (by omega) (by omega)
theorem i64_mask1 (n : Nat) (h : n < 9223372036854775808) : bits .and .i64 (n : Int) 1 = ((n % 2 : Nat) : Int) := by
  have := i64_mask 1 (by decide) n h
  rw [show (1 : Int) = 2 ^ 1 - 1 by decide, this, show (2 : Int) ^ 1 = 2 by decide]; omega
theorem i64_mask4 (n : Nat) (h : n < 9223372036854775808) : bits .and .i64 (n : Int) 15 = ((n % 16 : Nat) : Int) := by
  have := i64_mask 4 (by decide) n h
  rw [show (15 : Int) = 2 ^ 4 - 1 by decide, this, show (2 : Int) ^ 4 = 16 by decide]; omega
theorem i64_mask13 (n : Nat) (h : n < 9223372036854775808) : bits .and .i64 (n : Int) 8191 = ((n % 8192 : Nat) : Int) := by
  have := i64_mask 13 (by decide) n h
  rw [show (8191 : Int) = 2 ^ 13 - 1 by decide, this, show (2 : Int) ^ 13 = 8192 by decide]; omega
theorem ofInt_i64 (a : Nat) (ha : a < 18446744073709551616) : (BitVec.ofInt 64 (a : Int)).toNat = a := by
  rw [BitVec.ofInt_natCast, BitVec.toNat_ofNat]; exact Nat.mod_eq_of_lt (by omega)
theorem i64_or_nat (a b : Nat) (ha : a < 9223372036854775808) (hb : b < 9223372036854775808) : bits .or .i64 (a : Int) (b : Int) = ((a ||| b : Nat) : Int) := by
  have hx : a ||| b < 2 ^ 63 := Nat.or_lt_two_pow (by omega) (by omega)
  show IntKind.i64.wrap ((BitVec.ofInt 64 (a : Int) ||| BitVec.ofInt 64 (b : Int)).toNat : Int) = _
  rw [BitVec.toNat_or, ofInt_i64 a (by omega), ofInt_i64 b (by omega), IntKind.wrap_i64]
  omega
theorem i64_xor_nat (a b : Nat) (ha : a < 9223372036854775808) (hb : b < 9223372036854775808) : bits .xor .i64 (a : Int) (b : Int) = ((a ^^^ b : Nat) : Int) := by
  have hx : a ^^^ b < 2 ^ 63 := Nat.xor_lt_two_pow (by omega) (by omega)
  show IntKind.i64.wrap ((BitVec.ofInt 64 (a : Int) ^^^ BitVec.ofInt 64 (b : Int)).toNat : Int) = _
  rw [BitVec.toNat_xor, ofInt_i64 a (by omega), ofInt_i64 b (by omega), IntKind.wrap_i64]
  omega
theorem i64_join (i : Nat) (a b : Nat) (ha : a % 2 ^ i = 0) (hb : b < 2 ^ i) (h1 : a < 9223372036854775808) (h2 : b < 9223372036854775808) : bits .or .i64 (a : Int) (b : Int) = ((a + b : Nat) : Int) := by
  have := bits_join .i64 63 (by decide) wraps_i64 i (a : Int) (b : Int) (by omega) (by exact_mod_cast ha) (by omega) (by omega) (by exact_mod_cast hb) (by omega)
  rw [this, Int.natCast_add]
theorem u64_shl8 (c : Nat) (h : c < 256) : ((c : Int) * 2 ^ 8) = ((c * 256 : Nat) : Int) := by rw [show (2 : Int) ^ 8 = 256 by decide]; omega
end Go.Proofs.Ythdkbocokefdhaa
