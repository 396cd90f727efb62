import Derived.Test.YthdkbocokefdhaaRw
import Derived.Test.YthdkbocokefdhaaPut
/- A piece: its end, whether it is the last, whether it may be. -/
namespace Go.Proofs.Ythdkbocokefdhaa
set_option maxRecDepth 100000
open Go.RowKit

/-- a piece of which no sum goes astray -/
structure Psm (p : Pc) : Prop where
  off : 0 ≤ p.h.off ∧ p.h.off ≤ 8191
  len : p.s.length ≤ 65535
set_option maxHeartbeats 2000000 in
theorem end_c (a0 a1 a2 a3 a4 : Int) (a5 a6 : Bool) (a7 a8 a9 sa : ByteArray) (al e : Nat) (he : e = al + sa.size) (hl : e ≤ 1000000000) (w : World) :
    Calls Try.prog 61 #[.agg #[.int .i64 a0, .int .i64 a1, .int .i64 a2, .int .i64 a3, .int .i64 a4, .bool a5, .bool a6, .string a7, .string a8, .string a9, .int .i64 (al : Nat), .string sa]] w fun e' w' => e' = .returned (.int .i64 (e : Nat)) ∧ Below w.heap.size w w' := by
  have h1 : (al : Int) + (sa.size : Int) = (e : Int) := by omega
  have HE := Lib.hid he
  clear he
  go_enter Try.func61, Try.ntmps61
  go_wp2_with (fail)
  go_ret
  exact ⟨rfl, (Below.refl _ _).alloc (Nat.le_refl _) _⟩
set_option maxHeartbeats 2000000 in
theorem last_c (a0 a1 a2 a3 a4 : Int) (a5 a6 : Bool) (a7 a8 a9 sa : ByteArray) (al : Nat) (w : World) :
    Calls Try.prog 62 #[.agg #[.int .i64 a0, .int .i64 a1, .int .i64 a2, .int .i64 a3, .int .i64 a4, .bool a5, .bool a6, .string a7, .string a8, .string a9, .int .i64 (al : Nat), .string sa]] w fun e' w' => e' = .returned (.bool (!a6)) ∧ Below w.heap.size w w' := by
  go_enter Try.func62, Try.ntmps62
  go_wp2_with (fail)
  go_ret
  exact ⟨rfl, (Below.refl _ _).alloc (Nat.le_refl _) _⟩
end Go.Proofs.Ythdkbocokefdhaa
