import Derived.Test.YtmijfhfjhbckdaaRb
import Derived.Test.YtmijfhfjhbckdaaRc
/- The document's act, of any kind. -/
namespace Go.Proofs.Ytmijfhfjhbckdaa
open Go.RowKit
theorem ract_any (k : Nat) (hk : k < 11) (s : ByteArray) (bd : BodyP) (w : World) (h : getP k s.data.toList = some (bd, [])) (hs : s.size ≤ MX) : Calls Try.prog 33 #[.int .i64 (k : Nat), .string s] w fun e w' => e = .returned (.agg (actC k bd)) ∧ Below w.heap.size w w' := by
  have : k = 0 ∨ k = 1 ∨ k = 2 ∨ k = 3 ∨ k = 4 ∨ k = 5 ∨ k = 6 ∨ k = 7 ∨ k = 8 ∨ k = 9 ∨ k = 10 := by omega
  rcases this with rfl | rfl | rfl | rfl | rfl | rfl | rfl | rfl | rfl | rfl | rfl
  · exact ract_0 s _ bd w rfl h hs
  · exact ract_1 s _ bd w rfl h hs
  · exact ract_2 s _ bd w rfl h hs
  · exact ract_3 s _ bd w rfl h hs
  · exact ract_4 s _ bd w rfl h hs
  · exact ract_5 s _ bd w rfl h hs
  · exact ract_6 s _ bd w rfl h hs
  · exact ract_7 s _ bd w rfl h hs
  · exact ract_8 s _ bd w rfl h hs
  · exact ract_9 s _ bd w rfl h hs
  · exact ract_10 s _ bd w rfl h hs
end Go.Proofs.Ytmijfhfjhbckdaa
