import Derived.Test.YtfagkmmenfeppaaDoorRefP
import Derived.Test.YtfagkmmenfeppaaDoorLocal
import Derived.Deep.QuietTactic
import Derived.BigQuiet
/- What the document's Get tells, and its families. -/
namespace Go.Proofs.YtfagkmmenfeppaaDoor
set_option maxRecDepth 100000
open Go.RowKit
/-- what the document's Get tells -/
def RGetPost (b : ByteArray) (w : World) (e : Ending) (w' : World) : Prop :=
  Below w.heap.size w w' ∧
  ((∃ c : Nat, getR b.data.toList = .error c ∧ e = .returned (.tuple #[zeroS, .bool false, .int .i64 0, .int .i64 c])) ∨
   (∃ (loc : Bool) (h : Hd) (fs : List Fd) (a m : Nat) (v : Value) (B : Nat), getR b.data.toList = .ok (loc, h, fs, a, m) ∧ e = .returned (.tuple #[streamV loc h v, .bool (decide (0 < a)), .int .i64 m, .int .i64 0]) ∧ w'.ownsRow B 45 2 v fs.length (fflat fs)))
theorem ext_list (s : ByteArray) (a b : Nat) : (s.extract a b).data.toList = (s.data.toList.drop a).take (b - a) := by
  simp [ByteArray.data_extract, List.drop_take]
theorem fam_self {f : Fam} (h : f ∈ fams) : famT (f.1 : Int) = (f.2.1, f.2.2, true) := by
  simp [fams] at h
  rcases h with rfl | rfl | rfl | rfl | rfl <;> rfl
theorem fam_other {f : Fam} (h : f ∈ fams) {k : Nat} (hk : k < 5) (hn : k ≠ f.1) : ∃ c m : Nat, famT (k : Int) = (c, m, true) ∧ c ≠ f.2.1 := by
  have hk' : k = 0 ∨ k = 1 ∨ k = 2 ∨ k = 3 ∨ k = 4 := by omega
  simp [fams] at h
  rcases hk' with rfl | rfl | rfl | rfl | rfl <;> refine ⟨_, _, rfl, ?_⟩ <;> rcases h with rfl | rfl | rfl | rfl | rfl <;> first | exact absurd rfl hn | decide
theorem bv_two (l : List UInt8) : bv (l.take 2) < 65536 := by
  have h := bv_lt (l.take 2)
  have h2 : 256 ^ (l.take 2).length ≤ 256 ^ 2 := Nat.pow_le_pow_right (by decide) (by rw [List.length_take]; omega)
  omega
end Go.Proofs.YtfagkmmenfeppaaDoor
