import Derived.Test.YthdkbocokefdhaaHolA
import Derived.Test.YthdkbocokefdhaaOpens
/- ReasmHoles, at the law's arguments. -/
namespace Go.Proofs.Ythdkbocokefdhaa
set_option maxRecDepth 100000
open Go.RowKit
theorem u8_nat {a : Int} (h : (Lit.int .u8 a).wf = true) : ∃ b : Nat, a = b ∧ b < 256 := by
  have hmin : IntKind.u8.min = 0 := rfl
  have hmax : IntKind.u8.max = 255 := rfl
  simp only [Lit.wf, Bool.and_eq_true, decide_eq_true_eq] at h
  exact ⟨a.toNat, by omega, by omega⟩
theorem hole_law (w : World) (g : H4) (hg : g.small) (s : ByteArray) (ws : s.size ≤ maxLen) (mtu : Int) (_ : (Lit.int .i64 mtu).wf = true) (lost : Int) (hlost : (Lit.int .u8 lost).wf = true) (l : List Nat) (a : Option Addr) (cap : Nat) (hin : U16In w a l ∧ l.length ≤ 9223372036854775807) :
    Calls Try.prog 8 #[hv g, .string s, .int .i64 mtu, .int .u8 lost, .slice a l.length cap] w fun e w' => e = .returned (.bool true) ∧ Below w.heap.size w w' := by
  obtain ⟨b, rfl, hb⟩ := u8_nat hlost
  exact hole_walk g s.data.toList mtu b hb l a cap w hin.1 hg (by have e : s.data.toList.length = s.size := by simp
                                                                  unfold maxLen at ws; omega) hin.2
end Go.Proofs.Ythdkbocokefdhaa
