import Derived.Test.YthdkbocokefdhaaApA
import Derived.Test.YthdkbocokefdhaaOpens
import Derived.Deep.Grids
/- ReasmApart, at the law's arguments. -/
namespace Go.Proofs.Ythdkbocokefdhaa
set_option maxRecDepth 100000
open Go.RowKit
open Go.ChangeShapes Go.WideShapes Go.ChangeAt
theorem open_bls {H : Type} {enc : TypeId × Value → H} {w : World} {held : Bool} {fuel : Nat} {a : Option Addr} {len cap : Nat} {x : DataW H × List MemPlace} (h : DataW.trod enc Try.prog w 0 (fun _ => true) held fuel 45 [.slice a len cap] = some x) :
    ∃ l : List Bool, l.length = len ∧ BlIn w a l ∧ l.length ≤ 9223372036854775807 := by
  rcases Go.Deep.open_bools Try.underlying45 Try.underlying4 (by kernel_rfl) h with ⟨hcs, _⟩ | ⟨y, l, c, B, hcs, _, hl, hm, _, hcell⟩
  · simp at hcs
    obtain ⟨rfl, rfl, rfl⟩ := hcs
    exact ⟨[], rfl, fun j hj => by simp at hj, by simp⟩
  · simp at hcs
    obtain ⟨rfl, rfl, rfl⟩ := hcs
    refine ⟨(List.range len).map B, by simp, fun j hj => ?_, by unfold maxLen at hm; simp; omega⟩
    have hj' : j < len := by simpa using hj
    exact ⟨y, rfl, by rw [hcell j (by omega)]; simp⟩
theorem apart_law (w : World) (g : H4) (hg : g.small) (s : ByteArray) (ws : s.size ≤ maxLen) (t : ByteArray) (wt : t.size ≤ maxLen) (oth : Int) (hoth : (Lit.int .u16 oth).wf = true) (mtu : Int) (_ : (Lit.int .i64 mtu).wf = true) (l : List Bool) (a : Option Addr) (cap : Nat) (hin : BlIn w a l ∧ l.length ≤ 9223372036854775807) :
    Calls Try.prog 5 #[hv g, .string s, .string t, .int .u16 oth, .int .i64 mtu, .slice a l.length cap] w fun e w' => e = .returned (.bool true) ∧ Below w.heap.size w w' := by
  obtain ⟨b, rfl, hb⟩ := u16_nat hoth
  have sz : ∀ r : ByteArray, r.size ≤ maxLen → r.data.toList.length < 9223372036854775808 := fun r h => by
    have e : r.data.toList.length = r.size := by simp
    unfold maxLen at h; omega
  exact apart_walk g s.data.toList t.data.toList b hb mtu l a cap w hin.1 hg (sz s ws) (sz t wt) hin.2
end Go.Proofs.Ythdkbocokefdhaa
