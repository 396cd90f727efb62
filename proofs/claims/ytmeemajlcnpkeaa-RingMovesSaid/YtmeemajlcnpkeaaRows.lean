/-
  No cell of these rows narrows 'for every input' (looked for: loops, veiled, ifaces, maps, wideKeys, modest, calm, conditions, laid).
  DERIVED. THE GIVEN ROWS OF THIS SEAT. 5 by the template 'for every input the law returns true; each argument reads behind the call as it read before'; 0 by the template 'total and deterministic' (their statements: YtmeemajlcnpkeaaTotals.lean).
  GIVEN WITH THE SEED: the statements are not yours to turn. If you find one false, say at which input.
  Laid BY PROGRAM, IN A SANDBOX (cutbox-rows.mjs): the forced cells as the released guide's own fill.sh prints them over the translation c7f054abab118dbc… (all of the seat's roots in one cut). By AI agents, Wed Nov 11 2026. No macro, syntax, notation, axiom, sorry.
-/
import Derived.Test.YtmeemajlcnpkeaaChecked
import GoSem.Claim
import GoSem.ClaimJoined
import GoSem.ClaimMapViews
import Derived.JoinedTies
import Derived.KernelRfl
namespace Go.Proofs.Ytmeemajlcnpkeaa
/- THE CELL 'sum', in the pinned program and in every row, IS THE sha256 OF THE DUMP (.gsa) THAT YtmeemajlcnpkeaaProg.lean LOADS. Nothing in Lean hashes anything: it is a label: what it is worth is what the hold of that sum in a sandbox is worth. -/
noncomputable def Try.pinned : Pinned := { name := "ytmeemajlcnpkeaa", sum := "c7f054abab118dbcf88d2fd12150f614a4d205a8bbe9b742f43817acfbeb9bbf", checked := Try.checked }
namespace Rows
def none {H : Type} : Left H := { results := [], args := [] }

/-- 'palanquinlaw22.RingTells': WHATEVER THE INPUT: true; the input reads as it did. -/
def ringTellsSpec : ChangeSpec := { name := "ringTells", fn := fun _ => fun
  | [d1, d2] => { results := [.lit (.bool true)], args := [d1, d2] }
  | _ => none }
def ringTellsRow : OpenClaim := { program := "ytmeemajlcnpkeaa", sum := "c7f054abab118dbcf88d2fd12150f614a4d205a8bbe9b742f43817acfbeb9bbf", func := "palanquin/palanquinlaw22.RingTells", spec := "ringTells", inPlace := ["math.archCeil", "math.archFloor", "math.Float64bits", "math.Float64frombits", "math.archTrunc", "internal/abi.NoEscape"], unfollowed := true, recurses := true, apart := false }
def RingTellsSaid : Prop := ringTellsRow.holds Try.pinned (OpenSpec.ofChange ringTellsSpec)

/-- ITS FALSE NEIGHBOUR: 'it returns false'. Refute it at one input. -/
def ringTellsWrong : ChangeSpec := { name := "ringTells", fn := fun _ => fun
  | [d1, d2] => { results := [.lit (.bool false)], args := [d1, d2] }
  | _ => none }
def RingTellsWrongFalsely : Prop := ringTellsRow.holds Try.pinned (OpenSpec.ofChange ringTellsWrong)

/-- 'palanquinlaw22.RingSet': WHATEVER THE INPUT: true; the input reads as it did. -/
def ringSetSpec : ChangeSpec := { name := "ringSet", fn := fun _ => fun
  | [d1, d2, d3, d4] => { results := [.lit (.bool true)], args := [d1, d2, d3, d4] }
  | _ => none }
def ringSetRow : OpenClaim := { program := "ytmeemajlcnpkeaa", sum := "c7f054abab118dbcf88d2fd12150f614a4d205a8bbe9b742f43817acfbeb9bbf", func := "palanquin/palanquinlaw22.RingSet", spec := "ringSet", inPlace := ["math.archCeil", "math.archFloor", "math.Float64bits", "math.Float64frombits", "math.archTrunc", "internal/abi.NoEscape"], unfollowed := true, recurses := true, apart := false }
def RingSetSaid : Prop := ringSetRow.holds Try.pinned (OpenSpec.ofChange ringSetSpec)

/-- ITS FALSE NEIGHBOUR: 'it returns false'. Refute it at one input. -/
def ringSetWrong : ChangeSpec := { name := "ringSet", fn := fun _ => fun
  | [d1, d2, d3, d4] => { results := [.lit (.bool false)], args := [d1, d2, d3, d4] }
  | _ => none }
def RingSetWrongFalsely : Prop := ringSetRow.holds Try.pinned (OpenSpec.ofChange ringSetWrong)

/-- 'palanquinlaw22.RingPoints': WHATEVER THE INPUT: true; the input reads as it did. -/
def ringPointsSpec : ChangeSpec := { name := "ringPoints", fn := fun _ => fun
  | [d] => { results := [.lit (.bool true)], args := [d] }
  | _ => none }
def ringPointsRow : OpenClaim := { program := "ytmeemajlcnpkeaa", sum := "c7f054abab118dbcf88d2fd12150f614a4d205a8bbe9b742f43817acfbeb9bbf", func := "palanquin/palanquinlaw22.RingPoints", spec := "ringPoints", inPlace := ["math.archCeil", "math.archFloor", "math.Float64bits", "math.Float64frombits", "math.archTrunc", "internal/abi.NoEscape"], unfollowed := true, recurses := true, apart := false }
def RingPointsSaid : Prop := ringPointsRow.holds Try.pinned (OpenSpec.ofChange ringPointsSpec)

/-- ITS FALSE NEIGHBOUR: 'it returns false'. Refute it at one input. -/
def ringPointsWrong : ChangeSpec := { name := "ringPoints", fn := fun _ => fun
  | [d] => { results := [.lit (.bool false)], args := [d] }
  | _ => none }
def RingPointsWrongFalsely : Prop := ringPointsRow.holds Try.pinned (OpenSpec.ofChange ringPointsWrong)

/-- 'palanquinlaw22.RingMoves': WHATEVER THE INPUT: true; the input reads as it did. -/
def ringMovesSpec : ChangeSpec := { name := "ringMoves", fn := fun _ => fun
  | [d1, d2, d3] => { results := [.lit (.bool true)], args := [d1, d2, d3] }
  | _ => none }
def ringMovesRow : OpenClaim := { program := "ytmeemajlcnpkeaa", sum := "c7f054abab118dbcf88d2fd12150f614a4d205a8bbe9b742f43817acfbeb9bbf", func := "palanquin/palanquinlaw22.RingMoves", spec := "ringMoves", inPlace := ["math.archCeil", "math.archFloor", "math.Float64bits", "math.Float64frombits", "math.archTrunc", "internal/abi.NoEscape"], unfollowed := true, recurses := true, apart := false }
def RingMovesSaid : Prop := ringMovesRow.holds Try.pinned (OpenSpec.ofChange ringMovesSpec)

/-- ITS FALSE NEIGHBOUR: 'it returns false'. Refute it at one input. -/
def ringMovesWrong : ChangeSpec := { name := "ringMoves", fn := fun _ => fun
  | [d1, d2, d3] => { results := [.lit (.bool false)], args := [d1, d2, d3] }
  | _ => none }
def RingMovesWrongFalsely : Prop := ringMovesRow.holds Try.pinned (OpenSpec.ofChange ringMovesWrong)

/-- 'palanquinlaw22.RingShares': WHATEVER THE INPUT: true; the input reads as it did. -/
def ringSharesSpec : ChangeSpec := { name := "ringShares", fn := fun _ => fun
  | [d1, d2] => { results := [.lit (.bool true)], args := [d1, d2] }
  | _ => none }
def ringSharesRow : OpenClaim := { program := "ytmeemajlcnpkeaa", sum := "c7f054abab118dbcf88d2fd12150f614a4d205a8bbe9b742f43817acfbeb9bbf", func := "palanquin/palanquinlaw22.RingShares", spec := "ringShares", inPlace := ["math.archCeil", "math.archFloor", "math.Float64bits", "math.Float64frombits", "math.archTrunc", "internal/abi.NoEscape"], unfollowed := true, recurses := true, apart := false }
def RingSharesSaid : Prop := ringSharesRow.holds Try.pinned (OpenSpec.ofChange ringSharesSpec)

/-- ITS FALSE NEIGHBOUR: 'it returns false'. Refute it at one input. -/
def ringSharesWrong : ChangeSpec := { name := "ringShares", fn := fun _ => fun
  | [d1, d2] => { results := [.lit (.bool false)], args := [d1, d2] }
  | _ => none }
def RingSharesWrongFalsely : Prop := ringSharesRow.holds Try.pinned (OpenSpec.ofChange ringSharesWrong)

/- THE SECOND FORM. 'bulk': how many values and letters a reading holds, each counted each time it is reached (what is shared counts as often as it is met; a slice's spare places count too). A statement '..UptoSaid' is the law's where the arguments, and the package variables that the reading takes, are together of bulk at most 1048576: NARROWER than '..Said'. Prove '..Said' where nothing that the law and all that it calls make is longer than what came in: it says more and counts as full. Else prove '..UptoSaid'. A law counts once. -/
mutual
def uptoBulk {H : Type} : DataW H → Nat
  | .lit (.string bytes) => bytes.length + 1
  | .lit _ => 1
  | .nil => 1
  | .ptr d => uptoBulk d + 1
  | .slice elems spare => uptoBulkAll elems + uptoBulkAll spare + 1
  | .agg parts => uptoBulkAll parts + 1
  | .iface _ d => uptoBulk d + 1
  | .map entries => uptoBulkEntries entries + 1
  | .held _ => 1
def uptoBulkAll {H : Type} : List (DataW H) → Nat
  | [] => 0
  | d :: r => uptoBulk d + uptoBulkAll r
def uptoBulkEntries {H : Type} : List (Lit × DataW H) → Nat
  | [] => 0
  | x :: r => uptoBulkEntry x + uptoBulkEntries r
def uptoBulkEntry {H : Type} : Lit × DataW H → Nat
  | (.string bytes, d) => bytes.length + uptoBulk d + 1
  | (_, d) => uptoBulk d + 1
 end
def uptoSmall : (H : Type) → List (DataW H) → Bool := fun _ ds => decide (uptoBulkAll ds ≤ 1048576)
def OpenSpec.upto (s : _root_.Go.ChangeSpec) : _root_.Go.OpenSpec := { _root_.Go.OpenSpec.ofChange s with cond := some uptoSmall }

/-- 'palanquinlaw22.RingTells', WHERE WHAT IT READS IS OF BULK AT MOST 1048576: true; the input reads as it did. -/
def ringTellsUptoRow : OpenClaim := { program := "ytmeemajlcnpkeaa", sum := "c7f054abab118dbcf88d2fd12150f614a4d205a8bbe9b742f43817acfbeb9bbf", func := "palanquin/palanquinlaw22.RingTells", spec := "ringTells", inPlace := ["math.archCeil", "math.archFloor", "math.Float64bits", "math.Float64frombits", "math.archTrunc", "internal/abi.NoEscape"], unfollowed := true, recurses := true, apart := false, narrowed := true }
def RingTellsUptoSaid : Prop := ringTellsUptoRow.holds Try.pinned (OpenSpec.upto ringTellsSpec)

/-- 'palanquinlaw22.RingSet', WHERE WHAT IT READS IS OF BULK AT MOST 1048576: true; the input reads as it did. -/
def ringSetUptoRow : OpenClaim := { program := "ytmeemajlcnpkeaa", sum := "c7f054abab118dbcf88d2fd12150f614a4d205a8bbe9b742f43817acfbeb9bbf", func := "palanquin/palanquinlaw22.RingSet", spec := "ringSet", inPlace := ["math.archCeil", "math.archFloor", "math.Float64bits", "math.Float64frombits", "math.archTrunc", "internal/abi.NoEscape"], unfollowed := true, recurses := true, apart := false, narrowed := true }
def RingSetUptoSaid : Prop := ringSetUptoRow.holds Try.pinned (OpenSpec.upto ringSetSpec)

/-- 'palanquinlaw22.RingPoints', WHERE WHAT IT READS IS OF BULK AT MOST 1048576: true; the input reads as it did. -/
def ringPointsUptoRow : OpenClaim := { program := "ytmeemajlcnpkeaa", sum := "c7f054abab118dbcf88d2fd12150f614a4d205a8bbe9b742f43817acfbeb9bbf", func := "palanquin/palanquinlaw22.RingPoints", spec := "ringPoints", inPlace := ["math.archCeil", "math.archFloor", "math.Float64bits", "math.Float64frombits", "math.archTrunc", "internal/abi.NoEscape"], unfollowed := true, recurses := true, apart := false, narrowed := true }
def RingPointsUptoSaid : Prop := ringPointsUptoRow.holds Try.pinned (OpenSpec.upto ringPointsSpec)

/-- 'palanquinlaw22.RingMoves', WHERE WHAT IT READS IS OF BULK AT MOST 1048576: true; the input reads as it did. -/
def ringMovesUptoRow : OpenClaim := { program := "ytmeemajlcnpkeaa", sum := "c7f054abab118dbcf88d2fd12150f614a4d205a8bbe9b742f43817acfbeb9bbf", func := "palanquin/palanquinlaw22.RingMoves", spec := "ringMoves", inPlace := ["math.archCeil", "math.archFloor", "math.Float64bits", "math.Float64frombits", "math.archTrunc", "internal/abi.NoEscape"], unfollowed := true, recurses := true, apart := false, narrowed := true }
def RingMovesUptoSaid : Prop := ringMovesUptoRow.holds Try.pinned (OpenSpec.upto ringMovesSpec)

/-- 'palanquinlaw22.RingShares', WHERE WHAT IT READS IS OF BULK AT MOST 1048576: true; the input reads as it did. -/
def ringSharesUptoRow : OpenClaim := { program := "ytmeemajlcnpkeaa", sum := "c7f054abab118dbcf88d2fd12150f614a4d205a8bbe9b742f43817acfbeb9bbf", func := "palanquin/palanquinlaw22.RingShares", spec := "ringShares", inPlace := ["math.archCeil", "math.archFloor", "math.Float64bits", "math.Float64frombits", "math.archTrunc", "internal/abi.NoEscape"], unfollowed := true, recurses := true, apart := false, narrowed := true }
def RingSharesUptoSaid : Prop := ringSharesUptoRow.holds Try.pinned (OpenSpec.upto ringSharesSpec)

end Rows
end Go.Proofs.Ytmeemajlcnpkeaa
