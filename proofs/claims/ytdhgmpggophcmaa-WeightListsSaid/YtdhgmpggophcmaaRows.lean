/-
  No cell of these rows narrows 'for every input' (looked for: loops, veiled, ifaces, maps, wideKeys, modest, calm, conditions, laid).
  DERIVED. THE GIVEN ROWS OF THIS SEAT. 7 by the template 'for every input the law returns true; each argument reads behind the call as it read before'; 0 by the template 'total and deterministic' (their statements: YtdhgmpggophcmaaTotals.lean).
  GIVEN WITH THE SEED: the statements are not yours to turn. If you find one false, say at which input.
  Laid BY PROGRAM, IN A SANDBOX (cutbox-rows.mjs): the forced cells as the released guide's own fill.sh prints them over the translation b300f6bf84560ea1… (all of the seat's roots in one cut). By AI agents, Wed Nov 11 2026. No macro, syntax, notation, axiom, sorry.
-/
import Derived.Test.YtdhgmpggophcmaaChecked
import GoSem.Claim
import GoSem.ClaimJoined
import GoSem.ClaimMapViews
import Derived.JoinedTies
import Derived.KernelRfl
namespace Go.Proofs.Ytdhgmpggophcmaa
/- THE CELL 'sum', in the pinned program and in every row, IS THE sha256 OF THE DUMP (.gsa) THAT YtdhgmpggophcmaaProg.lean LOADS. Nothing in Lean hashes anything: it is a label: what it is worth is what the hold of that sum in a sandbox is worth. -/
noncomputable def Try.pinned : Pinned := { name := "ytdhgmpggophcmaa", sum := "b300f6bf84560ea1849ed039f92fda4f5b0d1c1c61d1d63d1619f21e7b6e90ef", checked := Try.checked }
namespace Rows
def none {H : Type} : Left H := { results := [], args := [] }

/-- 'palanquinlaw21.WeightShares': WHATEVER THE INPUT: true; the input reads as it did. -/
def weightSharesSpec : ChangeSpec := { name := "weightShares", fn := fun _ => fun
  | [d1, d2] => { results := [.lit (.bool true)], args := [d1, d2] }
  | _ => none }
def weightSharesRow : OpenClaim := { program := "ytdhgmpggophcmaa", sum := "b300f6bf84560ea1849ed039f92fda4f5b0d1c1c61d1d63d1619f21e7b6e90ef", func := "palanquin/palanquinlaw21.WeightShares", spec := "weightShares", inPlace := ["math.archCeil", "math.archFloor", "math.Float64bits", "math.Float64frombits", "math.archTrunc"], apart := false }
def WeightSharesSaid : Prop := weightSharesRow.holds Try.pinned (OpenSpec.ofChange weightSharesSpec)

/-- ITS FALSE NEIGHBOUR: 'it returns false'. Refute it at one input. -/
def weightSharesWrong : ChangeSpec := { name := "weightShares", fn := fun _ => fun
  | [d1, d2] => { results := [.lit (.bool false)], args := [d1, d2] }
  | _ => none }
def WeightSharesWrongFalsely : Prop := weightSharesRow.holds Try.pinned (OpenSpec.ofChange weightSharesWrong)

/-- 'palanquinlaw21.WeightLists': WHATEVER THE INPUT: true; the input reads as it did. -/
def weightListsSpec : ChangeSpec := { name := "weightLists", fn := fun _ => fun
  | [d1, d2, d3] => { results := [.lit (.bool true)], args := [d1, d2, d3] }
  | _ => none }
def weightListsRow : OpenClaim := { program := "ytdhgmpggophcmaa", sum := "b300f6bf84560ea1849ed039f92fda4f5b0d1c1c61d1d63d1619f21e7b6e90ef", func := "palanquin/palanquinlaw21.WeightLists", spec := "weightLists", inPlace := ["math.archCeil", "math.archFloor", "math.Float64bits", "math.Float64frombits", "math.archTrunc"], apart := false }
def WeightListsSaid : Prop := weightListsRow.holds Try.pinned (OpenSpec.ofChange weightListsSpec)

/-- ITS FALSE NEIGHBOUR: 'it returns false'. Refute it at one input. -/
def weightListsWrong : ChangeSpec := { name := "weightLists", fn := fun _ => fun
  | [d1, d2, d3] => { results := [.lit (.bool false)], args := [d1, d2, d3] }
  | _ => none }
def WeightListsWrongFalsely : Prop := weightListsRow.holds Try.pinned (OpenSpec.ofChange weightListsWrong)

/-- 'palanquinlaw21.WeightTells': WHATEVER THE INPUT: true; the input reads as it did. -/
def weightTellsSpec : ChangeSpec := { name := "weightTells", fn := fun _ => fun
  | [d1, d2] => { results := [.lit (.bool true)], args := [d1, d2] }
  | _ => none }
def weightTellsRow : OpenClaim := { program := "ytdhgmpggophcmaa", sum := "b300f6bf84560ea1849ed039f92fda4f5b0d1c1c61d1d63d1619f21e7b6e90ef", func := "palanquin/palanquinlaw21.WeightTells", spec := "weightTells", inPlace := ["math.archCeil", "math.archFloor", "math.Float64bits", "math.Float64frombits", "math.archTrunc"], apart := false }
def WeightTellsSaid : Prop := weightTellsRow.holds Try.pinned (OpenSpec.ofChange weightTellsSpec)

/-- ITS FALSE NEIGHBOUR: 'it returns false'. Refute it at one input. -/
def weightTellsWrong : ChangeSpec := { name := "weightTells", fn := fun _ => fun
  | [d1, d2] => { results := [.lit (.bool false)], args := [d1, d2] }
  | _ => none }
def WeightTellsWrongFalsely : Prop := weightTellsRow.holds Try.pinned (OpenSpec.ofChange weightTellsWrong)

/-- 'palanquinlaw21.WeightCompares': WHATEVER THE INPUT: true; the input reads as it did. -/
def weightComparesSpec : ChangeSpec := { name := "weightCompares", fn := fun _ => fun
  | [d1, d2] => { results := [.lit (.bool true)], args := [d1, d2] }
  | _ => none }
def weightComparesRow : OpenClaim := { program := "ytdhgmpggophcmaa", sum := "b300f6bf84560ea1849ed039f92fda4f5b0d1c1c61d1d63d1619f21e7b6e90ef", func := "palanquin/palanquinlaw21.WeightCompares", spec := "weightCompares", inPlace := ["math.archCeil", "math.archFloor", "math.Float64bits", "math.Float64frombits", "math.archTrunc"], apart := false }
def WeightComparesSaid : Prop := weightComparesRow.holds Try.pinned (OpenSpec.ofChange weightComparesSpec)

/-- ITS FALSE NEIGHBOUR: 'it returns false'. Refute it at one input. -/
def weightComparesWrong : ChangeSpec := { name := "weightCompares", fn := fun _ => fun
  | [d1, d2] => { results := [.lit (.bool false)], args := [d1, d2] }
  | _ => none }
def WeightComparesWrongFalsely : Prop := weightComparesRow.holds Try.pinned (OpenSpec.ofChange weightComparesWrong)

/-- 'palanquinlaw21.WeightOrders': WHATEVER THE INPUT: true; the input reads as it did. -/
def weightOrdersSpec : ChangeSpec := { name := "weightOrders", fn := fun _ => fun
  | [d1, d2, d3] => { results := [.lit (.bool true)], args := [d1, d2, d3] }
  | _ => none }
def weightOrdersRow : OpenClaim := { program := "ytdhgmpggophcmaa", sum := "b300f6bf84560ea1849ed039f92fda4f5b0d1c1c61d1d63d1619f21e7b6e90ef", func := "palanquin/palanquinlaw21.WeightOrders", spec := "weightOrders", inPlace := ["math.archCeil", "math.archFloor", "math.Float64bits", "math.Float64frombits", "math.archTrunc"], apart := false }
def WeightOrdersSaid : Prop := weightOrdersRow.holds Try.pinned (OpenSpec.ofChange weightOrdersSpec)

/-- ITS FALSE NEIGHBOUR: 'it returns false'. Refute it at one input. -/
def weightOrdersWrong : ChangeSpec := { name := "weightOrders", fn := fun _ => fun
  | [d1, d2, d3] => { results := [.lit (.bool false)], args := [d1, d2, d3] }
  | _ => none }
def WeightOrdersWrongFalsely : Prop := weightOrdersRow.holds Try.pinned (OpenSpec.ofChange weightOrdersWrong)

/-- 'palanquinlaw21.WeightSteps': WHATEVER THE INPUT: true; the input reads as it did. -/
def weightStepsSpec : ChangeSpec := { name := "weightSteps", fn := fun _ => fun
  | [d] => { results := [.lit (.bool true)], args := [d] }
  | _ => none }
def weightStepsRow : OpenClaim := { program := "ytdhgmpggophcmaa", sum := "b300f6bf84560ea1849ed039f92fda4f5b0d1c1c61d1d63d1619f21e7b6e90ef", func := "palanquin/palanquinlaw21.WeightSteps", spec := "weightSteps", inPlace := ["math.archCeil", "math.archFloor", "math.Float64bits", "math.Float64frombits", "math.archTrunc"], apart := false }
def WeightStepsSaid : Prop := weightStepsRow.holds Try.pinned (OpenSpec.ofChange weightStepsSpec)

/-- ITS FALSE NEIGHBOUR: 'it returns false'. Refute it at one input. -/
def weightStepsWrong : ChangeSpec := { name := "weightSteps", fn := fun _ => fun
  | [d] => { results := [.lit (.bool false)], args := [d] }
  | _ => none }
def WeightStepsWrongFalsely : Prop := weightStepsRow.holds Try.pinned (OpenSpec.ofChange weightStepsWrong)

/-- 'palanquinlaw21.WeightBack': WHATEVER THE INPUT: true; the input reads as it did. -/
def weightBackSpec : ChangeSpec := { name := "weightBack", fn := fun _ => fun
  | [d1, d2] => { results := [.lit (.bool true)], args := [d1, d2] }
  | _ => none }
def weightBackRow : OpenClaim := { program := "ytdhgmpggophcmaa", sum := "b300f6bf84560ea1849ed039f92fda4f5b0d1c1c61d1d63d1619f21e7b6e90ef", func := "palanquin/palanquinlaw21.WeightBack", spec := "weightBack", inPlace := ["math.archCeil", "math.archFloor", "math.Float64bits", "math.Float64frombits", "math.archTrunc"], apart := false }
def WeightBackSaid : Prop := weightBackRow.holds Try.pinned (OpenSpec.ofChange weightBackSpec)

/-- ITS FALSE NEIGHBOUR: 'it returns false'. Refute it at one input. -/
def weightBackWrong : ChangeSpec := { name := "weightBack", fn := fun _ => fun
  | [d1, d2] => { results := [.lit (.bool false)], args := [d1, d2] }
  | _ => none }
def WeightBackWrongFalsely : Prop := weightBackRow.holds Try.pinned (OpenSpec.ofChange weightBackWrong)

/- THE SECOND FORM. 'bulk': how many values and letters a reading holds, each counted each time it is reached (what is shared counts as often as it is met; a slice's spare places count too). A statement '..UptoSaid' is the law's where the arguments, and the package variables that the reading takes, are together of bulk at most 1048576: NARROWER than '..Said'. Prove '..Said' where nothing that the law and all that it calls make is longer than what came in: it says more and counts as full. Else prove '..UptoSaid'. A law counts once. -/
mutual
def uptoBulk {H : Type} : DataW H → Nat
  | .lit (.string bytes) => bytes.length + 1
  | .lit _ => 1
  | .nil => 1
  | .ptr d => uptoBulk d + 1
  | .slice elems spare => uptoBulkAll elems + uptoBulkAll spare + 1
  | .agg parts => uptoBulkAll parts + 1
  | .iface _ d => uptoBulk d + 1
  | .map entries => uptoBulkEntries entries + 1
  | .held _ => 1
def uptoBulkAll {H : Type} : List (DataW H) → Nat
  | [] => 0
  | d :: r => uptoBulk d + uptoBulkAll r
def uptoBulkEntries {H : Type} : List (Lit × DataW H) → Nat
  | [] => 0
  | x :: r => uptoBulkEntry x + uptoBulkEntries r
def uptoBulkEntry {H : Type} : Lit × DataW H → Nat
  | (.string bytes, d) => bytes.length + uptoBulk d + 1
  | (_, d) => uptoBulk d + 1
 end
def uptoSmall : (H : Type) → List (DataW H) → Bool := fun _ ds => decide (uptoBulkAll ds ≤ 1048576)
def OpenSpec.upto (s : _root_.Go.ChangeSpec) : _root_.Go.OpenSpec := { _root_.Go.OpenSpec.ofChange s with cond := some uptoSmall }

/-- 'palanquinlaw21.WeightShares', WHERE WHAT IT READS IS OF BULK AT MOST 1048576: true; the input reads as it did. -/
def weightSharesUptoRow : OpenClaim := { program := "ytdhgmpggophcmaa", sum := "b300f6bf84560ea1849ed039f92fda4f5b0d1c1c61d1d63d1619f21e7b6e90ef", func := "palanquin/palanquinlaw21.WeightShares", spec := "weightShares", inPlace := ["math.archCeil", "math.archFloor", "math.Float64bits", "math.Float64frombits", "math.archTrunc"], apart := false, narrowed := true }
def WeightSharesUptoSaid : Prop := weightSharesUptoRow.holds Try.pinned (OpenSpec.upto weightSharesSpec)

/-- 'palanquinlaw21.WeightLists', WHERE WHAT IT READS IS OF BULK AT MOST 1048576: true; the input reads as it did. -/
def weightListsUptoRow : OpenClaim := { program := "ytdhgmpggophcmaa", sum := "b300f6bf84560ea1849ed039f92fda4f5b0d1c1c61d1d63d1619f21e7b6e90ef", func := "palanquin/palanquinlaw21.WeightLists", spec := "weightLists", inPlace := ["math.archCeil", "math.archFloor", "math.Float64bits", "math.Float64frombits", "math.archTrunc"], apart := false, narrowed := true }
def WeightListsUptoSaid : Prop := weightListsUptoRow.holds Try.pinned (OpenSpec.upto weightListsSpec)

/-- 'palanquinlaw21.WeightTells', WHERE WHAT IT READS IS OF BULK AT MOST 1048576: true; the input reads as it did. -/
def weightTellsUptoRow : OpenClaim := { program := "ytdhgmpggophcmaa", sum := "b300f6bf84560ea1849ed039f92fda4f5b0d1c1c61d1d63d1619f21e7b6e90ef", func := "palanquin/palanquinlaw21.WeightTells", spec := "weightTells", inPlace := ["math.archCeil", "math.archFloor", "math.Float64bits", "math.Float64frombits", "math.archTrunc"], apart := false, narrowed := true }
def WeightTellsUptoSaid : Prop := weightTellsUptoRow.holds Try.pinned (OpenSpec.upto weightTellsSpec)

/-- 'palanquinlaw21.WeightCompares', WHERE WHAT IT READS IS OF BULK AT MOST 1048576: true; the input reads as it did. -/
def weightComparesUptoRow : OpenClaim := { program := "ytdhgmpggophcmaa", sum := "b300f6bf84560ea1849ed039f92fda4f5b0d1c1c61d1d63d1619f21e7b6e90ef", func := "palanquin/palanquinlaw21.WeightCompares", spec := "weightCompares", inPlace := ["math.archCeil", "math.archFloor", "math.Float64bits", "math.Float64frombits", "math.archTrunc"], apart := false, narrowed := true }
def WeightComparesUptoSaid : Prop := weightComparesUptoRow.holds Try.pinned (OpenSpec.upto weightComparesSpec)

/-- 'palanquinlaw21.WeightOrders', WHERE WHAT IT READS IS OF BULK AT MOST 1048576: true; the input reads as it did. -/
def weightOrdersUptoRow : OpenClaim := { program := "ytdhgmpggophcmaa", sum := "b300f6bf84560ea1849ed039f92fda4f5b0d1c1c61d1d63d1619f21e7b6e90ef", func := "palanquin/palanquinlaw21.WeightOrders", spec := "weightOrders", inPlace := ["math.archCeil", "math.archFloor", "math.Float64bits", "math.Float64frombits", "math.archTrunc"], apart := false, narrowed := true }
def WeightOrdersUptoSaid : Prop := weightOrdersUptoRow.holds Try.pinned (OpenSpec.upto weightOrdersSpec)

/-- 'palanquinlaw21.WeightSteps', WHERE WHAT IT READS IS OF BULK AT MOST 1048576: true; the input reads as it did. -/
def weightStepsUptoRow : OpenClaim := { program := "ytdhgmpggophcmaa", sum := "b300f6bf84560ea1849ed039f92fda4f5b0d1c1c61d1d63d1619f21e7b6e90ef", func := "palanquin/palanquinlaw21.WeightSteps", spec := "weightSteps", inPlace := ["math.archCeil", "math.archFloor", "math.Float64bits", "math.Float64frombits", "math.archTrunc"], apart := false, narrowed := true }
def WeightStepsUptoSaid : Prop := weightStepsUptoRow.holds Try.pinned (OpenSpec.upto weightStepsSpec)

/-- 'palanquinlaw21.WeightBack', WHERE WHAT IT READS IS OF BULK AT MOST 1048576: true; the input reads as it did. -/
def weightBackUptoRow : OpenClaim := { program := "ytdhgmpggophcmaa", sum := "b300f6bf84560ea1849ed039f92fda4f5b0d1c1c61d1d63d1619f21e7b6e90ef", func := "palanquin/palanquinlaw21.WeightBack", spec := "weightBack", inPlace := ["math.archCeil", "math.archFloor", "math.Float64bits", "math.Float64frombits", "math.archTrunc"], apart := false, narrowed := true }
def WeightBackUptoSaid : Prop := weightBackUptoRow.holds Try.pinned (OpenSpec.upto weightBackSpec)

end Rows
end Go.Proofs.Ytdhgmpggophcmaa
