/-
  No cell of these rows narrows 'for every input' (looked for: loops, veiled, ifaces, maps, wideKeys, modest, calm, conditions, laid).
  DERIVED. THE GIVEN ROWS OF THIS SEAT. 3 by the template 'for every input the law returns true; each argument reads behind the call as it read before'; 0 by the template 'total and deterministic' (their statements: YtmijfhfjhbckdaaTotals.lean).
  GIVEN WITH THE SEED: the statements are not yours to turn. If you find one false, say at which input.
  Laid BY PROGRAM, IN A SANDBOX (cutbox-rows.mjs): the forced cells as the released guide's own fill.sh prints them over the translation 172aa8eb1b81ab2f… (all of the seat's roots in one cut). By AI agents, Wed Nov 11 2026. No macro, syntax, notation, axiom, sorry.
-/
import Derived.Test.YtmijfhfjhbckdaaChecked
import GoSem.Claim
import GoSem.ClaimJoined
import GoSem.ClaimMapViews
import Derived.JoinedTies
import Derived.KernelRfl
namespace Go.Proofs.Ytmijfhfjhbckdaa
/- THE CELL 'sum', in the pinned program and in every row, IS THE sha256 OF THE DUMP (.gsa) THAT YtmijfhfjhbckdaaProg.lean LOADS. Nothing in Lean hashes anything: it is a label: what it is worth is what the hold of that sum in a sandbox is worth. -/
noncomputable def Try.pinned : Pinned := { name := "ytmijfhfjhbckdaa", sum := "172aa8eb1b81ab2f65b0ac1c99ab4f145d5ecdeb96df8c8a51cc7ef72b3dbd6a", checked := Try.checked }
namespace Rows
def none {H : Type} : Left H := { results := [], args := [] }

/-- 'palanquinlaw27.ScriptReads': WHATEVER THE INPUT: true; the input reads as it did. -/
def scriptReadsSpec : ChangeSpec := { name := "scriptReads", fn := fun _ => fun
  | [d] => { results := [.lit (.bool true)], args := [d] }
  | _ => none }
def scriptReadsRow : OpenClaim := { program := "ytmijfhfjhbckdaa", sum := "172aa8eb1b81ab2f65b0ac1c99ab4f145d5ecdeb96df8c8a51cc7ef72b3dbd6a", func := "palanquin/palanquinlaw27.ScriptReads", spec := "scriptReads", inPlace := ["internal/abi.NoEscape", "math.Float64bits", "math.Float64frombits"], unfollowed := true, recurses := true, apart := false }
def ScriptReadsSaid : Prop := scriptReadsRow.holds Try.pinned (OpenSpec.ofChange scriptReadsSpec)

/-- ITS FALSE NEIGHBOUR: 'it returns false'. Refute it at one input. -/
def scriptReadsWrong : ChangeSpec := { name := "scriptReads", fn := fun _ => fun
  | [d] => { results := [.lit (.bool false)], args := [d] }
  | _ => none }
def ScriptReadsWrongFalsely : Prop := scriptReadsRow.holds Try.pinned (OpenSpec.ofChange scriptReadsWrong)

/-- 'palanquinlaw27.ScriptBack': WHATEVER THE INPUT: true; the input reads as it did. -/
def scriptBackSpec : ChangeSpec := { name := "scriptBack", fn := fun _ => fun
  | [d1, d2, d3, d4] => { results := [.lit (.bool true)], args := [d1, d2, d3, d4] }
  | _ => none }
def scriptBackRow : OpenClaim := { program := "ytmijfhfjhbckdaa", sum := "172aa8eb1b81ab2f65b0ac1c99ab4f145d5ecdeb96df8c8a51cc7ef72b3dbd6a", func := "palanquin/palanquinlaw27.ScriptBack", spec := "scriptBack", inPlace := ["internal/abi.NoEscape", "math.Float64bits", "math.Float64frombits"], unfollowed := true, recurses := true, apart := false }
def ScriptBackSaid : Prop := scriptBackRow.holds Try.pinned (OpenSpec.ofChange scriptBackSpec)

/-- ITS FALSE NEIGHBOUR: 'it returns false'. Refute it at one input. -/
def scriptBackWrong : ChangeSpec := { name := "scriptBack", fn := fun _ => fun
  | [d1, d2, d3, d4] => { results := [.lit (.bool false)], args := [d1, d2, d3, d4] }
  | _ => none }
def ScriptBackWrongFalsely : Prop := scriptBackRow.holds Try.pinned (OpenSpec.ofChange scriptBackWrong)

/-- 'palanquinlaw27.ScriptPuts': WHATEVER THE INPUT: true; the input reads as it did. -/
def scriptPutsSpec : ChangeSpec := { name := "scriptPuts", fn := fun _ => fun
  | [d1, d2, d3, d4] => { results := [.lit (.bool true)], args := [d1, d2, d3, d4] }
  | _ => none }
def scriptPutsRow : OpenClaim := { program := "ytmijfhfjhbckdaa", sum := "172aa8eb1b81ab2f65b0ac1c99ab4f145d5ecdeb96df8c8a51cc7ef72b3dbd6a", func := "palanquin/palanquinlaw27.ScriptPuts", spec := "scriptPuts", inPlace := ["internal/abi.NoEscape", "math.Float64bits", "math.Float64frombits"], unfollowed := true, recurses := true, apart := false }
def ScriptPutsSaid : Prop := scriptPutsRow.holds Try.pinned (OpenSpec.ofChange scriptPutsSpec)

/-- ITS FALSE NEIGHBOUR: 'it returns false'. Refute it at one input. -/
def scriptPutsWrong : ChangeSpec := { name := "scriptPuts", fn := fun _ => fun
  | [d1, d2, d3, d4] => { results := [.lit (.bool false)], args := [d1, d2, d3, d4] }
  | _ => none }
def ScriptPutsWrongFalsely : Prop := scriptPutsRow.holds Try.pinned (OpenSpec.ofChange scriptPutsWrong)

/- THE SECOND FORM. 'bulk': how many values and letters a reading holds, each counted each time it is reached (what is shared counts as often as it is met; a slice's spare places count too). A statement '..UptoSaid' is the law's where the arguments, and the package variables that the reading takes, are together of bulk at most 1048576: NARROWER than '..Said'. Prove '..Said' where nothing that the law and all that it calls make is longer than what came in: it says more and counts as full. Else prove '..UptoSaid'. A law counts once. -/
mutual
def uptoBulk {H : Type} : DataW H → Nat
  | .lit (.string bytes) => bytes.length + 1
  | .lit _ => 1
  | .nil => 1
  | .ptr d => uptoBulk d + 1
  | .slice elems spare => uptoBulkAll elems + uptoBulkAll spare + 1
  | .agg parts => uptoBulkAll parts + 1
  | .iface _ d => uptoBulk d + 1
  | .map entries => uptoBulkEntries entries + 1
  | .held _ => 1
def uptoBulkAll {H : Type} : List (DataW H) → Nat
  | [] => 0
  | d :: r => uptoBulk d + uptoBulkAll r
def uptoBulkEntries {H : Type} : List (Lit × DataW H) → Nat
  | [] => 0
  | x :: r => uptoBulkEntry x + uptoBulkEntries r
def uptoBulkEntry {H : Type} : Lit × DataW H → Nat
  | (.string bytes, d) => bytes.length + uptoBulk d + 1
  | (_, d) => uptoBulk d + 1
 end
def uptoSmall : (H : Type) → List (DataW H) → Bool := fun _ ds => decide (uptoBulkAll ds ≤ 1048576)
def OpenSpec.upto (s : _root_.Go.ChangeSpec) : _root_.Go.OpenSpec := { _root_.Go.OpenSpec.ofChange s with cond := some uptoSmall }

/-- 'palanquinlaw27.ScriptReads', WHERE WHAT IT READS IS OF BULK AT MOST 1048576: true; the input reads as it did. -/
def scriptReadsUptoRow : OpenClaim := { program := "ytmijfhfjhbckdaa", sum := "172aa8eb1b81ab2f65b0ac1c99ab4f145d5ecdeb96df8c8a51cc7ef72b3dbd6a", func := "palanquin/palanquinlaw27.ScriptReads", spec := "scriptReads", inPlace := ["internal/abi.NoEscape", "math.Float64bits", "math.Float64frombits"], unfollowed := true, recurses := true, apart := false, narrowed := true }
def ScriptReadsUptoSaid : Prop := scriptReadsUptoRow.holds Try.pinned (OpenSpec.upto scriptReadsSpec)

/-- 'palanquinlaw27.ScriptBack', WHERE WHAT IT READS IS OF BULK AT MOST 1048576: true; the input reads as it did. -/
def scriptBackUptoRow : OpenClaim := { program := "ytmijfhfjhbckdaa", sum := "172aa8eb1b81ab2f65b0ac1c99ab4f145d5ecdeb96df8c8a51cc7ef72b3dbd6a", func := "palanquin/palanquinlaw27.ScriptBack", spec := "scriptBack", inPlace := ["internal/abi.NoEscape", "math.Float64bits", "math.Float64frombits"], unfollowed := true, recurses := true, apart := false, narrowed := true }
def ScriptBackUptoSaid : Prop := scriptBackUptoRow.holds Try.pinned (OpenSpec.upto scriptBackSpec)

/-- 'palanquinlaw27.ScriptPuts', WHERE WHAT IT READS IS OF BULK AT MOST 1048576: true; the input reads as it did. -/
def scriptPutsUptoRow : OpenClaim := { program := "ytmijfhfjhbckdaa", sum := "172aa8eb1b81ab2f65b0ac1c99ab4f145d5ecdeb96df8c8a51cc7ef72b3dbd6a", func := "palanquin/palanquinlaw27.ScriptPuts", spec := "scriptPuts", inPlace := ["internal/abi.NoEscape", "math.Float64bits", "math.Float64frombits"], unfollowed := true, recurses := true, apart := false, narrowed := true }
def ScriptPutsUptoSaid : Prop := scriptPutsUptoRow.holds Try.pinned (OpenSpec.upto scriptPutsSpec)

end Rows
end Go.Proofs.Ytmijfhfjhbckdaa
