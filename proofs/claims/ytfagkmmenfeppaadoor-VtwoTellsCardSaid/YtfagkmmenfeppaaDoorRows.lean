/-
  NARROWER THAN 'FOR EVERY INPUT', by the rows' own cells (each row's printed sentence says how): VtwoTells: laid · VtwoBack: laid · VtwoSeals: laid · VtwoStrict: laid · VtwoLocal: laid · VtwoFields: laid.
  DERIVED. THE GIVEN ROWS OF THIS SEAT. 6 by the template 'for every input the law returns true; each argument reads behind the call as it read before'; 0 by the template 'total and deterministic' (their statements: YtfagkmmenfeppaaDoorTotals.lean).
  GIVEN WITH THE SEED: the statements are not yours to turn. If you find one false, say at which input.
  Laid BY PROGRAM, IN A SANDBOX (cutbox-rows.mjs): the forced cells as the released guide's own fill.sh prints them over the translation 49b1edd11dc50796… (all of the seat's roots in one cut). By AI agents, Wed Nov 11 2026. No macro, syntax, notation, axiom, sorry.
-/
import Derived.Test.YtfagkmmenfeppaaDoorChecked
import GoSem.Claim
import GoSem.ClaimJoined
import GoSem.ClaimMapViews
import Derived.JoinedTies
import Derived.KernelRfl
namespace Go.Proofs.YtfagkmmenfeppaaDoor
/- THE CELL 'sum', in the pinned program and in every row, IS THE sha256 OF THE DUMP (.gsa) THAT YtfagkmmenfeppaaDoorProg.lean LOADS. Nothing in Lean hashes anything: it is a label: what it is worth is what the hold of that sum in a sandbox is worth. -/
noncomputable def Tryd.pinned : Pinned := { name := "ytfagkmmenfeppaadoor", sum := "49b1edd11dc507964378f1f7cd0bc89bd411fc5f39cc0da1e159e22540117bb2", checked := Tryd.checked }
namespace Rows
def none {H : Type} : Left H := { results := [], args := [] }

/- WHAT THE LISTED PACKAGE-LEVEL VARIABLES READ AS WHEN THE CALL BEGINS. Each datum BY PROGRAM (the guide's laid-datum.mjs) off the statement by which the dump's own 'gosem.cut.vars' lays the variable. In a bare row this is a premise. The card (YtfagkmmenfeppaaDoorCards.lean) ties it to the program's text. -/
def laid_palanquin_vtwo_families {H : Type} : DataW H := .agg [.agg [.lit (.int .i64 0), .lit (.int .i64 0), .lit (.int .i64 0)], .agg [.lit (.int .i64 1), .lit (.int .i64 17), .lit (.int .i64 4)], .agg [.lit (.int .i64 3), .lit (.int .i64 18), .lit (.int .i64 4)], .agg [.lit (.int .i64 2), .lit (.int .i64 33), .lit (.int .i64 16)], .agg [.lit (.int .i64 4), .lit (.int .i64 34), .lit (.int .i64 16)]]

/-- 'palanquinlaw18.VtwoTells': WHATEVER THE INPUT: true; the input reads as it did. -/
def vtwoTellsSpec : ChangeSpec := { name := "vtwoTells", fn := fun _ => fun
  | [d1, d2, d3] => { results := [.lit (.bool true)], args := [d1, d2, d3] }
  | _ => none }
def vtwoTellsRow : OpenClaim := { program := "ytfagkmmenfeppaadoor", sum := "49b1edd11dc507964378f1f7cd0bc89bd411fc5f39cc0da1e159e22540117bb2", func := "palanquin/palanquinlaw18.VtwoTells", spec := "vtwoTells", inPlace := ["internal/abi.NoEscape", "internal/bytealg.MakeNoZero"], unfollowed := true, recurses := true, named := ["palanquin/vtwo.families"], apart := false, laid := [("palanquin/vtwo.families", laid_palanquin_vtwo_families)] }
def VtwoTellsSaid : Prop := vtwoTellsRow.holds Tryd.pinned (OpenSpec.ofChange vtwoTellsSpec)

/-- ITS FALSE NEIGHBOUR: 'it returns false'. Refute it at one input. -/
def vtwoTellsWrong : ChangeSpec := { name := "vtwoTells", fn := fun _ => fun
  | [d1, d2, d3] => { results := [.lit (.bool false)], args := [d1, d2, d3] }
  | _ => none }
def VtwoTellsWrongFalsely : Prop := vtwoTellsRow.holds Tryd.pinned (OpenSpec.ofChange vtwoTellsWrong)

/-- 'palanquinlaw18.VtwoBack': WHATEVER THE INPUT: true; the input reads as it did. -/
def vtwoBackSpec : ChangeSpec := { name := "vtwoBack", fn := fun _ => fun
  | [d1, d2, d3, d4] => { results := [.lit (.bool true)], args := [d1, d2, d3, d4] }
  | _ => none }
def vtwoBackRow : OpenClaim := { program := "ytfagkmmenfeppaadoor", sum := "49b1edd11dc507964378f1f7cd0bc89bd411fc5f39cc0da1e159e22540117bb2", func := "palanquin/palanquinlaw18.VtwoBack", spec := "vtwoBack", inPlace := ["internal/abi.NoEscape", "internal/bytealg.MakeNoZero"], unfollowed := true, recurses := true, named := ["palanquin/vtwo.families"], apart := false, laid := [("palanquin/vtwo.families", laid_palanquin_vtwo_families)] }
def VtwoBackSaid : Prop := vtwoBackRow.holds Tryd.pinned (OpenSpec.ofChange vtwoBackSpec)

/-- ITS FALSE NEIGHBOUR: 'it returns false'. Refute it at one input. -/
def vtwoBackWrong : ChangeSpec := { name := "vtwoBack", fn := fun _ => fun
  | [d1, d2, d3, d4] => { results := [.lit (.bool false)], args := [d1, d2, d3, d4] }
  | _ => none }
def VtwoBackWrongFalsely : Prop := vtwoBackRow.holds Tryd.pinned (OpenSpec.ofChange vtwoBackWrong)

/-- 'palanquinlaw18.VtwoSeals': WHATEVER THE INPUT: true; the input reads as it did. -/
def vtwoSealsSpec : ChangeSpec := { name := "vtwoSeals", fn := fun _ => fun
  | [d1, d2] => { results := [.lit (.bool true)], args := [d1, d2] }
  | _ => none }
def vtwoSealsRow : OpenClaim := { program := "ytfagkmmenfeppaadoor", sum := "49b1edd11dc507964378f1f7cd0bc89bd411fc5f39cc0da1e159e22540117bb2", func := "palanquin/palanquinlaw18.VtwoSeals", spec := "vtwoSeals", inPlace := ["internal/abi.NoEscape", "internal/bytealg.MakeNoZero"], unfollowed := true, recurses := true, named := ["palanquin/vtwo.families"], apart := false, laid := [("palanquin/vtwo.families", laid_palanquin_vtwo_families)] }
def VtwoSealsSaid : Prop := vtwoSealsRow.holds Tryd.pinned (OpenSpec.ofChange vtwoSealsSpec)

/-- ITS FALSE NEIGHBOUR: 'it returns false'. Refute it at one input. -/
def vtwoSealsWrong : ChangeSpec := { name := "vtwoSeals", fn := fun _ => fun
  | [d1, d2] => { results := [.lit (.bool false)], args := [d1, d2] }
  | _ => none }
def VtwoSealsWrongFalsely : Prop := vtwoSealsRow.holds Tryd.pinned (OpenSpec.ofChange vtwoSealsWrong)

/-- 'palanquinlaw18.VtwoStrict': WHATEVER THE INPUT: true; the input reads as it did. -/
def vtwoStrictSpec : ChangeSpec := { name := "vtwoStrict", fn := fun _ => fun
  | [d1, d2] => { results := [.lit (.bool true)], args := [d1, d2] }
  | _ => none }
def vtwoStrictRow : OpenClaim := { program := "ytfagkmmenfeppaadoor", sum := "49b1edd11dc507964378f1f7cd0bc89bd411fc5f39cc0da1e159e22540117bb2", func := "palanquin/palanquinlaw18.VtwoStrict", spec := "vtwoStrict", inPlace := ["internal/abi.NoEscape", "internal/bytealg.MakeNoZero"], unfollowed := true, recurses := true, named := ["palanquin/vtwo.families"], apart := false, laid := [("palanquin/vtwo.families", laid_palanquin_vtwo_families)] }
def VtwoStrictSaid : Prop := vtwoStrictRow.holds Tryd.pinned (OpenSpec.ofChange vtwoStrictSpec)

/-- ITS FALSE NEIGHBOUR: 'it returns false'. Refute it at one input. -/
def vtwoStrictWrong : ChangeSpec := { name := "vtwoStrict", fn := fun _ => fun
  | [d1, d2] => { results := [.lit (.bool false)], args := [d1, d2] }
  | _ => none }
def VtwoStrictWrongFalsely : Prop := vtwoStrictRow.holds Tryd.pinned (OpenSpec.ofChange vtwoStrictWrong)

/-- 'palanquinlaw18.VtwoLocal': WHATEVER THE INPUT: true; the input reads as it did. -/
def vtwoLocalSpec : ChangeSpec := { name := "vtwoLocal", fn := fun _ => fun
  | [d1, d2] => { results := [.lit (.bool true)], args := [d1, d2] }
  | _ => none }
def vtwoLocalRow : OpenClaim := { program := "ytfagkmmenfeppaadoor", sum := "49b1edd11dc507964378f1f7cd0bc89bd411fc5f39cc0da1e159e22540117bb2", func := "palanquin/palanquinlaw18.VtwoLocal", spec := "vtwoLocal", inPlace := ["internal/abi.NoEscape", "internal/bytealg.MakeNoZero"], unfollowed := true, recurses := true, named := ["palanquin/vtwo.families"], apart := false, laid := [("palanquin/vtwo.families", laid_palanquin_vtwo_families)] }
def VtwoLocalSaid : Prop := vtwoLocalRow.holds Tryd.pinned (OpenSpec.ofChange vtwoLocalSpec)

/-- ITS FALSE NEIGHBOUR: 'it returns false'. Refute it at one input. -/
def vtwoLocalWrong : ChangeSpec := { name := "vtwoLocal", fn := fun _ => fun
  | [d1, d2] => { results := [.lit (.bool false)], args := [d1, d2] }
  | _ => none }
def VtwoLocalWrongFalsely : Prop := vtwoLocalRow.holds Tryd.pinned (OpenSpec.ofChange vtwoLocalWrong)

/-- 'palanquinlaw18.VtwoFields': WHATEVER THE INPUT: true; the input reads as it did. -/
def vtwoFieldsSpec : ChangeSpec := { name := "vtwoFields", fn := fun _ => fun
  | [d1, d2, d3] => { results := [.lit (.bool true)], args := [d1, d2, d3] }
  | _ => none }
def vtwoFieldsRow : OpenClaim := { program := "ytfagkmmenfeppaadoor", sum := "49b1edd11dc507964378f1f7cd0bc89bd411fc5f39cc0da1e159e22540117bb2", func := "palanquin/palanquinlaw18.VtwoFields", spec := "vtwoFields", inPlace := ["internal/abi.NoEscape", "internal/bytealg.MakeNoZero"], unfollowed := true, recurses := true, named := ["palanquin/vtwo.families"], apart := false, laid := [("palanquin/vtwo.families", laid_palanquin_vtwo_families)] }
def VtwoFieldsSaid : Prop := vtwoFieldsRow.holds Tryd.pinned (OpenSpec.ofChange vtwoFieldsSpec)

/-- ITS FALSE NEIGHBOUR: 'it returns false'. Refute it at one input. -/
def vtwoFieldsWrong : ChangeSpec := { name := "vtwoFields", fn := fun _ => fun
  | [d1, d2, d3] => { results := [.lit (.bool false)], args := [d1, d2, d3] }
  | _ => none }
def VtwoFieldsWrongFalsely : Prop := vtwoFieldsRow.holds Tryd.pinned (OpenSpec.ofChange vtwoFieldsWrong)

/- THE SECOND FORM. 'bulk': how many values and letters a reading holds, each counted each time it is reached (what is shared counts as often as it is met; a slice's spare places count too). A statement '..UptoSaid' is the law's where the arguments, and the package variables that the reading takes, are together of bulk at most 1048576: NARROWER than '..Said'. Prove '..Said' where nothing that the law and all that it calls make is longer than what came in: it says more and counts as full. Else prove '..UptoSaid'. A law counts once. -/
mutual
def uptoBulk {H : Type} : DataW H → Nat
  | .lit (.string bytes) => bytes.length + 1
  | .lit _ => 1
  | .nil => 1
  | .ptr d => uptoBulk d + 1
  | .slice elems spare => uptoBulkAll elems + uptoBulkAll spare + 1
  | .agg parts => uptoBulkAll parts + 1
  | .iface _ d => uptoBulk d + 1
  | .map entries => uptoBulkEntries entries + 1
  | .held _ => 1
def uptoBulkAll {H : Type} : List (DataW H) → Nat
  | [] => 0
  | d :: r => uptoBulk d + uptoBulkAll r
def uptoBulkEntries {H : Type} : List (Lit × DataW H) → Nat
  | [] => 0
  | x :: r => uptoBulkEntry x + uptoBulkEntries r
def uptoBulkEntry {H : Type} : Lit × DataW H → Nat
  | (.string bytes, d) => bytes.length + uptoBulk d + 1
  | (_, d) => uptoBulk d + 1
 end
def uptoSmall : (H : Type) → List (DataW H) → Bool := fun _ ds => decide (uptoBulkAll ds ≤ 1048576)
def OpenSpec.upto (s : _root_.Go.ChangeSpec) : _root_.Go.OpenSpec := { _root_.Go.OpenSpec.ofChange s with cond := some uptoSmall }

/-- 'palanquinlaw18.VtwoTells', WHERE WHAT IT READS IS OF BULK AT MOST 1048576: true; the input reads as it did. -/
def vtwoTellsUptoRow : OpenClaim := { program := "ytfagkmmenfeppaadoor", sum := "49b1edd11dc507964378f1f7cd0bc89bd411fc5f39cc0da1e159e22540117bb2", func := "palanquin/palanquinlaw18.VtwoTells", spec := "vtwoTells", inPlace := ["internal/abi.NoEscape", "internal/bytealg.MakeNoZero"], unfollowed := true, recurses := true, named := ["palanquin/vtwo.families"], apart := false, laid := [("palanquin/vtwo.families", laid_palanquin_vtwo_families)], narrowed := true }
def VtwoTellsUptoSaid : Prop := vtwoTellsUptoRow.holds Tryd.pinned (OpenSpec.upto vtwoTellsSpec)

/-- 'palanquinlaw18.VtwoBack', WHERE WHAT IT READS IS OF BULK AT MOST 1048576: true; the input reads as it did. -/
def vtwoBackUptoRow : OpenClaim := { program := "ytfagkmmenfeppaadoor", sum := "49b1edd11dc507964378f1f7cd0bc89bd411fc5f39cc0da1e159e22540117bb2", func := "palanquin/palanquinlaw18.VtwoBack", spec := "vtwoBack", inPlace := ["internal/abi.NoEscape", "internal/bytealg.MakeNoZero"], unfollowed := true, recurses := true, named := ["palanquin/vtwo.families"], apart := false, laid := [("palanquin/vtwo.families", laid_palanquin_vtwo_families)], narrowed := true }
def VtwoBackUptoSaid : Prop := vtwoBackUptoRow.holds Tryd.pinned (OpenSpec.upto vtwoBackSpec)

/-- 'palanquinlaw18.VtwoSeals', WHERE WHAT IT READS IS OF BULK AT MOST 1048576: true; the input reads as it did. -/
def vtwoSealsUptoRow : OpenClaim := { program := "ytfagkmmenfeppaadoor", sum := "49b1edd11dc507964378f1f7cd0bc89bd411fc5f39cc0da1e159e22540117bb2", func := "palanquin/palanquinlaw18.VtwoSeals", spec := "vtwoSeals", inPlace := ["internal/abi.NoEscape", "internal/bytealg.MakeNoZero"], unfollowed := true, recurses := true, named := ["palanquin/vtwo.families"], apart := false, laid := [("palanquin/vtwo.families", laid_palanquin_vtwo_families)], narrowed := true }
def VtwoSealsUptoSaid : Prop := vtwoSealsUptoRow.holds Tryd.pinned (OpenSpec.upto vtwoSealsSpec)

/-- 'palanquinlaw18.VtwoStrict', WHERE WHAT IT READS IS OF BULK AT MOST 1048576: true; the input reads as it did. -/
def vtwoStrictUptoRow : OpenClaim := { program := "ytfagkmmenfeppaadoor", sum := "49b1edd11dc507964378f1f7cd0bc89bd411fc5f39cc0da1e159e22540117bb2", func := "palanquin/palanquinlaw18.VtwoStrict", spec := "vtwoStrict", inPlace := ["internal/abi.NoEscape", "internal/bytealg.MakeNoZero"], unfollowed := true, recurses := true, named := ["palanquin/vtwo.families"], apart := false, laid := [("palanquin/vtwo.families", laid_palanquin_vtwo_families)], narrowed := true }
def VtwoStrictUptoSaid : Prop := vtwoStrictUptoRow.holds Tryd.pinned (OpenSpec.upto vtwoStrictSpec)

/-- 'palanquinlaw18.VtwoLocal', WHERE WHAT IT READS IS OF BULK AT MOST 1048576: true; the input reads as it did. -/
def vtwoLocalUptoRow : OpenClaim := { program := "ytfagkmmenfeppaadoor", sum := "49b1edd11dc507964378f1f7cd0bc89bd411fc5f39cc0da1e159e22540117bb2", func := "palanquin/palanquinlaw18.VtwoLocal", spec := "vtwoLocal", inPlace := ["internal/abi.NoEscape", "internal/bytealg.MakeNoZero"], unfollowed := true, recurses := true, named := ["palanquin/vtwo.families"], apart := false, laid := [("palanquin/vtwo.families", laid_palanquin_vtwo_families)], narrowed := true }
def VtwoLocalUptoSaid : Prop := vtwoLocalUptoRow.holds Tryd.pinned (OpenSpec.upto vtwoLocalSpec)

/-- 'palanquinlaw18.VtwoFields', WHERE WHAT IT READS IS OF BULK AT MOST 1048576: true; the input reads as it did. -/
def vtwoFieldsUptoRow : OpenClaim := { program := "ytfagkmmenfeppaadoor", sum := "49b1edd11dc507964378f1f7cd0bc89bd411fc5f39cc0da1e159e22540117bb2", func := "palanquin/palanquinlaw18.VtwoFields", spec := "vtwoFields", inPlace := ["internal/abi.NoEscape", "internal/bytealg.MakeNoZero"], unfollowed := true, recurses := true, named := ["palanquin/vtwo.families"], apart := false, laid := [("palanquin/vtwo.families", laid_palanquin_vtwo_families)], narrowed := true }
def VtwoFieldsUptoSaid : Prop := vtwoFieldsUptoRow.holds Tryd.pinned (OpenSpec.upto vtwoFieldsSpec)

end Rows
end Go.Proofs.YtfagkmmenfeppaaDoor
