/-
  DERIVED. GIVEN WITH THE SEED: THE CARDS: each row of YtfagkmmenfeppaaDoorRows.lean that lists a variable, with what it lists TIED to the program's text (the seventh form; the later family's looks); each row that meets fmt, with fmt's text TOLD by the authors' own Lean function (tested against real Go, not proved from fmt's source: count such statements apart). THE CARD IS WHAT COUNTS. Prove the row's statement (the work); the ties are given (YtfagkmmenfeppaaDoorTie.lean); close each card by the builder's one call (the guide's Derived/Test/ToyasCard.lean, 'card_holds'). Laid BY PROGRAM, IN A SANDBOX (cutbox-door.mjs). By AI agents, Wed Nov 11 2026. No macro, syntax, notation, axiom, sorry.
-/
import Derived.Test.YtfagkmmenfeppaaDoorRows
import GoSem.ClaimSeven
namespace Go.Proofs.YtfagkmmenfeppaaDoor
namespace Rows

/-- THE TIED CARD OF 'palanquinlaw18.VtwoTells'. -/
def vtwoTellsCard : Claim7 := { stood := { row := vtwoTellsRow, standIns := [], harness := (true, "5ebe2b69ad4174c624483ee011b3ed4659beb32bac7eeaabae38113a5b7a3957"), looks := true }, kinds := [], alts := [], laidByText := true, laidKinds := [.data], laidTests := true, laidLooks := .later }
def VtwoTellsCardSaid : Prop := Claim7.holds Tryd.pinned (.plain (OpenSpec.ofChange vtwoTellsSpec)) vtwoTellsCard

/-- THE TIED CARD OF 'palanquinlaw18.VtwoBack'. -/
def vtwoBackCard : Claim7 := { stood := { row := vtwoBackRow, standIns := [], harness := (true, "5ebe2b69ad4174c624483ee011b3ed4659beb32bac7eeaabae38113a5b7a3957"), looks := true }, kinds := [], alts := [], laidByText := true, laidKinds := [.data], laidTests := true, laidLooks := .later }
def VtwoBackCardSaid : Prop := Claim7.holds Tryd.pinned (.plain (OpenSpec.ofChange vtwoBackSpec)) vtwoBackCard

/-- THE TIED CARD OF 'palanquinlaw18.VtwoSeals'. -/
def vtwoSealsCard : Claim7 := { stood := { row := vtwoSealsRow, standIns := [], harness := (true, "5ebe2b69ad4174c624483ee011b3ed4659beb32bac7eeaabae38113a5b7a3957"), looks := true }, kinds := [], alts := [], laidByText := true, laidKinds := [.data], laidTests := true, laidLooks := .later }
def VtwoSealsCardSaid : Prop := Claim7.holds Tryd.pinned (.plain (OpenSpec.ofChange vtwoSealsSpec)) vtwoSealsCard

/-- THE TIED CARD OF 'palanquinlaw18.VtwoStrict'. -/
def vtwoStrictCard : Claim7 := { stood := { row := vtwoStrictRow, standIns := [], harness := (true, "5ebe2b69ad4174c624483ee011b3ed4659beb32bac7eeaabae38113a5b7a3957"), looks := true }, kinds := [], alts := [], laidByText := true, laidKinds := [.data], laidTests := true, laidLooks := .later }
def VtwoStrictCardSaid : Prop := Claim7.holds Tryd.pinned (.plain (OpenSpec.ofChange vtwoStrictSpec)) vtwoStrictCard

/-- THE TIED CARD OF 'palanquinlaw18.VtwoLocal'. -/
def vtwoLocalCard : Claim7 := { stood := { row := vtwoLocalRow, standIns := [], harness := (true, "5ebe2b69ad4174c624483ee011b3ed4659beb32bac7eeaabae38113a5b7a3957"), looks := true }, kinds := [], alts := [], laidByText := true, laidKinds := [.data], laidTests := true, laidLooks := .later }
def VtwoLocalCardSaid : Prop := Claim7.holds Tryd.pinned (.plain (OpenSpec.ofChange vtwoLocalSpec)) vtwoLocalCard

/-- THE TIED CARD OF 'palanquinlaw18.VtwoFields'. -/
def vtwoFieldsCard : Claim7 := { stood := { row := vtwoFieldsRow, standIns := [], harness := (true, "5ebe2b69ad4174c624483ee011b3ed4659beb32bac7eeaabae38113a5b7a3957"), looks := true }, kinds := [], alts := [], laidByText := true, laidKinds := [.data], laidTests := true, laidLooks := .later }
def VtwoFieldsCardSaid : Prop := Claim7.holds Tryd.pinned (.plain (OpenSpec.ofChange vtwoFieldsSpec)) vtwoFieldsCard

/-- THE SECOND FORM's CARD OF 'palanquinlaw18.VtwoTells'. -/
def vtwoTellsUptoCard : Claim7 := { stood := { row := vtwoTellsUptoRow, standIns := [], harness := (true, "5ebe2b69ad4174c624483ee011b3ed4659beb32bac7eeaabae38113a5b7a3957"), looks := true }, kinds := [], alts := [], laidByText := true, laidKinds := [.data], laidTests := true, laidLooks := .later }
def VtwoTellsUptoCardSaid : Prop := Claim7.holds Tryd.pinned (.plain (OpenSpec.upto vtwoTellsSpec)) vtwoTellsUptoCard

/-- THE SECOND FORM's CARD OF 'palanquinlaw18.VtwoBack'. -/
def vtwoBackUptoCard : Claim7 := { stood := { row := vtwoBackUptoRow, standIns := [], harness := (true, "5ebe2b69ad4174c624483ee011b3ed4659beb32bac7eeaabae38113a5b7a3957"), looks := true }, kinds := [], alts := [], laidByText := true, laidKinds := [.data], laidTests := true, laidLooks := .later }
def VtwoBackUptoCardSaid : Prop := Claim7.holds Tryd.pinned (.plain (OpenSpec.upto vtwoBackSpec)) vtwoBackUptoCard

/-- THE SECOND FORM's CARD OF 'palanquinlaw18.VtwoSeals'. -/
def vtwoSealsUptoCard : Claim7 := { stood := { row := vtwoSealsUptoRow, standIns := [], harness := (true, "5ebe2b69ad4174c624483ee011b3ed4659beb32bac7eeaabae38113a5b7a3957"), looks := true }, kinds := [], alts := [], laidByText := true, laidKinds := [.data], laidTests := true, laidLooks := .later }
def VtwoSealsUptoCardSaid : Prop := Claim7.holds Tryd.pinned (.plain (OpenSpec.upto vtwoSealsSpec)) vtwoSealsUptoCard

/-- THE SECOND FORM's CARD OF 'palanquinlaw18.VtwoStrict'. -/
def vtwoStrictUptoCard : Claim7 := { stood := { row := vtwoStrictUptoRow, standIns := [], harness := (true, "5ebe2b69ad4174c624483ee011b3ed4659beb32bac7eeaabae38113a5b7a3957"), looks := true }, kinds := [], alts := [], laidByText := true, laidKinds := [.data], laidTests := true, laidLooks := .later }
def VtwoStrictUptoCardSaid : Prop := Claim7.holds Tryd.pinned (.plain (OpenSpec.upto vtwoStrictSpec)) vtwoStrictUptoCard

/-- THE SECOND FORM's CARD OF 'palanquinlaw18.VtwoLocal'. -/
def vtwoLocalUptoCard : Claim7 := { stood := { row := vtwoLocalUptoRow, standIns := [], harness := (true, "5ebe2b69ad4174c624483ee011b3ed4659beb32bac7eeaabae38113a5b7a3957"), looks := true }, kinds := [], alts := [], laidByText := true, laidKinds := [.data], laidTests := true, laidLooks := .later }
def VtwoLocalUptoCardSaid : Prop := Claim7.holds Tryd.pinned (.plain (OpenSpec.upto vtwoLocalSpec)) vtwoLocalUptoCard

/-- THE SECOND FORM's CARD OF 'palanquinlaw18.VtwoFields'. -/
def vtwoFieldsUptoCard : Claim7 := { stood := { row := vtwoFieldsUptoRow, standIns := [], harness := (true, "5ebe2b69ad4174c624483ee011b3ed4659beb32bac7eeaabae38113a5b7a3957"), looks := true }, kinds := [], alts := [], laidByText := true, laidKinds := [.data], laidTests := true, laidLooks := .later }
def VtwoFieldsUptoCardSaid : Prop := Claim7.holds Tryd.pinned (.plain (OpenSpec.upto vtwoFieldsSpec)) vtwoFieldsUptoCard
end Rows
end Go.Proofs.YtfagkmmenfeppaaDoor
