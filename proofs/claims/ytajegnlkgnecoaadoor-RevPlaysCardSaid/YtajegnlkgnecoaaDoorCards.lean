/-
  DERIVED. GIVEN WITH THE SEED: THE CARDS: each row of YtajegnlkgnecoaaDoorRows.lean that lists a variable, with what it lists TIED to the program's text (the seventh form; the later family's looks); each row that meets fmt, with fmt's text TOLD by the authors' own Lean function (tested against real Go, not proved from fmt's source: count such statements apart). THE CARD IS WHAT COUNTS. Prove the row's statement (the work); the ties are given (YtajegnlkgnecoaaDoorTie.lean); close each card by the builder's one call (the guide's Derived/Test/ToyasCard.lean, 'card_holds'). Laid BY PROGRAM, IN A SANDBOX (cutbox-door.mjs). By AI agents, Wed Nov 11 2026. No macro, syntax, notation, axiom, sorry.
-/
import Derived.Test.YtajegnlkgnecoaaDoorRows
import GoSem.ClaimSeven
namespace Go.Proofs.YtajegnlkgnecoaaDoor
namespace Rows

/-- THE TIED CARD OF 'qloomlaw.RevCleans'. -/
def revCleansCard : Claim7 := { stood := { row := revCleansRow, standIns := [], harness := (true, "d722818060643aa2be2f6c98335f0a2c6eb405a6a7899d384098ec6d31ae0c6a"), looks := false }, kinds := [], alts := [], laidByText := true, laidKinds := [.data, .data], laidTests := true, laidLooks := .later }
def RevCleansCardSaid : Prop := Claim7.holds Tryd.pinned (.plain (OpenSpec.ofChange revCleansSpec)) revCleansCard

/-- THE TIED CARD OF 'qloomlaw.RevTables'. -/
def revTablesCard : Claim7 := { stood := { row := revTablesRow, standIns := [], harness := (true, "d722818060643aa2be2f6c98335f0a2c6eb405a6a7899d384098ec6d31ae0c6a"), looks := false }, kinds := [], alts := [], laidByText := true, laidKinds := [.data, .data], laidTests := true, laidLooks := .later }
def RevTablesCardSaid : Prop := Claim7.holds Tryd.pinned (.plain (OpenSpec.ofChange revTablesSpec)) revTablesCard

/-- THE TIED CARD OF 'qloomlaw.RevNormals'. -/
def revNormalsCard : Claim7 := { stood := { row := revNormalsRow, standIns := [], harness := (true, "d722818060643aa2be2f6c98335f0a2c6eb405a6a7899d384098ec6d31ae0c6a"), looks := false }, kinds := [], alts := [], laidByText := true, laidKinds := [.data, .data], laidTests := true, laidLooks := .later }
def RevNormalsCardSaid : Prop := Claim7.holds Tryd.pinned (.plain (OpenSpec.ofChange revNormalsSpec)) revNormalsCard

/-- THE TIED CARD OF 'qloomlaw.RevPlays'. -/
def revPlaysCard : Claim7 := { stood := { row := revPlaysRow, standIns := [], harness := (true, "d722818060643aa2be2f6c98335f0a2c6eb405a6a7899d384098ec6d31ae0c6a"), looks := false }, kinds := [], alts := [], laidByText := true, laidKinds := [.data, .data], laidTests := true, laidLooks := .later }
def RevPlaysCardSaid : Prop := Claim7.holds Tryd.pinned (.plain (OpenSpec.ofChange revPlaysSpec)) revPlaysCard

/-- THE TIED CARD OF 'qloomlaw.RevFlats'. -/
def revFlatsCard : Claim7 := { stood := { row := revFlatsRow, standIns := [], harness := (true, "d722818060643aa2be2f6c98335f0a2c6eb405a6a7899d384098ec6d31ae0c6a"), looks := false }, kinds := [], alts := [], laidByText := true, laidKinds := [.data, .data], laidTests := true, laidLooks := .later }
def RevFlatsCardSaid : Prop := Claim7.holds Tryd.pinned (.plain (OpenSpec.ofChange revFlatsSpec)) revFlatsCard

/-- THE TIED CARD OF 'qloomlaw.RevAgrees'. -/
def revAgreesCard : Claim7 := { stood := { row := revAgreesRow, standIns := [], harness := (true, "d722818060643aa2be2f6c98335f0a2c6eb405a6a7899d384098ec6d31ae0c6a"), looks := false }, kinds := [], alts := [], laidByText := true, laidKinds := [.data, .data], laidTests := true, laidLooks := .later }
def RevAgreesCardSaid : Prop := Claim7.holds Tryd.pinned (.plain (OpenSpec.ofChange revAgreesSpec)) revAgreesCard

/-- THE SECOND FORM's CARD OF 'qloomlaw.RevCleans'. -/
def revCleansUptoCard : Claim7 := { stood := { row := revCleansUptoRow, standIns := [], harness := (true, "d722818060643aa2be2f6c98335f0a2c6eb405a6a7899d384098ec6d31ae0c6a"), looks := false }, kinds := [], alts := [], laidByText := true, laidKinds := [.data, .data], laidTests := true, laidLooks := .later }
def RevCleansUptoCardSaid : Prop := Claim7.holds Tryd.pinned (.plain (OpenSpec.upto revCleansSpec)) revCleansUptoCard

/-- THE SECOND FORM's CARD OF 'qloomlaw.RevTables'. -/
def revTablesUptoCard : Claim7 := { stood := { row := revTablesUptoRow, standIns := [], harness := (true, "d722818060643aa2be2f6c98335f0a2c6eb405a6a7899d384098ec6d31ae0c6a"), looks := false }, kinds := [], alts := [], laidByText := true, laidKinds := [.data, .data], laidTests := true, laidLooks := .later }
def RevTablesUptoCardSaid : Prop := Claim7.holds Tryd.pinned (.plain (OpenSpec.upto revTablesSpec)) revTablesUptoCard

/-- THE SECOND FORM's CARD OF 'qloomlaw.RevNormals'. -/
def revNormalsUptoCard : Claim7 := { stood := { row := revNormalsUptoRow, standIns := [], harness := (true, "d722818060643aa2be2f6c98335f0a2c6eb405a6a7899d384098ec6d31ae0c6a"), looks := false }, kinds := [], alts := [], laidByText := true, laidKinds := [.data, .data], laidTests := true, laidLooks := .later }
def RevNormalsUptoCardSaid : Prop := Claim7.holds Tryd.pinned (.plain (OpenSpec.upto revNormalsSpec)) revNormalsUptoCard

/-- THE SECOND FORM's CARD OF 'qloomlaw.RevPlays'. -/
def revPlaysUptoCard : Claim7 := { stood := { row := revPlaysUptoRow, standIns := [], harness := (true, "d722818060643aa2be2f6c98335f0a2c6eb405a6a7899d384098ec6d31ae0c6a"), looks := false }, kinds := [], alts := [], laidByText := true, laidKinds := [.data, .data], laidTests := true, laidLooks := .later }
def RevPlaysUptoCardSaid : Prop := Claim7.holds Tryd.pinned (.plain (OpenSpec.upto revPlaysSpec)) revPlaysUptoCard

/-- THE SECOND FORM's CARD OF 'qloomlaw.RevFlats'. -/
def revFlatsUptoCard : Claim7 := { stood := { row := revFlatsUptoRow, standIns := [], harness := (true, "d722818060643aa2be2f6c98335f0a2c6eb405a6a7899d384098ec6d31ae0c6a"), looks := false }, kinds := [], alts := [], laidByText := true, laidKinds := [.data, .data], laidTests := true, laidLooks := .later }
def RevFlatsUptoCardSaid : Prop := Claim7.holds Tryd.pinned (.plain (OpenSpec.upto revFlatsSpec)) revFlatsUptoCard

/-- THE SECOND FORM's CARD OF 'qloomlaw.RevAgrees'. -/
def revAgreesUptoCard : Claim7 := { stood := { row := revAgreesUptoRow, standIns := [], harness := (true, "d722818060643aa2be2f6c98335f0a2c6eb405a6a7899d384098ec6d31ae0c6a"), looks := false }, kinds := [], alts := [], laidByText := true, laidKinds := [.data, .data], laidTests := true, laidLooks := .later }
def RevAgreesUptoCardSaid : Prop := Claim7.holds Tryd.pinned (.plain (OpenSpec.upto revAgreesSpec)) revAgreesUptoCard
end Rows
end Go.Proofs.YtajegnlkgnecoaaDoor
