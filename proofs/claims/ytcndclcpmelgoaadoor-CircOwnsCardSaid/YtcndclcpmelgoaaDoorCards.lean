/-
  DERIVED. GIVEN WITH THE SEED: THE CARDS: each row of YtcndclcpmelgoaaDoorRows.lean that lists a variable, with what it lists TIED to the program's text (the seventh form; the later family's looks); each row that meets fmt, with fmt's text TOLD by the authors' own Lean function (tested against real Go, not proved from fmt's source: count such statements apart). THE CARD IS WHAT COUNTS. Prove the row's statement (the work); the ties are given (YtcndclcpmelgoaaDoorTie.lean); close each card by the builder's one call (the guide's Derived/Test/ToyasCard.lean, 'card_holds'). Laid BY PROGRAM, IN A SANDBOX (cutbox-door.mjs). By AI agents, Wed Nov 11 2026. No macro, syntax, notation, axiom, sorry.
-/
import Derived.Test.YtcndclcpmelgoaaDoorRows
import GoSem.ClaimSeven
namespace Go.Proofs.YtcndclcpmelgoaaDoor
namespace Rows

/-- THE TIED CARD OF 'qloomlaw.CircChecks'. -/
def circChecksCard : Claim7 := { stood := { row := circChecksRow, standIns := [], harness := (true, "38d63e3d3acf8fde3fa62c8bbd423b3e51399817410da1e3f505cc104572368a"), looks := false }, kinds := [], alts := [], laidByText := true, laidKinds := [.data, .data, .data], laidTests := true, laidLooks := .later }
def CircChecksCardSaid : Prop := Claim7.holds Tryd.pinned (.plain (OpenSpec.ofChange circChecksSpec)) circChecksCard

/-- THE TIED CARD OF 'qloomlaw.CircJoins'. -/
def circJoinsCard : Claim7 := { stood := { row := circJoinsRow, standIns := [], harness := (true, "38d63e3d3acf8fde3fa62c8bbd423b3e51399817410da1e3f505cc104572368a"), looks := false }, kinds := [], alts := [], laidByText := true, laidKinds := [.data, .data, .data], laidTests := true, laidLooks := .later }
def CircJoinsCardSaid : Prop := Claim7.holds Tryd.pinned (.plain (OpenSpec.ofChange circJoinsSpec)) circJoinsCard

/-- THE TIED CARD OF 'qloomlaw.CircTurns'. -/
def circTurnsCard : Claim7 := { stood := { row := circTurnsRow, standIns := [], harness := (true, "38d63e3d3acf8fde3fa62c8bbd423b3e51399817410da1e3f505cc104572368a"), looks := false }, kinds := [], alts := [], laidByText := true, laidKinds := [.data, .data, .data], laidTests := true, laidLooks := .later }
def CircTurnsCardSaid : Prop := Claim7.holds Tryd.pinned (.plain (OpenSpec.ofChange circTurnsSpec)) circTurnsCard

/-- THE TIED CARD OF 'qloomlaw.CircOwns'. -/
def circOwnsCard : Claim7 := { stood := { row := circOwnsRow, standIns := [], harness := (true, "38d63e3d3acf8fde3fa62c8bbd423b3e51399817410da1e3f505cc104572368a"), looks := false }, kinds := [], alts := [], laidByText := true, laidKinds := [.data, .data, .data], laidTests := true, laidLooks := .later }
def CircOwnsCardSaid : Prop := Claim7.holds Tryd.pinned (.plain (OpenSpec.ofChange circOwnsSpec)) circOwnsCard

/-- THE TIED CARD OF 'qloomlaw.CircPrints'. -/
def circPrintsCard : Claim7 := { stood := { row := circPrintsRow, standIns := [], harness := (true, "38d63e3d3acf8fde3fa62c8bbd423b3e51399817410da1e3f505cc104572368a"), looks := false }, kinds := [], alts := [], laidByText := true, laidKinds := [.data, .data, .data, .data, .pinned], laidTests := true, laidLooks := .later }
def CircPrintsCardSaid : Prop := Claim7.holds Tryd.pinned (.plain (OpenSpec.ofChange circPrintsSpec)) circPrintsCard

/-- THE TIED CARD OF 'qloomlaw.CircParses'. -/
def circParsesCard : Claim7 := { stood := { row := circParsesRow, standIns := [], harness := (true, "38d63e3d3acf8fde3fa62c8bbd423b3e51399817410da1e3f505cc104572368a"), looks := false }, kinds := [], alts := [], laidByText := true, laidKinds := [.data, .data, .data, .data, .pinned], laidTests := true, laidLooks := .later }
def CircParsesCardSaid : Prop := Claim7.holds Tryd.pinned (.plain (OpenSpec.ofChange circParsesSpec)) circParsesCard

/-- THE TIED CARD OF 'qloomlaw.CircBack'. -/
def circBackCard : Claim7 := { stood := { row := circBackRow, standIns := [], harness := (true, "38d63e3d3acf8fde3fa62c8bbd423b3e51399817410da1e3f505cc104572368a"), looks := false }, kinds := [], alts := [], laidByText := true, laidKinds := [.data, .data, .data, .data, .pinned], laidTests := true, laidLooks := .later }
def CircBackCardSaid : Prop := Claim7.holds Tryd.pinned (.plain (OpenSpec.ofChange circBackSpec)) circBackCard

/-- THE SECOND FORM's CARD OF 'qloomlaw.CircChecks'. -/
def circChecksUptoCard : Claim7 := { stood := { row := circChecksUptoRow, standIns := [], harness := (true, "38d63e3d3acf8fde3fa62c8bbd423b3e51399817410da1e3f505cc104572368a"), looks := false }, kinds := [], alts := [], laidByText := true, laidKinds := [.data, .data, .data], laidTests := true, laidLooks := .later }
def CircChecksUptoCardSaid : Prop := Claim7.holds Tryd.pinned (.plain (OpenSpec.upto circChecksSpec)) circChecksUptoCard

/-- THE SECOND FORM's CARD OF 'qloomlaw.CircJoins'. -/
def circJoinsUptoCard : Claim7 := { stood := { row := circJoinsUptoRow, standIns := [], harness := (true, "38d63e3d3acf8fde3fa62c8bbd423b3e51399817410da1e3f505cc104572368a"), looks := false }, kinds := [], alts := [], laidByText := true, laidKinds := [.data, .data, .data], laidTests := true, laidLooks := .later }
def CircJoinsUptoCardSaid : Prop := Claim7.holds Tryd.pinned (.plain (OpenSpec.upto circJoinsSpec)) circJoinsUptoCard

/-- THE SECOND FORM's CARD OF 'qloomlaw.CircTurns'. -/
def circTurnsUptoCard : Claim7 := { stood := { row := circTurnsUptoRow, standIns := [], harness := (true, "38d63e3d3acf8fde3fa62c8bbd423b3e51399817410da1e3f505cc104572368a"), looks := false }, kinds := [], alts := [], laidByText := true, laidKinds := [.data, .data, .data], laidTests := true, laidLooks := .later }
def CircTurnsUptoCardSaid : Prop := Claim7.holds Tryd.pinned (.plain (OpenSpec.upto circTurnsSpec)) circTurnsUptoCard

/-- THE SECOND FORM's CARD OF 'qloomlaw.CircOwns'. -/
def circOwnsUptoCard : Claim7 := { stood := { row := circOwnsUptoRow, standIns := [], harness := (true, "38d63e3d3acf8fde3fa62c8bbd423b3e51399817410da1e3f505cc104572368a"), looks := false }, kinds := [], alts := [], laidByText := true, laidKinds := [.data, .data, .data], laidTests := true, laidLooks := .later }
def CircOwnsUptoCardSaid : Prop := Claim7.holds Tryd.pinned (.plain (OpenSpec.upto circOwnsSpec)) circOwnsUptoCard

/-- THE SECOND FORM's CARD OF 'qloomlaw.CircPrints'. -/
def circPrintsUptoCard : Claim7 := { stood := { row := circPrintsUptoRow, standIns := [], harness := (true, "38d63e3d3acf8fde3fa62c8bbd423b3e51399817410da1e3f505cc104572368a"), looks := false }, kinds := [], alts := [], laidByText := true, laidKinds := [.data, .data, .data, .data, .pinned], laidTests := true, laidLooks := .later }
def CircPrintsUptoCardSaid : Prop := Claim7.holds Tryd.pinned (.plain (OpenSpec.upto circPrintsSpec)) circPrintsUptoCard

/-- THE SECOND FORM's CARD OF 'qloomlaw.CircParses'. -/
def circParsesUptoCard : Claim7 := { stood := { row := circParsesUptoRow, standIns := [], harness := (true, "38d63e3d3acf8fde3fa62c8bbd423b3e51399817410da1e3f505cc104572368a"), looks := false }, kinds := [], alts := [], laidByText := true, laidKinds := [.data, .data, .data, .data, .pinned], laidTests := true, laidLooks := .later }
def CircParsesUptoCardSaid : Prop := Claim7.holds Tryd.pinned (.plain (OpenSpec.upto circParsesSpec)) circParsesUptoCard

/-- THE SECOND FORM's CARD OF 'qloomlaw.CircBack'. -/
def circBackUptoCard : Claim7 := { stood := { row := circBackUptoRow, standIns := [], harness := (true, "38d63e3d3acf8fde3fa62c8bbd423b3e51399817410da1e3f505cc104572368a"), looks := false }, kinds := [], alts := [], laidByText := true, laidKinds := [.data, .data, .data, .data, .pinned], laidTests := true, laidLooks := .later }
def CircBackUptoCardSaid : Prop := Claim7.holds Tryd.pinned (.plain (OpenSpec.upto circBackSpec)) circBackUptoCard
end Rows
end Go.Proofs.YtcndclcpmelgoaaDoor
