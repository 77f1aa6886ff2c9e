/-
  DERIVED. GIVEN WITH THE SEED: THE CARDS: each row of YtdocfkidnnalnaaGreatDoorRows.lean that lists a variable, with what it lists TIED to the program's text (the seventh form; the later family's looks); each row that meets fmt, with fmt's text TOLD by the authors' own Lean function (tested against real Go, not proved from fmt's source: count such statements apart). THE CARD IS WHAT COUNTS. Prove the row's statement (the work); the ties are given (YtdocfkidnnalnaaGreatDoorTie.lean); close each card by the builder's one call (the guide's Derived/Test/ToyasCard.lean, 'card_holds'). Laid BY PROGRAM, IN A SANDBOX (cutbox-door.mjs). By AI agents, Wed Nov 11 2026. No macro, syntax, notation, axiom, sorry.
-/
import Derived.Test.YtdocfkidnnalnaaGreatDoorRows
import GoSem.ClaimSeven
namespace Go.Proofs.YtdocfkidnnalnaaGreatDoor
namespace Rows

/-- THE TIED CARD OF 'qloomlaw.TongueReads'. -/
def tongueReadsCard : Claim7 := { stood := { row := tongueReadsRow, standIns := [], harness := (true, "353fc4e4d382ec1c126cca74f5fc01137dcc707e8fea69162b4cee7fe8d78810"), looks := true }, kinds := [], alts := [], laidByText := true, laidKinds := [.data, .data, .data, .sentinel, .sentinel], laidTests := true, laidLooks := .later }
def TongueReadsCardSaid : Prop := Claim7.holds Tryz.pinned (.plain (OpenSpec.ofChange tongueReadsSpec)) tongueReadsCard

/-- THE TIED CARD OF 'qloomlaw.TonguePrints'. -/
def tonguePrintsCard : Claim7 := { stood := { row := tonguePrintsRow, standIns := [], harness := (true, "353fc4e4d382ec1c126cca74f5fc01137dcc707e8fea69162b4cee7fe8d78810"), looks := true }, kinds := [], alts := [], laidByText := true, laidKinds := [.data, .data, .data, .sentinel, .sentinel], laidTests := true, laidLooks := .later }
def TonguePrintsCardSaid : Prop := Claim7.holds Tryz.pinned (.plain (OpenSpec.ofChange tonguePrintsSpec)) tonguePrintsCard

/-- THE TIED CARD OF 'qloomlaw.TongueBack'. -/
def tongueBackCard : Claim7 := { stood := { row := tongueBackRow, standIns := [], harness := (true, "353fc4e4d382ec1c126cca74f5fc01137dcc707e8fea69162b4cee7fe8d78810"), looks := true }, kinds := [], alts := [], laidByText := true, laidKinds := [.data, .data, .data, .sentinel, .sentinel], laidTests := true, laidLooks := .later }
def TongueBackCardSaid : Prop := Claim7.holds Tryz.pinned (.plain (OpenSpec.ofChange tongueBackSpec)) tongueBackCard

/-- THE SECOND FORM's CARD OF 'qloomlaw.TongueReads'. -/
def tongueReadsUptoCard : Claim7 := { stood := { row := tongueReadsUptoRow, standIns := [], harness := (true, "353fc4e4d382ec1c126cca74f5fc01137dcc707e8fea69162b4cee7fe8d78810"), looks := true }, kinds := [], alts := [], laidByText := true, laidKinds := [.data, .data, .data, .sentinel, .sentinel], laidTests := true, laidLooks := .later }
def TongueReadsUptoCardSaid : Prop := Claim7.holds Tryz.pinned (.plain (OpenSpec.upto tongueReadsSpec)) tongueReadsUptoCard

/-- THE SECOND FORM's CARD OF 'qloomlaw.TonguePrints'. -/
def tonguePrintsUptoCard : Claim7 := { stood := { row := tonguePrintsUptoRow, standIns := [], harness := (true, "353fc4e4d382ec1c126cca74f5fc01137dcc707e8fea69162b4cee7fe8d78810"), looks := true }, kinds := [], alts := [], laidByText := true, laidKinds := [.data, .data, .data, .sentinel, .sentinel], laidTests := true, laidLooks := .later }
def TonguePrintsUptoCardSaid : Prop := Claim7.holds Tryz.pinned (.plain (OpenSpec.upto tonguePrintsSpec)) tonguePrintsUptoCard

/-- THE SECOND FORM's CARD OF 'qloomlaw.TongueBack'. -/
def tongueBackUptoCard : Claim7 := { stood := { row := tongueBackUptoRow, standIns := [], harness := (true, "353fc4e4d382ec1c126cca74f5fc01137dcc707e8fea69162b4cee7fe8d78810"), looks := true }, kinds := [], alts := [], laidByText := true, laidKinds := [.data, .data, .data, .sentinel, .sentinel], laidTests := true, laidLooks := .later }
def TongueBackUptoCardSaid : Prop := Claim7.holds Tryz.pinned (.plain (OpenSpec.upto tongueBackSpec)) tongueBackUptoCard
end Rows
end Go.Proofs.YtdocfkidnnalnaaGreatDoor
