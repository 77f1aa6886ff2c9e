/-
  DERIVED. GIVEN WITH THE SEED: THE CARDS: each row of YtaehnephoppjmaaGreatDoorRows.lean that lists a variable, with what it lists TIED to the program's text (the seventh form; the later family's looks); each row that meets fmt, with fmt's text TOLD by the authors' own Lean function (tested against real Go, not proved from fmt's source: count such statements apart). THE CARD IS WHAT COUNTS. Prove the row's statement (the work); the ties are given (YtaehnephoppjmaaGreatDoorTie.lean); close each card by the builder's one call (the guide's Derived/Test/ToyasCard.lean, 'card_holds'). Laid BY PROGRAM, IN A SANDBOX (cutbox-door.mjs). By AI agents, Wed Nov 11 2026. No macro, syntax, notation, axiom, sorry.
-/
import Derived.Test.YtaehnephoppjmaaGreatDoorRows
import GoSem.ClaimSeven
namespace Go.Proofs.YtaehnephoppjmaaGreatDoor
namespace Rows

/-- THE TIED CARD OF 'qloomlaw.StateRuns'. -/
def stateRunsCard : Claim7 := { stood := { row := stateRunsRow, standIns := [], harness := (true, "2259175028b8e1dc6f40bd6597feb860c0e46fd8956af9a5c9d80126cd0a8a40"), looks := true }, kinds := [], alts := [], laidByText := true, laidKinds := [.data, .data, .data], laidTests := true, laidLooks := .later }
def StateRunsCardSaid : Prop := Claim7.holds Tryz.pinned (.plain (OpenSpec.ofChange stateRunsSpec)) stateRunsCard

/-- THE TIED CARD OF 'qloomlaw.StateChances'. -/
def stateChancesCard : Claim7 := { stood := { row := stateChancesRow, standIns := [], harness := (true, "2259175028b8e1dc6f40bd6597feb860c0e46fd8956af9a5c9d80126cd0a8a40"), looks := true }, kinds := [], alts := [], laidByText := true, laidKinds := [.data, .data, .data], laidTests := true, laidLooks := .later }
def StateChancesCardSaid : Prop := Claim7.holds Tryz.pinned (.plain (OpenSpec.ofChange stateChancesSpec)) stateChancesCard

/-- THE TIED CARD OF 'qloomlaw.StateReduced'. -/
def stateReducedCard : Claim7 := { stood := { row := stateReducedRow, standIns := [], harness := (true, "2259175028b8e1dc6f40bd6597feb860c0e46fd8956af9a5c9d80126cd0a8a40"), looks := true }, kinds := [], alts := [], laidByText := true, laidKinds := [.data, .data, .data], laidTests := true, laidLooks := .later }
def StateReducedCardSaid : Prop := Claim7.holds Tryz.pinned (.plain (OpenSpec.ofChange stateReducedSpec)) stateReducedCard

/-- THE TIED CARD OF 'qloomlaw.StateSums'. -/
def stateSumsCard : Claim7 := { stood := { row := stateSumsRow, standIns := [], harness := (true, "2259175028b8e1dc6f40bd6597feb860c0e46fd8956af9a5c9d80126cd0a8a40"), looks := true }, kinds := [], alts := [], laidByText := true, laidKinds := [.data, .data, .data, .sentinel, .sentinel], laidTests := true, laidLooks := .later }
def StateSumsCardSaid : Prop := Claim7.holds Tryz.pinned (.plain (OpenSpec.ofChange stateSumsSpec)) stateSumsCard

/-- THE SECOND FORM's CARD OF 'qloomlaw.StateRuns'. -/
def stateRunsUptoCard : Claim7 := { stood := { row := stateRunsUptoRow, standIns := [], harness := (true, "2259175028b8e1dc6f40bd6597feb860c0e46fd8956af9a5c9d80126cd0a8a40"), looks := true }, kinds := [], alts := [], laidByText := true, laidKinds := [.data, .data, .data], laidTests := true, laidLooks := .later }
def StateRunsUptoCardSaid : Prop := Claim7.holds Tryz.pinned (.plain (OpenSpec.upto stateRunsSpec)) stateRunsUptoCard

/-- THE SECOND FORM's CARD OF 'qloomlaw.StateChances'. -/
def stateChancesUptoCard : Claim7 := { stood := { row := stateChancesUptoRow, standIns := [], harness := (true, "2259175028b8e1dc6f40bd6597feb860c0e46fd8956af9a5c9d80126cd0a8a40"), looks := true }, kinds := [], alts := [], laidByText := true, laidKinds := [.data, .data, .data], laidTests := true, laidLooks := .later }
def StateChancesUptoCardSaid : Prop := Claim7.holds Tryz.pinned (.plain (OpenSpec.upto stateChancesSpec)) stateChancesUptoCard

/-- THE SECOND FORM's CARD OF 'qloomlaw.StateReduced'. -/
def stateReducedUptoCard : Claim7 := { stood := { row := stateReducedUptoRow, standIns := [], harness := (true, "2259175028b8e1dc6f40bd6597feb860c0e46fd8956af9a5c9d80126cd0a8a40"), looks := true }, kinds := [], alts := [], laidByText := true, laidKinds := [.data, .data, .data], laidTests := true, laidLooks := .later }
def StateReducedUptoCardSaid : Prop := Claim7.holds Tryz.pinned (.plain (OpenSpec.upto stateReducedSpec)) stateReducedUptoCard

/-- THE SECOND FORM's CARD OF 'qloomlaw.StateSums'. -/
def stateSumsUptoCard : Claim7 := { stood := { row := stateSumsUptoRow, standIns := [], harness := (true, "2259175028b8e1dc6f40bd6597feb860c0e46fd8956af9a5c9d80126cd0a8a40"), looks := true }, kinds := [], alts := [], laidByText := true, laidKinds := [.data, .data, .data, .sentinel, .sentinel], laidTests := true, laidLooks := .later }
def StateSumsUptoCardSaid : Prop := Claim7.holds Tryz.pinned (.plain (OpenSpec.upto stateSumsSpec)) stateSumsUptoCard
end Rows
end Go.Proofs.YtaehnephoppjmaaGreatDoor
