/-
  DERIVED. GIVEN WITH THE SEED: THE CARDS: each row of YtaehnephoppjmaaDoorRows.lean that lists a variable, with what it lists TIED to the program's text (the seventh form; the later family's looks); each row that meets fmt, with fmt's text TOLD by the authors' own Lean function (tested against real Go, not proved from fmt's source: count such statements apart). THE CARD IS WHAT COUNTS. Prove the row's statement (the work); the ties are given (YtaehnephoppjmaaDoorTie.lean); close each card by the builder's one call (the guide's Derived/Test/ToyasCard.lean, 'card_holds'). Laid BY PROGRAM, IN A SANDBOX (cutbox-door.mjs). By AI agents, Wed Nov 11 2026. No macro, syntax, notation, axiom, sorry.
-/
import Derived.Test.YtaehnephoppjmaaDoorRows
import GoSem.ClaimSeven
namespace Go.Proofs.YtaehnephoppjmaaDoor
namespace Rows

/-- THE TIED CARD OF 'qloomlaw.StateUndoes'. -/
def stateUndoesCard : Claim7 := { stood := { row := stateUndoesRow, standIns := [], harness := (true, "cd13673165df5dd4574d4cb9bb53e39b0fbe3cae5bda0be53eff5ab2f3caa8a2"), looks := false }, kinds := [], alts := [], laidByText := true, laidKinds := [.data, .data, .data], laidTests := true, laidLooks := .later }
def StateUndoesCardSaid : Prop := Claim7.holds Tryd.pinned (.plain (OpenSpec.ofChange stateUndoesSpec)) stateUndoesCard

/-- THE TIED CARD OF 'qloomlaw.StateNoSignal'. -/
def stateNoSignalCard : Claim7 := { stood := { row := stateNoSignalRow, standIns := [], harness := (true, "cd13673165df5dd4574d4cb9bb53e39b0fbe3cae5bda0be53eff5ab2f3caa8a2"), looks := false }, kinds := [], alts := [], laidByText := true, laidKinds := [.data, .data, .data], laidTests := true, laidLooks := .later }
def StateNoSignalCardSaid : Prop := Claim7.holds Tryd.pinned (.plain (OpenSpec.ofChange stateNoSignalSpec)) stateNoSignalCard

/-- THE SECOND FORM's CARD OF 'qloomlaw.StateUndoes'. -/
def stateUndoesUptoCard : Claim7 := { stood := { row := stateUndoesUptoRow, standIns := [], harness := (true, "cd13673165df5dd4574d4cb9bb53e39b0fbe3cae5bda0be53eff5ab2f3caa8a2"), looks := false }, kinds := [], alts := [], laidByText := true, laidKinds := [.data, .data, .data], laidTests := true, laidLooks := .later }
def StateUndoesUptoCardSaid : Prop := Claim7.holds Tryd.pinned (.plain (OpenSpec.upto stateUndoesSpec)) stateUndoesUptoCard

/-- THE SECOND FORM's CARD OF 'qloomlaw.StateNoSignal'. -/
def stateNoSignalUptoCard : Claim7 := { stood := { row := stateNoSignalUptoRow, standIns := [], harness := (true, "cd13673165df5dd4574d4cb9bb53e39b0fbe3cae5bda0be53eff5ab2f3caa8a2"), looks := false }, kinds := [], alts := [], laidByText := true, laidKinds := [.data, .data, .data], laidTests := true, laidLooks := .later }
def StateNoSignalUptoCardSaid : Prop := Claim7.holds Tryd.pinned (.plain (OpenSpec.upto stateNoSignalSpec)) stateNoSignalUptoCard
end Rows
end Go.Proofs.YtaehnephoppjmaaDoor
