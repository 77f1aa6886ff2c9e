/-
  DERIVED. GIVEN WITH THE SEED: THE CARDS: each row of YtjlmpaffhddmdaaDoorRows.lean that lists a variable, with what it lists TIED to the program's text (the seventh form; the later family's looks); each row that meets fmt, with fmt's text TOLD by the authors' own Lean function (tested against real Go, not proved from fmt's source: count such statements apart). THE CARD IS WHAT COUNTS. Prove the row's statement (the work); the ties are given (YtjlmpaffhddmdaaDoorTie.lean); close each card by the builder's one call (the guide's Derived/Test/ToyasCard.lean, 'card_holds'). Laid BY PROGRAM, IN A SANDBOX (cutbox-door.mjs). By AI agents, Wed Nov 11 2026. No macro, syntax, notation, axiom, sorry.
-/
import Derived.Test.YtjlmpaffhddmdaaDoorRows
import GoSem.ClaimSeven
namespace Go.Proofs.YtjlmpaffhddmdaaDoor
namespace Rows

/-- THE TIED CARD OF 'qloomlaw.RingLaws'. -/
def ringLawsCard : Claim7 := { stood := { row := ringLawsRow, standIns := [], harness := (true, "c5eafd75c1d06c60a3bcca0a4d41f2933495743e96f62a4ce47afb5dcb9d3440"), looks := true }, kinds := [], alts := [], laidByText := true, laidKinds := [.data, .data, .data, .sentinel, .sentinel], laidTests := true, laidLooks := .later }
def RingLawsCardSaid : Prop := Claim7.holds Tryd.pinned (.plain (OpenSpec.ofChange ringLawsSpec)) ringLawsCard

/-- THE SECOND FORM's CARD OF 'qloomlaw.RingLaws'. -/
def ringLawsUptoCard : Claim7 := { stood := { row := ringLawsUptoRow, standIns := [], harness := (true, "c5eafd75c1d06c60a3bcca0a4d41f2933495743e96f62a4ce47afb5dcb9d3440"), looks := true }, kinds := [], alts := [], laidByText := true, laidKinds := [.data, .data, .data, .sentinel, .sentinel], laidTests := true, laidLooks := .later }
def RingLawsUptoCardSaid : Prop := Claim7.holds Tryd.pinned (.plain (OpenSpec.upto ringLawsSpec)) ringLawsUptoCard
end Rows
end Go.Proofs.YtjlmpaffhddmdaaDoor
