/-
  DERIVED. GIVEN WITH THE SEED: THE CARDS: each row of YtjlmpaffhddmdaaGreatDoorRows.lean that lists a variable, with what it lists TIED to the program's text (the seventh form; the later family's looks); each row that meets fmt, with fmt's text TOLD by the authors' own Lean function (tested against real Go, not proved from fmt's source: count such statements apart). THE CARD IS WHAT COUNTS. Prove the row's statement (the work); the ties are given (YtjlmpaffhddmdaaGreatDoorTie.lean); close each card by the builder's one call (the guide's Derived/Test/ToyasCard.lean, 'card_holds'). Laid BY PROGRAM, IN A SANDBOX (cutbox-door.mjs). By AI agents, Wed Nov 11 2026. No macro, syntax, notation, axiom, sorry.
-/
import Derived.Test.YtjlmpaffhddmdaaGreatDoorRows
import GoSem.ClaimSeven
namespace Go.Proofs.YtjlmpaffhddmdaaGreatDoor
namespace Rows

/-- THE TIED CARD OF 'qloomlaw.RingReads'. -/
def ringReadsCard : Claim7 := { stood := { row := ringReadsRow, standIns := [], harness := (true, "7441eb2c51d00317e1d0248a94d852bd59348d454b11c20a28555ce46083fa28"), looks := true }, kinds := [], alts := [], laidByText := true, laidKinds := [.data, .data, .data, .sentinel, .sentinel], laidTests := true, laidLooks := .later }
def RingReadsCardSaid : Prop := Claim7.holds Tryz.pinned (.plain (OpenSpec.ofChange ringReadsSpec)) ringReadsCard

/-- THE SECOND FORM's CARD OF 'qloomlaw.RingReads'. -/
def ringReadsUptoCard : Claim7 := { stood := { row := ringReadsUptoRow, standIns := [], harness := (true, "7441eb2c51d00317e1d0248a94d852bd59348d454b11c20a28555ce46083fa28"), looks := true }, kinds := [], alts := [], laidByText := true, laidKinds := [.data, .data, .data, .sentinel, .sentinel], laidTests := true, laidLooks := .later }
def RingReadsUptoCardSaid : Prop := Claim7.holds Tryz.pinned (.plain (OpenSpec.upto ringReadsSpec)) ringReadsUptoCard
end Rows
end Go.Proofs.YtjlmpaffhddmdaaGreatDoor
