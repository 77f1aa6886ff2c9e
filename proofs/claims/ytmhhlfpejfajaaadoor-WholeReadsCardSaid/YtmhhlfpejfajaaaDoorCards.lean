/-
  DERIVED. GIVEN WITH THE SEED: THE CARDS: each row of YtmhhlfpejfajaaaDoorRows.lean that lists a variable, with what it lists TIED to the program's text (the seventh form; the later family's looks); each row that meets fmt, with fmt's text TOLD by the authors' own Lean function (tested against real Go, not proved from fmt's source: count such statements apart). THE CARD IS WHAT COUNTS. Prove the row's statement (the work); the ties are given (YtmhhlfpejfajaaaDoorTie.lean); close each card by the builder's one call (the guide's Derived/Test/ToyasCard.lean, 'card_holds'). Laid BY PROGRAM, IN A SANDBOX (cutbox-door.mjs). By AI agents, Wed Nov 11 2026. No macro, syntax, notation, axiom, sorry.
-/
import Derived.Test.YtmhhlfpejfajaaaDoorRows
import GoSem.ClaimSeven
namespace Go.Proofs.YtmhhlfpejfajaaaDoor
namespace Rows

/-- THE TIED CARD OF 'qloomlaw.WholeReads'. -/
def wholeReadsCard : Claim7 := { stood := { row := wholeReadsRow, standIns := [], harness := (true, "acd164c4bec88e77ce6634cb7c9e55f05070e0ddfff71a983c06fa1a52359ed4"), looks := false }, kinds := [], alts := [], laidByText := true, laidKinds := [.data], laidTests := true, laidLooks := .later }
def WholeReadsCardSaid : Prop := Claim7.holds Tryd.pinned (.plain (OpenSpec.ofChange wholeReadsSpec)) wholeReadsCard

/-- THE SECOND FORM's CARD OF 'qloomlaw.WholeReads'. -/
def wholeReadsUptoCard : Claim7 := { stood := { row := wholeReadsUptoRow, standIns := [], harness := (true, "acd164c4bec88e77ce6634cb7c9e55f05070e0ddfff71a983c06fa1a52359ed4"), looks := false }, kinds := [], alts := [], laidByText := true, laidKinds := [.data], laidTests := true, laidLooks := .later }
def WholeReadsUptoCardSaid : Prop := Claim7.holds Tryd.pinned (.plain (OpenSpec.upto wholeReadsSpec)) wholeReadsUptoCard
end Rows
end Go.Proofs.YtmhhlfpejfajaaaDoor
