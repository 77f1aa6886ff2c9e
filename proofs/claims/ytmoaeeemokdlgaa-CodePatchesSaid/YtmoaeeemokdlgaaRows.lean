/-
  No cell of these rows narrows 'for every input' (looked for: loops, veiled, ifaces, maps, wideKeys, modest, calm, conditions, laid).
  DERIVED. THE GIVEN ROWS OF THIS SEAT. 4 by the template 'for every input the law returns true; each argument reads behind the call as it read before'; 0 by the template 'total and deterministic' (their statements: YtmoaeeemokdlgaaTotals.lean).
  GIVEN WITH THE SEED: the statements are not yours to turn. If you find one false, say at which input.
  Laid BY PROGRAM, IN A SANDBOX (cutbox-rows.mjs): the forced cells as the released guide's own fill.sh prints them over the translation 70f61d7318124255… (all of the seat's roots in one cut). By AI agents, Wed Nov 11 2026. No macro, syntax, notation, axiom, sorry.
-/
import Derived.Test.YtmoaeeemokdlgaaChecked
import GoSem.Claim
import GoSem.ClaimJoined
import GoSem.ClaimMapViews
import Derived.JoinedTies
import Derived.KernelRfl
namespace Go.Proofs.Ytmoaeeemokdlgaa
/- THE CELL 'sum', in the pinned program and in every row, IS THE sha256 OF THE DUMP (.gsa) THAT YtmoaeeemokdlgaaProg.lean LOADS. Nothing in Lean hashes anything: it is a label: what it is worth is what the hold of that sum in a sandbox is worth. -/
noncomputable def Try.pinned : Pinned := { name := "ytmoaeeemokdlgaa", sum := "70f61d73181242556deaa3a57ca601ee05f19cabc7197b052774f7f25d686db1", checked := Try.checked }
namespace Rows
def none {H : Type} : Left H := { results := [], args := [] }

/-- 'qloomlaw.CodeChecks': WHATEVER THE INPUT: true; the input reads as it did. -/
def codeChecksSpec : ChangeSpec := { name := "codeChecks", fn := fun _ => fun
  | [d1, d2] => { results := [.lit (.bool true)], args := [d1, d2] }
  | _ => none }
def codeChecksRow : OpenClaim := { program := "ytmoaeeemokdlgaa", sum := "70f61d73181242556deaa3a57ca601ee05f19cabc7197b052774f7f25d686db1", func := "qloom/qloomlaw.CodeChecks", spec := "codeChecks", inPlace := ["internal/bytealg.IndexByteString"], unfollowed := true, recurses := true, apart := false }
def CodeChecksSaid : Prop := codeChecksRow.holds Try.pinned (OpenSpec.ofChange codeChecksSpec)

/-- ITS FALSE NEIGHBOUR: 'it returns false'. Refute it at one input. -/
def codeChecksWrong : ChangeSpec := { name := "codeChecks", fn := fun _ => fun
  | [d1, d2] => { results := [.lit (.bool false)], args := [d1, d2] }
  | _ => none }
def CodeChecksWrongFalsely : Prop := codeChecksRow.holds Try.pinned (OpenSpec.ofChange codeChecksWrong)

/-- 'qloomlaw.CodeDistances': WHATEVER THE INPUT: true; the input reads as it did. -/
def codeDistancesSpec : ChangeSpec := { name := "codeDistances", fn := fun _ => fun
  | [d1, d2] => { results := [.lit (.bool true)], args := [d1, d2] }
  | _ => none }
def codeDistancesRow : OpenClaim := { program := "ytmoaeeemokdlgaa", sum := "70f61d73181242556deaa3a57ca601ee05f19cabc7197b052774f7f25d686db1", func := "qloom/qloomlaw.CodeDistances", spec := "codeDistances", inPlace := ["internal/bytealg.IndexByteString"], unfollowed := true, recurses := true, apart := false }
def CodeDistancesSaid : Prop := codeDistancesRow.holds Try.pinned (OpenSpec.ofChange codeDistancesSpec)

/-- ITS FALSE NEIGHBOUR: 'it returns false'. Refute it at one input. -/
def codeDistancesWrong : ChangeSpec := { name := "codeDistances", fn := fun _ => fun
  | [d1, d2] => { results := [.lit (.bool false)], args := [d1, d2] }
  | _ => none }
def CodeDistancesWrongFalsely : Prop := codeDistancesRow.holds Try.pinned (OpenSpec.ofChange codeDistancesWrong)

/-- 'qloomlaw.CodeCorrects': WHATEVER THE INPUT: true; the input reads as it did. -/
def codeCorrectsSpec : ChangeSpec := { name := "codeCorrects", fn := fun _ => fun
  | [d1, d2] => { results := [.lit (.bool true)], args := [d1, d2] }
  | _ => none }
def codeCorrectsRow : OpenClaim := { program := "ytmoaeeemokdlgaa", sum := "70f61d73181242556deaa3a57ca601ee05f19cabc7197b052774f7f25d686db1", func := "qloom/qloomlaw.CodeCorrects", spec := "codeCorrects", inPlace := ["internal/bytealg.IndexByteString"], unfollowed := true, recurses := true, apart := false }
def CodeCorrectsSaid : Prop := codeCorrectsRow.holds Try.pinned (OpenSpec.ofChange codeCorrectsSpec)

/-- ITS FALSE NEIGHBOUR: 'it returns false'. Refute it at one input. -/
def codeCorrectsWrong : ChangeSpec := { name := "codeCorrects", fn := fun _ => fun
  | [d1, d2] => { results := [.lit (.bool false)], args := [d1, d2] }
  | _ => none }
def CodeCorrectsWrongFalsely : Prop := codeCorrectsRow.holds Try.pinned (OpenSpec.ofChange codeCorrectsWrong)

/-- 'qloomlaw.CodePatches': WHATEVER THE INPUT: true; the input reads as it did. -/
def codePatchesSpec : ChangeSpec := { name := "codePatches", fn := fun _ => fun
  | [d1, d2] => { results := [.lit (.bool true)], args := [d1, d2] }
  | _ => none }
def codePatchesRow : OpenClaim := { program := "ytmoaeeemokdlgaa", sum := "70f61d73181242556deaa3a57ca601ee05f19cabc7197b052774f7f25d686db1", func := "qloom/qloomlaw.CodePatches", spec := "codePatches", inPlace := ["internal/bytealg.IndexByteString"], unfollowed := true, recurses := true, apart := false }
def CodePatchesSaid : Prop := codePatchesRow.holds Try.pinned (OpenSpec.ofChange codePatchesSpec)

/-- ITS FALSE NEIGHBOUR: 'it returns false'. Refute it at one input. -/
def codePatchesWrong : ChangeSpec := { name := "codePatches", fn := fun _ => fun
  | [d1, d2] => { results := [.lit (.bool false)], args := [d1, d2] }
  | _ => none }
def CodePatchesWrongFalsely : Prop := codePatchesRow.holds Try.pinned (OpenSpec.ofChange codePatchesWrong)

/- THE SECOND FORM. 'bulk': how many values and letters a reading holds, each counted each time it is reached (what is shared counts as often as it is met; a slice's spare places count too). A statement '..UptoSaid' is the law's where the arguments, and the package variables that the reading takes, are together of bulk at most 1048576: NARROWER than '..Said'. Prove '..Said' where nothing that the law and all that it calls make is longer than what came in: it says more and counts as full. Else prove '..UptoSaid'. A law counts once. -/
mutual
def uptoBulk {H : Type} : DataW H → Nat
  | .lit (.string bytes) => bytes.length + 1
  | .lit _ => 1
  | .nil => 1
  | .ptr d => uptoBulk d + 1
  | .slice elems spare => uptoBulkAll elems + uptoBulkAll spare + 1
  | .agg parts => uptoBulkAll parts + 1
  | .iface _ d => uptoBulk d + 1
  | .map entries => uptoBulkEntries entries + 1
  | .held _ => 1
def uptoBulkAll {H : Type} : List (DataW H) → Nat
  | [] => 0
  | d :: r => uptoBulk d + uptoBulkAll r
def uptoBulkEntries {H : Type} : List (Lit × DataW H) → Nat
  | [] => 0
  | x :: r => uptoBulkEntry x + uptoBulkEntries r
def uptoBulkEntry {H : Type} : Lit × DataW H → Nat
  | (.string bytes, d) => bytes.length + uptoBulk d + 1
  | (_, d) => uptoBulk d + 1
 end
def uptoSmall : (H : Type) → List (DataW H) → Bool := fun _ ds => decide (uptoBulkAll ds ≤ 1048576)
def OpenSpec.upto (s : _root_.Go.ChangeSpec) : _root_.Go.OpenSpec := { _root_.Go.OpenSpec.ofChange s with cond := some uptoSmall }

/-- 'qloomlaw.CodeChecks', WHERE WHAT IT READS IS OF BULK AT MOST 1048576: true; the input reads as it did. -/
def codeChecksUptoRow : OpenClaim := { program := "ytmoaeeemokdlgaa", sum := "70f61d73181242556deaa3a57ca601ee05f19cabc7197b052774f7f25d686db1", func := "qloom/qloomlaw.CodeChecks", spec := "codeChecks", inPlace := ["internal/bytealg.IndexByteString"], unfollowed := true, recurses := true, apart := false, narrowed := true }
def CodeChecksUptoSaid : Prop := codeChecksUptoRow.holds Try.pinned (OpenSpec.upto codeChecksSpec)

/-- 'qloomlaw.CodeDistances', WHERE WHAT IT READS IS OF BULK AT MOST 1048576: true; the input reads as it did. -/
def codeDistancesUptoRow : OpenClaim := { program := "ytmoaeeemokdlgaa", sum := "70f61d73181242556deaa3a57ca601ee05f19cabc7197b052774f7f25d686db1", func := "qloom/qloomlaw.CodeDistances", spec := "codeDistances", inPlace := ["internal/bytealg.IndexByteString"], unfollowed := true, recurses := true, apart := false, narrowed := true }
def CodeDistancesUptoSaid : Prop := codeDistancesUptoRow.holds Try.pinned (OpenSpec.upto codeDistancesSpec)

/-- 'qloomlaw.CodeCorrects', WHERE WHAT IT READS IS OF BULK AT MOST 1048576: true; the input reads as it did. -/
def codeCorrectsUptoRow : OpenClaim := { program := "ytmoaeeemokdlgaa", sum := "70f61d73181242556deaa3a57ca601ee05f19cabc7197b052774f7f25d686db1", func := "qloom/qloomlaw.CodeCorrects", spec := "codeCorrects", inPlace := ["internal/bytealg.IndexByteString"], unfollowed := true, recurses := true, apart := false, narrowed := true }
def CodeCorrectsUptoSaid : Prop := codeCorrectsUptoRow.holds Try.pinned (OpenSpec.upto codeCorrectsSpec)

/-- 'qloomlaw.CodePatches', WHERE WHAT IT READS IS OF BULK AT MOST 1048576: true; the input reads as it did. -/
def codePatchesUptoRow : OpenClaim := { program := "ytmoaeeemokdlgaa", sum := "70f61d73181242556deaa3a57ca601ee05f19cabc7197b052774f7f25d686db1", func := "qloom/qloomlaw.CodePatches", spec := "codePatches", inPlace := ["internal/bytealg.IndexByteString"], unfollowed := true, recurses := true, apart := false, narrowed := true }
def CodePatchesUptoSaid : Prop := codePatchesUptoRow.holds Try.pinned (OpenSpec.upto codePatchesSpec)

end Rows
end Go.Proofs.Ytmoaeeemokdlgaa
