/-
  No cell of these rows narrows 'for every input' (looked for: loops, veiled, ifaces, maps, wideKeys, modest, calm, conditions, laid).
  DERIVED. THE GIVEN ROWS OF THIS SEAT. 5 by the template 'for every input the law returns true; each argument reads behind the call as it read before'; 0 by the template 'total and deterministic' (their statements: YtjlbeiadpdgchaaTotals.lean).
  GIVEN WITH THE SEED: the statements are not yours to turn. If you find one false, say at which input.
  Laid BY PROGRAM, IN A SANDBOX (cutbox-rows.mjs): the forced cells as the released guide's own fill.sh prints them over the translation af8bc85048c0a980… (all of the seat's roots in one cut). By AI agents, Wed Nov 11 2026. No macro, syntax, notation, axiom, sorry.
-/
import Derived.Test.YtjlbeiadpdgchaaChecked
import GoSem.Claim
import GoSem.ClaimJoined
import GoSem.ClaimMapViews
import Derived.JoinedTies
import Derived.KernelRfl
namespace Go.Proofs.Ytjlbeiadpdgchaa
/- THE CELL 'sum', in the pinned program and in every row, IS THE sha256 OF THE DUMP (.gsa) THAT YtjlbeiadpdgchaaProg.lean LOADS. Nothing in Lean hashes anything: it is a label: what it is worth is what the hold of that sum in a sandbox is worth. -/
noncomputable def Try.pinned : Pinned := { name := "ytjlbeiadpdgchaa", sum := "af8bc85048c0a980e5ec8b67eb9e6fb558fa0412cba8de4863e80a0cbbfbfcc8", checked := Try.checked }
namespace Rows
def none {H : Type} : Left H := { results := [], args := [] }

/-- 'qloomlaw.TableauRuns': WHATEVER THE INPUT: true; the input reads as it did. -/
def tableauRunsSpec : ChangeSpec := { name := "tableauRuns", fn := fun _ => fun
  | [d1, d2, d3] => { results := [.lit (.bool true)], args := [d1, d2, d3] }
  | _ => none }
def tableauRunsRow : OpenClaim := { program := "ytjlbeiadpdgchaa", sum := "af8bc85048c0a980e5ec8b67eb9e6fb558fa0412cba8de4863e80a0cbbfbfcc8", func := "qloom/qloomlaw.TableauRuns", spec := "tableauRuns", unfollowed := true, recurses := true, apart := false }
def TableauRunsSaid : Prop := tableauRunsRow.holds Try.pinned (OpenSpec.ofChange tableauRunsSpec)

/-- ITS FALSE NEIGHBOUR: 'it returns false'. Refute it at one input. -/
def tableauRunsWrong : ChangeSpec := { name := "tableauRuns", fn := fun _ => fun
  | [d1, d2, d3] => { results := [.lit (.bool false)], args := [d1, d2, d3] }
  | _ => none }
def TableauRunsWrongFalsely : Prop := tableauRunsRow.holds Try.pinned (OpenSpec.ofChange tableauRunsWrong)

/-- 'qloomlaw.TableauImages': WHATEVER THE INPUT: true; the input reads as it did. -/
def tableauImagesSpec : ChangeSpec := { name := "tableauImages", fn := fun _ => fun
  | [d1, d2] => { results := [.lit (.bool true)], args := [d1, d2] }
  | _ => none }
def tableauImagesRow : OpenClaim := { program := "ytjlbeiadpdgchaa", sum := "af8bc85048c0a980e5ec8b67eb9e6fb558fa0412cba8de4863e80a0cbbfbfcc8", func := "qloom/qloomlaw.TableauImages", spec := "tableauImages", inPlace := ["internal/bytealg.IndexByteString"], unfollowed := true, recurses := true, apart := false }
def TableauImagesSaid : Prop := tableauImagesRow.holds Try.pinned (OpenSpec.ofChange tableauImagesSpec)

/-- ITS FALSE NEIGHBOUR: 'it returns false'. Refute it at one input. -/
def tableauImagesWrong : ChangeSpec := { name := "tableauImages", fn := fun _ => fun
  | [d1, d2] => { results := [.lit (.bool false)], args := [d1, d2] }
  | _ => none }
def TableauImagesWrongFalsely : Prop := tableauImagesRow.holds Try.pinned (OpenSpec.ofChange tableauImagesWrong)

/-- 'qloomlaw.TableauAgain': WHATEVER THE INPUT: true; the input reads as it did. -/
def tableauAgainSpec : ChangeSpec := { name := "tableauAgain", fn := fun _ => fun
  | [d] => { results := [.lit (.bool true)], args := [d] }
  | _ => none }
def tableauAgainRow : OpenClaim := { program := "ytjlbeiadpdgchaa", sum := "af8bc85048c0a980e5ec8b67eb9e6fb558fa0412cba8de4863e80a0cbbfbfcc8", func := "qloom/qloomlaw.TableauAgain", spec := "tableauAgain", unfollowed := true, recurses := true, apart := false }
def TableauAgainSaid : Prop := tableauAgainRow.holds Try.pinned (OpenSpec.ofChange tableauAgainSpec)

/-- ITS FALSE NEIGHBOUR: 'it returns false'. Refute it at one input. -/
def tableauAgainWrong : ChangeSpec := { name := "tableauAgain", fn := fun _ => fun
  | [d] => { results := [.lit (.bool false)], args := [d] }
  | _ => none }
def TableauAgainWrongFalsely : Prop := tableauAgainRow.holds Try.pinned (OpenSpec.ofChange tableauAgainWrong)

/-- 'qloomlaw.CodeEncodes': WHATEVER THE INPUT: true; the input reads as it did. -/
def codeEncodesSpec : ChangeSpec := { name := "codeEncodes", fn := fun _ => fun
  | [d] => { results := [.lit (.bool true)], args := [d] }
  | _ => none }
def codeEncodesRow : OpenClaim := { program := "ytjlbeiadpdgchaa", sum := "af8bc85048c0a980e5ec8b67eb9e6fb558fa0412cba8de4863e80a0cbbfbfcc8", func := "qloom/qloomlaw.CodeEncodes", spec := "codeEncodes", inPlace := ["internal/bytealg.IndexByteString"], unfollowed := true, recurses := true, apart := false }
def CodeEncodesSaid : Prop := codeEncodesRow.holds Try.pinned (OpenSpec.ofChange codeEncodesSpec)

/-- ITS FALSE NEIGHBOUR: 'it returns false'. Refute it at one input. -/
def codeEncodesWrong : ChangeSpec := { name := "codeEncodes", fn := fun _ => fun
  | [d] => { results := [.lit (.bool false)], args := [d] }
  | _ => none }
def CodeEncodesWrongFalsely : Prop := codeEncodesRow.holds Try.pinned (OpenSpec.ofChange codeEncodesWrong)

/-- 'qloomlaw.CodeMeasures': WHATEVER THE INPUT: true; the input reads as it did. -/
def codeMeasuresSpec : ChangeSpec := { name := "codeMeasures", fn := fun _ => fun
  | [d1, d2, d3] => { results := [.lit (.bool true)], args := [d1, d2, d3] }
  | _ => none }
def codeMeasuresRow : OpenClaim := { program := "ytjlbeiadpdgchaa", sum := "af8bc85048c0a980e5ec8b67eb9e6fb558fa0412cba8de4863e80a0cbbfbfcc8", func := "qloom/qloomlaw.CodeMeasures", spec := "codeMeasures", inPlace := ["internal/bytealg.IndexByteString"], unfollowed := true, recurses := true, apart := false }
def CodeMeasuresSaid : Prop := codeMeasuresRow.holds Try.pinned (OpenSpec.ofChange codeMeasuresSpec)

/-- ITS FALSE NEIGHBOUR: 'it returns false'. Refute it at one input. -/
def codeMeasuresWrong : ChangeSpec := { name := "codeMeasures", fn := fun _ => fun
  | [d1, d2, d3] => { results := [.lit (.bool false)], args := [d1, d2, d3] }
  | _ => none }
def CodeMeasuresWrongFalsely : Prop := codeMeasuresRow.holds Try.pinned (OpenSpec.ofChange codeMeasuresWrong)

/- THE SECOND FORM. 'bulk': how many values and letters a reading holds, each counted each time it is reached (what is shared counts as often as it is met; a slice's spare places count too). A statement '..UptoSaid' is the law's where the arguments, and the package variables that the reading takes, are together of bulk at most 1048576: NARROWER than '..Said'. Prove '..Said' where nothing that the law and all that it calls make is longer than what came in: it says more and counts as full. Else prove '..UptoSaid'. A law counts once. -/
mutual
def uptoBulk {H : Type} : DataW H → Nat
  | .lit (.string bytes) => bytes.length + 1
  | .lit _ => 1
  | .nil => 1
  | .ptr d => uptoBulk d + 1
  | .slice elems spare => uptoBulkAll elems + uptoBulkAll spare + 1
  | .agg parts => uptoBulkAll parts + 1
  | .iface _ d => uptoBulk d + 1
  | .map entries => uptoBulkEntries entries + 1
  | .held _ => 1
def uptoBulkAll {H : Type} : List (DataW H) → Nat
  | [] => 0
  | d :: r => uptoBulk d + uptoBulkAll r
def uptoBulkEntries {H : Type} : List (Lit × DataW H) → Nat
  | [] => 0
  | x :: r => uptoBulkEntry x + uptoBulkEntries r
def uptoBulkEntry {H : Type} : Lit × DataW H → Nat
  | (.string bytes, d) => bytes.length + uptoBulk d + 1
  | (_, d) => uptoBulk d + 1
 end
def uptoSmall : (H : Type) → List (DataW H) → Bool := fun _ ds => decide (uptoBulkAll ds ≤ 1048576)
def OpenSpec.upto (s : _root_.Go.ChangeSpec) : _root_.Go.OpenSpec := { _root_.Go.OpenSpec.ofChange s with cond := some uptoSmall }

/-- 'qloomlaw.TableauRuns', WHERE WHAT IT READS IS OF BULK AT MOST 1048576: true; the input reads as it did. -/
def tableauRunsUptoRow : OpenClaim := { program := "ytjlbeiadpdgchaa", sum := "af8bc85048c0a980e5ec8b67eb9e6fb558fa0412cba8de4863e80a0cbbfbfcc8", func := "qloom/qloomlaw.TableauRuns", spec := "tableauRuns", unfollowed := true, recurses := true, apart := false, narrowed := true }
def TableauRunsUptoSaid : Prop := tableauRunsUptoRow.holds Try.pinned (OpenSpec.upto tableauRunsSpec)

/-- 'qloomlaw.TableauImages', WHERE WHAT IT READS IS OF BULK AT MOST 1048576: true; the input reads as it did. -/
def tableauImagesUptoRow : OpenClaim := { program := "ytjlbeiadpdgchaa", sum := "af8bc85048c0a980e5ec8b67eb9e6fb558fa0412cba8de4863e80a0cbbfbfcc8", func := "qloom/qloomlaw.TableauImages", spec := "tableauImages", inPlace := ["internal/bytealg.IndexByteString"], unfollowed := true, recurses := true, apart := false, narrowed := true }
def TableauImagesUptoSaid : Prop := tableauImagesUptoRow.holds Try.pinned (OpenSpec.upto tableauImagesSpec)

/-- 'qloomlaw.TableauAgain', WHERE WHAT IT READS IS OF BULK AT MOST 1048576: true; the input reads as it did. -/
def tableauAgainUptoRow : OpenClaim := { program := "ytjlbeiadpdgchaa", sum := "af8bc85048c0a980e5ec8b67eb9e6fb558fa0412cba8de4863e80a0cbbfbfcc8", func := "qloom/qloomlaw.TableauAgain", spec := "tableauAgain", unfollowed := true, recurses := true, apart := false, narrowed := true }
def TableauAgainUptoSaid : Prop := tableauAgainUptoRow.holds Try.pinned (OpenSpec.upto tableauAgainSpec)

/-- 'qloomlaw.CodeEncodes', WHERE WHAT IT READS IS OF BULK AT MOST 1048576: true; the input reads as it did. -/
def codeEncodesUptoRow : OpenClaim := { program := "ytjlbeiadpdgchaa", sum := "af8bc85048c0a980e5ec8b67eb9e6fb558fa0412cba8de4863e80a0cbbfbfcc8", func := "qloom/qloomlaw.CodeEncodes", spec := "codeEncodes", inPlace := ["internal/bytealg.IndexByteString"], unfollowed := true, recurses := true, apart := false, narrowed := true }
def CodeEncodesUptoSaid : Prop := codeEncodesUptoRow.holds Try.pinned (OpenSpec.upto codeEncodesSpec)

/-- 'qloomlaw.CodeMeasures', WHERE WHAT IT READS IS OF BULK AT MOST 1048576: true; the input reads as it did. -/
def codeMeasuresUptoRow : OpenClaim := { program := "ytjlbeiadpdgchaa", sum := "af8bc85048c0a980e5ec8b67eb9e6fb558fa0412cba8de4863e80a0cbbfbfcc8", func := "qloom/qloomlaw.CodeMeasures", spec := "codeMeasures", inPlace := ["internal/bytealg.IndexByteString"], unfollowed := true, recurses := true, apart := false, narrowed := true }
def CodeMeasuresUptoSaid : Prop := codeMeasuresUptoRow.holds Try.pinned (OpenSpec.upto codeMeasuresSpec)

end Rows
end Go.Proofs.Ytjlbeiadpdgchaa
