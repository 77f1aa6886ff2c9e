/-
  No cell of these rows narrows 'for every input' (looked for: loops, veiled, ifaces, maps, wideKeys, modest, calm, conditions, laid).
  DERIVED. THE GIVEN ROWS OF THIS SEAT. 5 by the template 'for every input the law returns true; each argument reads behind the call as it read before'; 0 by the template 'total and deterministic' (their statements: YtmhhlfpejfajaaaTotals.lean).
  GIVEN WITH THE SEED: the statements are not yours to turn. If you find one false, say at which input.
  Laid BY PROGRAM, IN A SANDBOX (cutbox-rows.mjs): the forced cells as the released guide's own fill.sh prints them over the translation a0267741152c9011… (all of the seat's roots in one cut). By AI agents, Wed Nov 11 2026. No macro, syntax, notation, axiom, sorry.
-/
import Derived.Test.YtmhhlfpejfajaaaChecked
import GoSem.Claim
import GoSem.ClaimJoined
import GoSem.ClaimMapViews
import Derived.JoinedTies
import Derived.KernelRfl
namespace Go.Proofs.Ytmhhlfpejfajaaa
/- THE CELL 'sum', in the pinned program and in every row, IS THE sha256 OF THE DUMP (.gsa) THAT YtmhhlfpejfajaaaProg.lean LOADS. Nothing in Lean hashes anything: it is a label: what it is worth is what the hold of that sum in a sandbox is worth. -/
noncomputable def Try.pinned : Pinned := { name := "ytmhhlfpejfajaaa", sum := "a0267741152c9011bc37bd177856f85c07e4a0095e549d899e53b62451d9f99d", checked := Try.checked }
namespace Rows
def none {H : Type} : Left H := { results := [], args := [] }

/-- 'qloomlaw.WholeReckons': WHATEVER THE INPUT: true; the input reads as it did. -/
def wholeReckonsSpec : ChangeSpec := { name := "wholeReckons", fn := fun _ => fun
  | [d1, d2] => { results := [.lit (.bool true)], args := [d1, d2] }
  | _ => none }
def wholeReckonsRow : OpenClaim := { program := "ytmhhlfpejfajaaa", sum := "a0267741152c9011bc37bd177856f85c07e4a0095e549d899e53b62451d9f99d", func := "qloom/qloomlaw.WholeReckons", spec := "wholeReckons", apart := false }
def WholeReckonsSaid : Prop := wholeReckonsRow.holds Try.pinned (OpenSpec.ofChange wholeReckonsSpec)

/-- ITS FALSE NEIGHBOUR: 'it returns false'. Refute it at one input. -/
def wholeReckonsWrong : ChangeSpec := { name := "wholeReckons", fn := fun _ => fun
  | [d1, d2] => { results := [.lit (.bool false)], args := [d1, d2] }
  | _ => none }
def WholeReckonsWrongFalsely : Prop := wholeReckonsRow.holds Try.pinned (OpenSpec.ofChange wholeReckonsWrong)

/-- 'qloomlaw.WholeDivides': WHATEVER THE INPUT: true; the input reads as it did. -/
def wholeDividesSpec : ChangeSpec := { name := "wholeDivides", fn := fun _ => fun
  | [d1, d2, d3] => { results := [.lit (.bool true)], args := [d1, d2, d3] }
  | _ => none }
def wholeDividesRow : OpenClaim := { program := "ytmhhlfpejfajaaa", sum := "a0267741152c9011bc37bd177856f85c07e4a0095e549d899e53b62451d9f99d", func := "qloom/qloomlaw.WholeDivides", spec := "wholeDivides", named := ["math/bits.overflowError"], apart := false }
def WholeDividesSaid : Prop := wholeDividesRow.holds Try.pinned (OpenSpec.ofChange wholeDividesSpec)

/-- ITS FALSE NEIGHBOUR: 'it returns false'. Refute it at one input. -/
def wholeDividesWrong : ChangeSpec := { name := "wholeDivides", fn := fun _ => fun
  | [d1, d2, d3] => { results := [.lit (.bool false)], args := [d1, d2, d3] }
  | _ => none }
def WholeDividesWrongFalsely : Prop := wholeDividesRow.holds Try.pinned (OpenSpec.ofChange wholeDividesWrong)

/-- 'qloomlaw.WholeLaws': WHATEVER THE INPUT: true; the input reads as it did. -/
def wholeLawsSpec : ChangeSpec := { name := "wholeLaws", fn := fun _ => fun
  | [d1, d2, d3] => { results := [.lit (.bool true)], args := [d1, d2, d3] }
  | _ => none }
def wholeLawsRow : OpenClaim := { program := "ytmhhlfpejfajaaa", sum := "a0267741152c9011bc37bd177856f85c07e4a0095e549d899e53b62451d9f99d", func := "qloom/qloomlaw.WholeLaws", spec := "wholeLaws", named := ["math/bits.overflowError"], apart := false }
def WholeLawsSaid : Prop := wholeLawsRow.holds Try.pinned (OpenSpec.ofChange wholeLawsSpec)

/-- ITS FALSE NEIGHBOUR: 'it returns false'. Refute it at one input. -/
def wholeLawsWrong : ChangeSpec := { name := "wholeLaws", fn := fun _ => fun
  | [d1, d2, d3] => { results := [.lit (.bool false)], args := [d1, d2, d3] }
  | _ => none }
def WholeLawsWrongFalsely : Prop := wholeLawsRow.holds Try.pinned (OpenSpec.ofChange wholeLawsWrong)

/-- 'qloomlaw.WholeNears': WHATEVER THE INPUT: true; the input reads as it did. -/
def wholeNearsSpec : ChangeSpec := { name := "wholeNears", fn := fun _ => fun
  | [d1, d2, d3] => { results := [.lit (.bool true)], args := [d1, d2, d3] }
  | _ => none }
def wholeNearsRow : OpenClaim := { program := "ytmhhlfpejfajaaa", sum := "a0267741152c9011bc37bd177856f85c07e4a0095e549d899e53b62451d9f99d", func := "qloom/qloomlaw.WholeNears", spec := "wholeNears", named := ["math/bits.overflowError"], apart := false }
def WholeNearsSaid : Prop := wholeNearsRow.holds Try.pinned (OpenSpec.ofChange wholeNearsSpec)

/-- ITS FALSE NEIGHBOUR: 'it returns false'. Refute it at one input. -/
def wholeNearsWrong : ChangeSpec := { name := "wholeNears", fn := fun _ => fun
  | [d1, d2, d3] => { results := [.lit (.bool false)], args := [d1, d2, d3] }
  | _ => none }
def WholeNearsWrongFalsely : Prop := wholeNearsRow.holds Try.pinned (OpenSpec.ofChange wholeNearsWrong)

/-- 'qloomlaw.WholeFracs': WHATEVER THE INPUT: true; the input reads as it did. -/
def wholeFracsSpec : ChangeSpec := { name := "wholeFracs", fn := fun _ => fun
  | [d1, d2] => { results := [.lit (.bool true)], args := [d1, d2] }
  | _ => none }
def wholeFracsRow : OpenClaim := { program := "ytmhhlfpejfajaaa", sum := "a0267741152c9011bc37bd177856f85c07e4a0095e549d899e53b62451d9f99d", func := "qloom/qloomlaw.WholeFracs", spec := "wholeFracs", named := ["math/bits.overflowError"], apart := false }
def WholeFracsSaid : Prop := wholeFracsRow.holds Try.pinned (OpenSpec.ofChange wholeFracsSpec)

/-- ITS FALSE NEIGHBOUR: 'it returns false'. Refute it at one input. -/
def wholeFracsWrong : ChangeSpec := { name := "wholeFracs", fn := fun _ => fun
  | [d1, d2] => { results := [.lit (.bool false)], args := [d1, d2] }
  | _ => none }
def WholeFracsWrongFalsely : Prop := wholeFracsRow.holds Try.pinned (OpenSpec.ofChange wholeFracsWrong)

/- THE SECOND FORM. 'bulk': how many values and letters a reading holds, each counted each time it is reached (what is shared counts as often as it is met; a slice's spare places count too). A statement '..UptoSaid' is the law's where the arguments, and the package variables that the reading takes, are together of bulk at most 1048576: NARROWER than '..Said'. Prove '..Said' where nothing that the law and all that it calls make is longer than what came in: it says more and counts as full. Else prove '..UptoSaid'. A law counts once. -/
mutual
def uptoBulk {H : Type} : DataW H → Nat
  | .lit (.string bytes) => bytes.length + 1
  | .lit _ => 1
  | .nil => 1
  | .ptr d => uptoBulk d + 1
  | .slice elems spare => uptoBulkAll elems + uptoBulkAll spare + 1
  | .agg parts => uptoBulkAll parts + 1
  | .iface _ d => uptoBulk d + 1
  | .map entries => uptoBulkEntries entries + 1
  | .held _ => 1
def uptoBulkAll {H : Type} : List (DataW H) → Nat
  | [] => 0
  | d :: r => uptoBulk d + uptoBulkAll r
def uptoBulkEntries {H : Type} : List (Lit × DataW H) → Nat
  | [] => 0
  | x :: r => uptoBulkEntry x + uptoBulkEntries r
def uptoBulkEntry {H : Type} : Lit × DataW H → Nat
  | (.string bytes, d) => bytes.length + uptoBulk d + 1
  | (_, d) => uptoBulk d + 1
 end
def uptoSmall : (H : Type) → List (DataW H) → Bool := fun _ ds => decide (uptoBulkAll ds ≤ 1048576)
def OpenSpec.upto (s : _root_.Go.ChangeSpec) : _root_.Go.OpenSpec := { _root_.Go.OpenSpec.ofChange s with cond := some uptoSmall }

/-- 'qloomlaw.WholeReckons', WHERE WHAT IT READS IS OF BULK AT MOST 1048576: true; the input reads as it did. -/
def wholeReckonsUptoRow : OpenClaim := { program := "ytmhhlfpejfajaaa", sum := "a0267741152c9011bc37bd177856f85c07e4a0095e549d899e53b62451d9f99d", func := "qloom/qloomlaw.WholeReckons", spec := "wholeReckons", apart := false, narrowed := true }
def WholeReckonsUptoSaid : Prop := wholeReckonsUptoRow.holds Try.pinned (OpenSpec.upto wholeReckonsSpec)

/-- 'qloomlaw.WholeDivides', WHERE WHAT IT READS IS OF BULK AT MOST 1048576: true; the input reads as it did. -/
def wholeDividesUptoRow : OpenClaim := { program := "ytmhhlfpejfajaaa", sum := "a0267741152c9011bc37bd177856f85c07e4a0095e549d899e53b62451d9f99d", func := "qloom/qloomlaw.WholeDivides", spec := "wholeDivides", named := ["math/bits.overflowError"], apart := false, narrowed := true }
def WholeDividesUptoSaid : Prop := wholeDividesUptoRow.holds Try.pinned (OpenSpec.upto wholeDividesSpec)

/-- 'qloomlaw.WholeLaws', WHERE WHAT IT READS IS OF BULK AT MOST 1048576: true; the input reads as it did. -/
def wholeLawsUptoRow : OpenClaim := { program := "ytmhhlfpejfajaaa", sum := "a0267741152c9011bc37bd177856f85c07e4a0095e549d899e53b62451d9f99d", func := "qloom/qloomlaw.WholeLaws", spec := "wholeLaws", named := ["math/bits.overflowError"], apart := false, narrowed := true }
def WholeLawsUptoSaid : Prop := wholeLawsUptoRow.holds Try.pinned (OpenSpec.upto wholeLawsSpec)

/-- 'qloomlaw.WholeNears', WHERE WHAT IT READS IS OF BULK AT MOST 1048576: true; the input reads as it did. -/
def wholeNearsUptoRow : OpenClaim := { program := "ytmhhlfpejfajaaa", sum := "a0267741152c9011bc37bd177856f85c07e4a0095e549d899e53b62451d9f99d", func := "qloom/qloomlaw.WholeNears", spec := "wholeNears", named := ["math/bits.overflowError"], apart := false, narrowed := true }
def WholeNearsUptoSaid : Prop := wholeNearsUptoRow.holds Try.pinned (OpenSpec.upto wholeNearsSpec)

/-- 'qloomlaw.WholeFracs', WHERE WHAT IT READS IS OF BULK AT MOST 1048576: true; the input reads as it did. -/
def wholeFracsUptoRow : OpenClaim := { program := "ytmhhlfpejfajaaa", sum := "a0267741152c9011bc37bd177856f85c07e4a0095e549d899e53b62451d9f99d", func := "qloom/qloomlaw.WholeFracs", spec := "wholeFracs", named := ["math/bits.overflowError"], apart := false, narrowed := true }
def WholeFracsUptoSaid : Prop := wholeFracsUptoRow.holds Try.pinned (OpenSpec.upto wholeFracsSpec)

end Rows
end Go.Proofs.Ytmhhlfpejfajaaa
