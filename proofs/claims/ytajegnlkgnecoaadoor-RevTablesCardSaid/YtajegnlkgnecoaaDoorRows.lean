/-
  NARROWER THAN 'FOR EVERY INPUT', by the rows' own cells (each row's printed sentence says how): RevCleans: loops, laid · RevTables: laid · RevNormals: loops, laid · RevPlays: laid · RevFlats: loops, laid · RevAgrees: loops, laid.
  DERIVED. THE GIVEN ROWS OF THIS SEAT. 6 by the template 'for every input the law returns true; each argument reads behind the call as it read before'; 0 by the template 'total and deterministic' (their statements: YtajegnlkgnecoaaDoorTotals.lean).
  GIVEN WITH THE SEED: the statements are not yours to turn. If you find one false, say at which input.
  Laid BY PROGRAM, IN A SANDBOX (cutbox-rows.mjs): the forced cells as the released guide's own fill.sh prints them over the translation cb2796d0e2bc43ef… (all of the seat's roots in one cut). By AI agents, Wed Nov 11 2026. No macro, syntax, notation, axiom, sorry.
-/
import Derived.Test.YtajegnlkgnecoaaDoorChecked
import GoSem.Claim
import GoSem.ClaimJoined
import GoSem.ClaimMapViews
import Derived.JoinedTies
import Derived.KernelRfl
namespace Go.Proofs.YtajegnlkgnecoaaDoor
/- THE CELL 'sum', in the pinned program and in every row, IS THE sha256 OF THE DUMP (.gsa) THAT YtajegnlkgnecoaaDoorProg.lean LOADS. Nothing in Lean hashes anything: it is a label: what it is worth is what the hold of that sum in a sandbox is worth. -/
noncomputable def Tryd.pinned : Pinned := { name := "ytajegnlkgnecoaadoor", sum := "cb2796d0e2bc43efdaa33d99a88665d27b8a6abab35b1b85ce7c08d917cf58a0", checked := Tryd.checked }
namespace Rows
def none {H : Type} : Left H := { results := [], args := [] }

/- WHAT THE LISTED PACKAGE-LEVEL VARIABLES READ AS WHEN THE CALL BEGINS. Each datum BY PROGRAM (the guide's laid-datum.mjs) off the statement by which the dump's own 'gosem.cut.vars' lays the variable. In a bare row this is a premise. The card (YtajegnlkgnecoaaDoorCards.lean) ties it to the program's text. -/
def laid_math_bits_deBruijn32tab {H : Type} : DataW H := .agg [.lit (.int .u8 0), .lit (.int .u8 1), .lit (.int .u8 28), .lit (.int .u8 2), .lit (.int .u8 29), .lit (.int .u8 14), .lit (.int .u8 24), .lit (.int .u8 3), .lit (.int .u8 30), .lit (.int .u8 22), .lit (.int .u8 20), .lit (.int .u8 15), .lit (.int .u8 25), .lit (.int .u8 17), .lit (.int .u8 4), .lit (.int .u8 8), .lit (.int .u8 31), .lit (.int .u8 27), .lit (.int .u8 13), .lit (.int .u8 23), .lit (.int .u8 21), .lit (.int .u8 19), .lit (.int .u8 16), .lit (.int .u8 7), .lit (.int .u8 26), .lit (.int .u8 12), .lit (.int .u8 18), .lit (.int .u8 6), .lit (.int .u8 11), .lit (.int .u8 5), .lit (.int .u8 10), .lit (.int .u8 9)]
def laid_math_bits_deBruijn64tab {H : Type} : DataW H := .agg [.lit (.int .u8 0), .lit (.int .u8 1), .lit (.int .u8 56), .lit (.int .u8 2), .lit (.int .u8 57), .lit (.int .u8 49), .lit (.int .u8 28), .lit (.int .u8 3), .lit (.int .u8 61), .lit (.int .u8 58), .lit (.int .u8 42), .lit (.int .u8 50), .lit (.int .u8 38), .lit (.int .u8 29), .lit (.int .u8 17), .lit (.int .u8 4), .lit (.int .u8 62), .lit (.int .u8 47), .lit (.int .u8 59), .lit (.int .u8 36), .lit (.int .u8 45), .lit (.int .u8 43), .lit (.int .u8 51), .lit (.int .u8 22), .lit (.int .u8 53), .lit (.int .u8 39), .lit (.int .u8 33), .lit (.int .u8 30), .lit (.int .u8 24), .lit (.int .u8 18), .lit (.int .u8 12), .lit (.int .u8 5), .lit (.int .u8 63), .lit (.int .u8 55), .lit (.int .u8 48), .lit (.int .u8 27), .lit (.int .u8 60), .lit (.int .u8 41), .lit (.int .u8 37), .lit (.int .u8 16), .lit (.int .u8 46), .lit (.int .u8 35), .lit (.int .u8 44), .lit (.int .u8 21), .lit (.int .u8 52), .lit (.int .u8 32), .lit (.int .u8 23), .lit (.int .u8 11), .lit (.int .u8 54), .lit (.int .u8 26), .lit (.int .u8 40), .lit (.int .u8 15), .lit (.int .u8 34), .lit (.int .u8 20), .lit (.int .u8 31), .lit (.int .u8 10), .lit (.int .u8 25), .lit (.int .u8 14), .lit (.int .u8 19), .lit (.int .u8 9), .lit (.int .u8 13), .lit (.int .u8 8), .lit (.int .u8 7), .lit (.int .u8 6)]

/-- 'qloomlaw.RevCleans': WHATEVER THE INPUT: true; the input reads as it did. -/
def revCleansSpec : ChangeSpec := { name := "revCleans", fn := fun _ => fun
  | [d1, d2] => { results := [.lit (.bool true)], args := [d1, d2] }
  | _ => none }
def revCleansRow : OpenClaim := { program := "ytajegnlkgnecoaadoor", sum := "cb2796d0e2bc43efdaa33d99a88665d27b8a6abab35b1b85ce7c08d917cf58a0", func := "qloom/qloomlaw.RevCleans", spec := "revCleans", unfollowed := true, recurses := true, named := ["math/bits.deBruijn32tab", "math/bits.deBruijn64tab"], loops := true, apart := false, laid := [("math/bits.deBruijn32tab", laid_math_bits_deBruijn32tab), ("math/bits.deBruijn64tab", laid_math_bits_deBruijn64tab)] }
def RevCleansSaid : Prop := revCleansRow.holds Tryd.pinned (OpenSpec.ofChange revCleansSpec)

/-- ITS FALSE NEIGHBOUR: 'it returns false'. Refute it at one input. -/
def revCleansWrong : ChangeSpec := { name := "revCleans", fn := fun _ => fun
  | [d1, d2] => { results := [.lit (.bool false)], args := [d1, d2] }
  | _ => none }
def RevCleansWrongFalsely : Prop := revCleansRow.holds Tryd.pinned (OpenSpec.ofChange revCleansWrong)

/-- 'qloomlaw.RevTables': WHATEVER THE INPUT: true; the input reads as it did. -/
def revTablesSpec : ChangeSpec := { name := "revTables", fn := fun _ => fun
  | [d] => { results := [.lit (.bool true)], args := [d] }
  | _ => none }
def revTablesRow : OpenClaim := { program := "ytajegnlkgnecoaadoor", sum := "cb2796d0e2bc43efdaa33d99a88665d27b8a6abab35b1b85ce7c08d917cf58a0", func := "qloom/qloomlaw.RevTables", spec := "revTables", unfollowed := true, recurses := true, named := ["math/bits.deBruijn32tab", "math/bits.deBruijn64tab"], apart := false, laid := [("math/bits.deBruijn32tab", laid_math_bits_deBruijn32tab), ("math/bits.deBruijn64tab", laid_math_bits_deBruijn64tab)] }
def RevTablesSaid : Prop := revTablesRow.holds Tryd.pinned (OpenSpec.ofChange revTablesSpec)

/-- ITS FALSE NEIGHBOUR: 'it returns false'. Refute it at one input. -/
def revTablesWrong : ChangeSpec := { name := "revTables", fn := fun _ => fun
  | [d] => { results := [.lit (.bool false)], args := [d] }
  | _ => none }
def RevTablesWrongFalsely : Prop := revTablesRow.holds Tryd.pinned (OpenSpec.ofChange revTablesWrong)

/-- 'qloomlaw.RevNormals': WHATEVER THE INPUT: true; the input reads as it did. -/
def revNormalsSpec : ChangeSpec := { name := "revNormals", fn := fun _ => fun
  | [d1, d2, d3] => { results := [.lit (.bool true)], args := [d1, d2, d3] }
  | _ => none }
def revNormalsRow : OpenClaim := { program := "ytajegnlkgnecoaadoor", sum := "cb2796d0e2bc43efdaa33d99a88665d27b8a6abab35b1b85ce7c08d917cf58a0", func := "qloom/qloomlaw.RevNormals", spec := "revNormals", unfollowed := true, recurses := true, named := ["math/bits.deBruijn32tab", "math/bits.deBruijn64tab"], loops := true, apart := false, laid := [("math/bits.deBruijn32tab", laid_math_bits_deBruijn32tab), ("math/bits.deBruijn64tab", laid_math_bits_deBruijn64tab)] }
def RevNormalsSaid : Prop := revNormalsRow.holds Tryd.pinned (OpenSpec.ofChange revNormalsSpec)

/-- ITS FALSE NEIGHBOUR: 'it returns false'. Refute it at one input. -/
def revNormalsWrong : ChangeSpec := { name := "revNormals", fn := fun _ => fun
  | [d1, d2, d3] => { results := [.lit (.bool false)], args := [d1, d2, d3] }
  | _ => none }
def RevNormalsWrongFalsely : Prop := revNormalsRow.holds Tryd.pinned (OpenSpec.ofChange revNormalsWrong)

/-- 'qloomlaw.RevPlays': WHATEVER THE INPUT: true; the input reads as it did. -/
def revPlaysSpec : ChangeSpec := { name := "revPlays", fn := fun _ => fun
  | [d1, d2] => { results := [.lit (.bool true)], args := [d1, d2] }
  | _ => none }
def revPlaysRow : OpenClaim := { program := "ytajegnlkgnecoaadoor", sum := "cb2796d0e2bc43efdaa33d99a88665d27b8a6abab35b1b85ce7c08d917cf58a0", func := "qloom/qloomlaw.RevPlays", spec := "revPlays", unfollowed := true, recurses := true, named := ["math/bits.deBruijn32tab", "math/bits.deBruijn64tab"], apart := false, laid := [("math/bits.deBruijn32tab", laid_math_bits_deBruijn32tab), ("math/bits.deBruijn64tab", laid_math_bits_deBruijn64tab)] }
def RevPlaysSaid : Prop := revPlaysRow.holds Tryd.pinned (OpenSpec.ofChange revPlaysSpec)

/-- ITS FALSE NEIGHBOUR: 'it returns false'. Refute it at one input. -/
def revPlaysWrong : ChangeSpec := { name := "revPlays", fn := fun _ => fun
  | [d1, d2] => { results := [.lit (.bool false)], args := [d1, d2] }
  | _ => none }
def RevPlaysWrongFalsely : Prop := revPlaysRow.holds Tryd.pinned (OpenSpec.ofChange revPlaysWrong)

/-- 'qloomlaw.RevFlats': WHATEVER THE INPUT: true; the input reads as it did. -/
def revFlatsSpec : ChangeSpec := { name := "revFlats", fn := fun _ => fun
  | [d1, d2] => { results := [.lit (.bool true)], args := [d1, d2] }
  | _ => none }
def revFlatsRow : OpenClaim := { program := "ytajegnlkgnecoaadoor", sum := "cb2796d0e2bc43efdaa33d99a88665d27b8a6abab35b1b85ce7c08d917cf58a0", func := "qloom/qloomlaw.RevFlats", spec := "revFlats", unfollowed := true, recurses := true, named := ["math/bits.deBruijn32tab", "math/bits.deBruijn64tab"], loops := true, apart := false, laid := [("math/bits.deBruijn32tab", laid_math_bits_deBruijn32tab), ("math/bits.deBruijn64tab", laid_math_bits_deBruijn64tab)] }
def RevFlatsSaid : Prop := revFlatsRow.holds Tryd.pinned (OpenSpec.ofChange revFlatsSpec)

/-- ITS FALSE NEIGHBOUR: 'it returns false'. Refute it at one input. -/
def revFlatsWrong : ChangeSpec := { name := "revFlats", fn := fun _ => fun
  | [d1, d2] => { results := [.lit (.bool false)], args := [d1, d2] }
  | _ => none }
def RevFlatsWrongFalsely : Prop := revFlatsRow.holds Tryd.pinned (OpenSpec.ofChange revFlatsWrong)

/-- 'qloomlaw.RevAgrees': WHATEVER THE INPUT: true; the input reads as it did. -/
def revAgreesSpec : ChangeSpec := { name := "revAgrees", fn := fun _ => fun
  | [d1, d2, d3] => { results := [.lit (.bool true)], args := [d1, d2, d3] }
  | _ => none }
def revAgreesRow : OpenClaim := { program := "ytajegnlkgnecoaadoor", sum := "cb2796d0e2bc43efdaa33d99a88665d27b8a6abab35b1b85ce7c08d917cf58a0", func := "qloom/qloomlaw.RevAgrees", spec := "revAgrees", unfollowed := true, recurses := true, named := ["math/bits.deBruijn32tab", "math/bits.deBruijn64tab"], loops := true, apart := false, laid := [("math/bits.deBruijn32tab", laid_math_bits_deBruijn32tab), ("math/bits.deBruijn64tab", laid_math_bits_deBruijn64tab)] }
def RevAgreesSaid : Prop := revAgreesRow.holds Tryd.pinned (OpenSpec.ofChange revAgreesSpec)

/-- ITS FALSE NEIGHBOUR: 'it returns false'. Refute it at one input. -/
def revAgreesWrong : ChangeSpec := { name := "revAgrees", fn := fun _ => fun
  | [d1, d2, d3] => { results := [.lit (.bool false)], args := [d1, d2, d3] }
  | _ => none }
def RevAgreesWrongFalsely : Prop := revAgreesRow.holds Tryd.pinned (OpenSpec.ofChange revAgreesWrong)

/- THE SECOND FORM. 'bulk': how many values and letters a reading holds, each counted each time it is reached (what is shared counts as often as it is met; a slice's spare places count too). A statement '..UptoSaid' is the law's where the arguments, and the package variables that the reading takes, are together of bulk at most 1048576: NARROWER than '..Said'. Prove '..Said' where nothing that the law and all that it calls make is longer than what came in: it says more and counts as full. Else prove '..UptoSaid'. A law counts once. -/
mutual
def uptoBulk {H : Type} : DataW H → Nat
  | .lit (.string bytes) => bytes.length + 1
  | .lit _ => 1
  | .nil => 1
  | .ptr d => uptoBulk d + 1
  | .slice elems spare => uptoBulkAll elems + uptoBulkAll spare + 1
  | .agg parts => uptoBulkAll parts + 1
  | .iface _ d => uptoBulk d + 1
  | .map entries => uptoBulkEntries entries + 1
  | .held _ => 1
def uptoBulkAll {H : Type} : List (DataW H) → Nat
  | [] => 0
  | d :: r => uptoBulk d + uptoBulkAll r
def uptoBulkEntries {H : Type} : List (Lit × DataW H) → Nat
  | [] => 0
  | x :: r => uptoBulkEntry x + uptoBulkEntries r
def uptoBulkEntry {H : Type} : Lit × DataW H → Nat
  | (.string bytes, d) => bytes.length + uptoBulk d + 1
  | (_, d) => uptoBulk d + 1
 end
def uptoSmall : (H : Type) → List (DataW H) → Bool := fun _ ds => decide (uptoBulkAll ds ≤ 1048576)
def OpenSpec.upto (s : _root_.Go.ChangeSpec) : _root_.Go.OpenSpec := { _root_.Go.OpenSpec.ofChange s with cond := some uptoSmall }

/-- 'qloomlaw.RevCleans', WHERE WHAT IT READS IS OF BULK AT MOST 1048576: true; the input reads as it did. -/
def revCleansUptoRow : OpenClaim := { program := "ytajegnlkgnecoaadoor", sum := "cb2796d0e2bc43efdaa33d99a88665d27b8a6abab35b1b85ce7c08d917cf58a0", func := "qloom/qloomlaw.RevCleans", spec := "revCleans", unfollowed := true, recurses := true, named := ["math/bits.deBruijn32tab", "math/bits.deBruijn64tab"], loops := true, apart := false, laid := [("math/bits.deBruijn32tab", laid_math_bits_deBruijn32tab), ("math/bits.deBruijn64tab", laid_math_bits_deBruijn64tab)], narrowed := true }
def RevCleansUptoSaid : Prop := revCleansUptoRow.holds Tryd.pinned (OpenSpec.upto revCleansSpec)

/-- 'qloomlaw.RevTables', WHERE WHAT IT READS IS OF BULK AT MOST 1048576: true; the input reads as it did. -/
def revTablesUptoRow : OpenClaim := { program := "ytajegnlkgnecoaadoor", sum := "cb2796d0e2bc43efdaa33d99a88665d27b8a6abab35b1b85ce7c08d917cf58a0", func := "qloom/qloomlaw.RevTables", spec := "revTables", unfollowed := true, recurses := true, named := ["math/bits.deBruijn32tab", "math/bits.deBruijn64tab"], apart := false, laid := [("math/bits.deBruijn32tab", laid_math_bits_deBruijn32tab), ("math/bits.deBruijn64tab", laid_math_bits_deBruijn64tab)], narrowed := true }
def RevTablesUptoSaid : Prop := revTablesUptoRow.holds Tryd.pinned (OpenSpec.upto revTablesSpec)

/-- 'qloomlaw.RevNormals', WHERE WHAT IT READS IS OF BULK AT MOST 1048576: true; the input reads as it did. -/
def revNormalsUptoRow : OpenClaim := { program := "ytajegnlkgnecoaadoor", sum := "cb2796d0e2bc43efdaa33d99a88665d27b8a6abab35b1b85ce7c08d917cf58a0", func := "qloom/qloomlaw.RevNormals", spec := "revNormals", unfollowed := true, recurses := true, named := ["math/bits.deBruijn32tab", "math/bits.deBruijn64tab"], loops := true, apart := false, laid := [("math/bits.deBruijn32tab", laid_math_bits_deBruijn32tab), ("math/bits.deBruijn64tab", laid_math_bits_deBruijn64tab)], narrowed := true }
def RevNormalsUptoSaid : Prop := revNormalsUptoRow.holds Tryd.pinned (OpenSpec.upto revNormalsSpec)

/-- 'qloomlaw.RevPlays', WHERE WHAT IT READS IS OF BULK AT MOST 1048576: true; the input reads as it did. -/
def revPlaysUptoRow : OpenClaim := { program := "ytajegnlkgnecoaadoor", sum := "cb2796d0e2bc43efdaa33d99a88665d27b8a6abab35b1b85ce7c08d917cf58a0", func := "qloom/qloomlaw.RevPlays", spec := "revPlays", unfollowed := true, recurses := true, named := ["math/bits.deBruijn32tab", "math/bits.deBruijn64tab"], apart := false, laid := [("math/bits.deBruijn32tab", laid_math_bits_deBruijn32tab), ("math/bits.deBruijn64tab", laid_math_bits_deBruijn64tab)], narrowed := true }
def RevPlaysUptoSaid : Prop := revPlaysUptoRow.holds Tryd.pinned (OpenSpec.upto revPlaysSpec)

/-- 'qloomlaw.RevFlats', WHERE WHAT IT READS IS OF BULK AT MOST 1048576: true; the input reads as it did. -/
def revFlatsUptoRow : OpenClaim := { program := "ytajegnlkgnecoaadoor", sum := "cb2796d0e2bc43efdaa33d99a88665d27b8a6abab35b1b85ce7c08d917cf58a0", func := "qloom/qloomlaw.RevFlats", spec := "revFlats", unfollowed := true, recurses := true, named := ["math/bits.deBruijn32tab", "math/bits.deBruijn64tab"], loops := true, apart := false, laid := [("math/bits.deBruijn32tab", laid_math_bits_deBruijn32tab), ("math/bits.deBruijn64tab", laid_math_bits_deBruijn64tab)], narrowed := true }
def RevFlatsUptoSaid : Prop := revFlatsUptoRow.holds Tryd.pinned (OpenSpec.upto revFlatsSpec)

/-- 'qloomlaw.RevAgrees', WHERE WHAT IT READS IS OF BULK AT MOST 1048576: true; the input reads as it did. -/
def revAgreesUptoRow : OpenClaim := { program := "ytajegnlkgnecoaadoor", sum := "cb2796d0e2bc43efdaa33d99a88665d27b8a6abab35b1b85ce7c08d917cf58a0", func := "qloom/qloomlaw.RevAgrees", spec := "revAgrees", unfollowed := true, recurses := true, named := ["math/bits.deBruijn32tab", "math/bits.deBruijn64tab"], loops := true, apart := false, laid := [("math/bits.deBruijn32tab", laid_math_bits_deBruijn32tab), ("math/bits.deBruijn64tab", laid_math_bits_deBruijn64tab)], narrowed := true }
def RevAgreesUptoSaid : Prop := revAgreesUptoRow.holds Tryd.pinned (OpenSpec.upto revAgreesSpec)

end Rows
end Go.Proofs.YtajegnlkgnecoaaDoor
