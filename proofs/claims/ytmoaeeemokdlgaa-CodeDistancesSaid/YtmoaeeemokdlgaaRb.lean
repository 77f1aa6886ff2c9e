/- Every Distance and Decode of at most five qubits whole: for any code and syndrome. No condition. -/
import Derived.Test.YtmoaeeemokdlgaaPa
import Derived.Test.YtmoaeeemokdlgaaRows
import Derived.Handy
import Derived.Lay
section
/- The row of 'CodeDistances' from the plain law. -/
namespace Go.Proofs.Ytmoaeeemokdlgaa
open Go.ChangeShapes Go.WideShapes Go.ChangeAt Go.RowKit Go.WideMaps Go.WideElems Go.Ql
theorem distances_own : ownKnob Try.prog.godebug = none := by kernel_rfl
set_option maxRecDepth 100000 in
theorem distances_lifted (os : Os) (started : os.Started) (H : Type) (enc : TypeId × Value → H) :
    ReturnsInHanded {} Try.checked os 4 .any (Rows.codeDistancesSpec.pre6 enc Try.prog Try.f4 Rows.codeDistancesRow.domain false) (Rows.codeDistancesSpec.post enc Try.prog Try.f4 false true false false) := by
  refine handed6 (C := Try.checked) distances_own started (by kernel_rfl) Try.func4
    (ChangeSpec.witness6 (enc := enc) (C := Try.checked) false ⟨#[], #[.agg #[.int .i64 0, .slice none 0 0], .slice none 0 0], []⟩ 8 (by kernel_rfl) (by kernel_rfl) (by kernel_rfl) (by kernel_rfl)) ?_
  intro w0 base args ds gs before hval hW hsz
  refine contract_of (s := Rows.codeDistancesSpec) W.Law_CodeDistances.ok 20 (pts := #[24, 31]) Try.params4 (by kernel_rfl) (by kernel_rfl) (by kernel_rfl) rfl (tb := 4) rfl Try.underlying4 (distances_wf) (fun ds hd => ?_) hval hW hsz trivial
  match ds, hd with
  | [d0, d1], _ => exact ⟨rfl, rfl, rfl⟩

theorem distances_said : Rows.CodeDistancesSaid :=
  OpenClaim.holds_of_wide 4 Try.f4 rfl rfl rfl rfl rfl rfl rfl ⟨rfl, rfl, rfl, rfl, rfl⟩ rfl rfl rfl rfl rfl (by kernel_rfl) Try.func4 (by kernel_rfl)
    (of_decide_eq_true (by kernel_rfl)) (by unfold Func.isWrapper; first | (rw [if_pos (by decide +kernel)]; kernel_rfl) | (rw [if_neg (by decide +kernel)]; exact ⟨rfl, rfl⟩))
    (fun os started H enc _ => distances_lifted os started H enc)
end Go.Proofs.Ytmoaeeemokdlgaa
end
