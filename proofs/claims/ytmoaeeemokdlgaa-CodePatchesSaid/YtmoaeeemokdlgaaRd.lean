/- Every Patch: its code, whose distance is the lesser of rows and columns: for any rows and columns. No condition. -/
import Derived.Test.YtmoaeeemokdlgaaPb
import Derived.Test.YtmoaeeemokdlgaaRows
import Derived.Handy
import Derived.Lay
section
/- The row of 'CodePatches' from the plain law. -/
namespace Go.Proofs.Ytmoaeeemokdlgaa
open Go.ChangeShapes Go.WideShapes Go.ChangeAt Go.RowKit Go.WideMaps Go.WideElems Go.Ql
theorem patches_own : ownKnob Try.prog.godebug = none := by kernel_rfl
set_option maxRecDepth 100000 in
theorem patches_lifted (os : Os) (started : os.Started) (H : Type) (enc : TypeId × Value → H) :
    ReturnsInHanded {} Try.checked os 6 .any (Rows.codePatchesSpec.pre6 enc Try.prog Try.f6 Rows.codePatchesRow.domain false) (Rows.codePatchesSpec.post enc Try.prog Try.f6 false true false false) := by
  refine handed6 (C := Try.checked) patches_own started (by kernel_rfl) Try.func6
    (ChangeSpec.witness6 (enc := enc) (C := Try.checked) false ⟨#[], #[.int .i64 0, .int .i64 0], []⟩ 8 (by kernel_rfl) (by kernel_rfl) (by kernel_rfl) (by kernel_rfl)) ?_
  intro w0 base args ds gs before hval hW hsz
  refine contract_of (s := Rows.codePatchesSpec) W.Law_CodePatches.ok 20 (pts := #[3, 3]) Try.params6 (by kernel_rfl) (by kernel_rfl) (by kernel_rfl) rfl (tb := 4) rfl Try.underlying4 (patches_wf) (fun ds hd => ?_) hval hW hsz trivial
  match ds, hd with
  | [d0, d1], _ => exact ⟨rfl, rfl, rfl⟩

theorem patches_said : Rows.CodePatchesSaid :=
  OpenClaim.holds_of_wide 6 Try.f6 rfl rfl rfl rfl rfl rfl rfl ⟨rfl, rfl, rfl, rfl, rfl⟩ rfl rfl rfl rfl rfl (by kernel_rfl) Try.func6 (by kernel_rfl)
    (of_decide_eq_true (by kernel_rfl)) (by unfold Func.isWrapper; first | (rw [if_pos (by decide +kernel)]; kernel_rfl) | (rw [if_neg (by decide +kernel)]; exact ⟨rfl, rfl⟩))
    (fun os started H enc _ => patches_lifted os started H enc)
end Go.Proofs.Ytmoaeeemokdlgaa
end
