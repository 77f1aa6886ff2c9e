/- Every error on fewer qubits than half of the distance is mended: for any code and error. No condition. -/
import Derived.Test.YtmoaeeemokdlgaaPa
import Derived.Test.YtmoaeeemokdlgaaRows
import Derived.Handy
import Derived.Lay
section
/- The row of 'CodeCorrects' from the plain law. -/
namespace Go.Proofs.Ytmoaeeemokdlgaa
open Go.ChangeShapes Go.WideShapes Go.ChangeAt Go.RowKit Go.WideMaps Go.WideElems Go.Ql
theorem corrects_own : ownKnob Try.prog.godebug = none := by kernel_rfl
set_option maxRecDepth 100000 in
theorem corrects_lifted (os : Os) (started : os.Started) (H : Type) (enc : TypeId × Value → H) :
    ReturnsInHanded {} Try.checked os 5 .any (Rows.codeCorrectsSpec.pre6 enc Try.prog Try.f5 Rows.codeCorrectsRow.domain false) (Rows.codeCorrectsSpec.post enc Try.prog Try.f5 false true false false) := by
  refine handed6 (C := Try.checked) corrects_own started (by kernel_rfl) Try.func5
    (ChangeSpec.witness6 (enc := enc) (C := Try.checked) false ⟨#[], #[.agg #[.int .i64 0, .slice none 0 0], .string ⟨#[]⟩], []⟩ 8 (by kernel_rfl) (by kernel_rfl) (by kernel_rfl) (by kernel_rfl)) ?_
  intro w0 base args ds gs before hval hW hsz
  refine contract_of (s := Rows.codeCorrectsSpec) W.Law_CodeCorrects.ok 20 (pts := #[24, 9]) Try.params5 (by kernel_rfl) (by kernel_rfl) (by kernel_rfl) rfl (tb := 4) rfl Try.underlying4 (corrects_wf) (fun ds hd => ?_) hval hW hsz trivial
  match ds, hd with
  | [d0, d1], _ => exact ⟨rfl, rfl, rfl⟩

theorem corrects_said : Rows.CodeCorrectsSaid :=
  OpenClaim.holds_of_wide 5 Try.f5 rfl rfl rfl rfl rfl rfl rfl ⟨rfl, rfl, rfl, rfl, rfl⟩ rfl rfl rfl rfl rfl (by kernel_rfl) Try.func5 (by kernel_rfl)
    (of_decide_eq_true (by kernel_rfl)) (by unfold Func.isWrapper; first | (rw [if_pos (by decide +kernel)]; kernel_rfl) | (rw [if_neg (by decide +kernel)]; exact ⟨rfl, rfl⟩))
    (fun os started H enc _ => corrects_lifted os started H enc)
end Go.Proofs.Ytmoaeeemokdlgaa
end
