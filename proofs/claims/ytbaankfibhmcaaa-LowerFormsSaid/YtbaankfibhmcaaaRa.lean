/- Every Base: for any circuit. No condition. -/
import Derived.Test.YtbaankfibhmcaaaPa
import Derived.Test.YtbaankfibhmcaaaRows
import Derived.Handy
import Derived.Lay
section
/- The row of 'LowerForms' from the plain law. -/
namespace Go.Proofs.Ytbaankfibhmcaaa
open Go.ChangeShapes Go.WideShapes Go.ChangeAt Go.RowKit Go.WideMaps Go.WideElems Go.Ql
theorem forms_own : ownKnob Try.prog.godebug = none := by kernel_rfl
set_option maxRecDepth 100000 in
theorem forms_lifted (os : Os) (started : os.Started) (H : Type) (enc : TypeId × Value → H) :
    ReturnsInHanded {} Try.checked os 3 .any (Rows.lowerFormsSpec.pre6 enc Try.prog Try.f3 Rows.lowerFormsRow.domain false) (Rows.lowerFormsSpec.post enc Try.prog Try.f3 false true false false) := by
  refine handed6 (C := Try.checked) forms_own started (by kernel_rfl) Try.func3
    (ChangeSpec.witness6 (enc := enc) (C := Try.checked) false ⟨#[], #[.agg #[.int .i64 0, .int .i64 0, .slice none 0 0]], []⟩ 8 (by kernel_rfl) (by kernel_rfl) (by kernel_rfl) (by kernel_rfl)) ?_
  intro w0 base args ds gs before hval hW hsz
  refine contract_of (s := Rows.lowerFormsSpec) W.Law_LowerForms.ok 20 (pts := #[24]) Try.params3 (by kernel_rfl) (by kernel_rfl) (by kernel_rfl) rfl (tb := 4) rfl Try.underlying4 (forms_wf) (fun ds hd => ?_) hval hW hsz trivial
  match ds, hd with
  | [d0], _ => exact ⟨rfl, rfl, rfl⟩

theorem forms_said : Rows.LowerFormsSaid :=
  OpenClaim.holds_of_wide 3 Try.f3 rfl rfl rfl rfl rfl rfl rfl ⟨rfl, rfl, rfl, rfl, rfl⟩ rfl rfl rfl rfl rfl (by kernel_rfl) Try.func3 (by kernel_rfl)
    (of_decide_eq_true (by kernel_rfl)) (by unfold Func.isWrapper; first | (rw [if_pos (by decide +kernel)]; kernel_rfl) | (rw [if_neg (by decide +kernel)]; exact ⟨rfl, rfl⟩))
    (fun os started H enc _ => forms_lifted os started H enc)
end Go.Proofs.Ytbaankfibhmcaaa
end
