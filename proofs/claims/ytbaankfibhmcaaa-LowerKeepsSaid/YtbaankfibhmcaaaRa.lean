/- Every Base does what the circuit does: for any circuit, input and tape. No condition. -/
import Derived.Test.YtbaankfibhmcaaaPc
import Derived.Test.YtbaankfibhmcaaaRows
import Derived.Handy
import Derived.Lay
section
namespace Go.Proofs.Ytbaankfibhmcaaa
open Go.ChangeShapes Go.WideShapes Go.ChangeAt Go.RowKit Go.WideMaps Go.WideElems Go.Ql
theorem keeps_own : ownKnob Try.prog.godebug = none := by kernel_rfl
set_option maxRecDepth 100000 in
theorem keeps_lifted (os : Os) (started : os.Started) (H : Type) (enc : TypeId × Value → H) :
    ReturnsInHanded {} Try.checked os 4 .any (Rows.lowerKeepsSpec.pre6 enc Try.prog Try.f4 Rows.lowerKeepsRow.domain false) (Rows.lowerKeepsSpec.post enc Try.prog Try.f4 false true false false) := by
  refine handed6 (C := Try.checked) keeps_own started (by kernel_rfl) Try.func4
    (ChangeSpec.witness6 (enc := enc) (C := Try.checked) false ⟨#[], #[.agg #[.int .i64 0, .int .i64 0, .slice none 0 0], .int .i64 0, .slice none 0 0], []⟩ 8 (by kernel_rfl) (by kernel_rfl) (by kernel_rfl) (by kernel_rfl)) ?_
  intro w0 base args ds gs before hval hW hsz
  refine contract_of (s := Rows.lowerKeepsSpec) W.Law_LowerKeeps.ok 20 (pts := #[24, 3, 35]) Try.params4 (by kernel_rfl) (by kernel_rfl) (by kernel_rfl) rfl (tb := 4) rfl Try.underlying4 (keeps_wf) (fun ds hd => ?_) hval hW hsz trivial
  match ds, hd with
  | [d0, d1, d2], _ => exact ⟨rfl, rfl, rfl⟩

theorem keeps_said : Rows.LowerKeepsSaid :=
  OpenClaim.holds_of_wide 4 Try.f4 rfl rfl rfl rfl rfl rfl rfl ⟨rfl, rfl, rfl, rfl, rfl⟩ rfl rfl rfl rfl rfl (by kernel_rfl) Try.func4 (by kernel_rfl)
    (of_decide_eq_true (by kernel_rfl)) (by unfold Func.isWrapper; first | (rw [if_pos (by decide +kernel)]; kernel_rfl) | (rw [if_neg (by decide +kernel)]; exact ⟨rfl, rfl⟩))
    (fun os started H enc _ => keeps_lifted os started H enc)
end Go.Proofs.Ytbaankfibhmcaaa
end
