/- Every Measurer of a code: its outcomes are the error's syndrome, and it leaves what was encoded. No condition. -/
import Derived.Test.YtjlbeiadpdgchaaPe
import Derived.Test.YtjlbeiadpdgchaaRows
import Derived.Handy
import Derived.Lay
set_option linter.all false
section
namespace Go.Proofs.Ytjlbeiadpdgchaa
open Go.ChangeShapes Go.WideShapes Go.ChangeAt Go.RowKit Go.WideMaps Go.WideElems Go.Ql
theorem measures_own:ownKnob Try.prog.godebug=none:=by kernel_rfl
set_option maxRecDepth 100000 in
theorem measures_lifted (os:Os) (started:os.Started) (H:Type) (enc:TypeId×Value→H) :
 ReturnsInHanded {} Try.checked os 7 .any (Rows.codeMeasuresSpec.pre6 enc Try.prog Try.f7 Rows.codeMeasuresRow.domain false) (Rows.codeMeasuresSpec.post enc Try.prog Try.f7 false true false false):=by
 refine handed6 (C:=Try.checked) measures_own started (by kernel_rfl) Try.func7
  (ChangeSpec.witness6 (enc:=enc) (C:=Try.checked) false ⟨#[],#[.agg #[.int .i64 0,.slice none 0 0],.string ⟨#[]⟩,.int .i64 0],[]⟩ 8 (by kernel_rfl) (by kernel_rfl) (by kernel_rfl) (by kernel_rfl)) ?_
 intro w0 base args ds gs before hval hW hsz
 refine contract_of (s:=Rows.codeMeasuresSpec) W.jc.ok 20 (pts:=#[59,9,3]) Try.params7 (by kernel_rfl) (by kernel_rfl) (by kernel_rfl) rfl (tb:=4) rfl Try.underlying4 (measures_wf) (fun ds hd=>?_) hval hW hsz trivial
 match ds,hd with
 | [d0,d1,d2],_=>exact ⟨rfl,rfl,rfl⟩
theorem measures_said:Rows.CodeMeasuresSaid:=
 OpenClaim.holds_of_wide 7 Try.f7 rfl rfl rfl rfl rfl rfl rfl ⟨rfl,rfl,rfl,rfl,rfl⟩ rfl rfl rfl rfl rfl (by kernel_rfl) Try.func7 (by kernel_rfl)
  (of_decide_eq_true (by kernel_rfl)) (by unfold Func.isWrapper;first | (rw [if_pos (by decide +kernel)];kernel_rfl) | (rw [if_neg (by decide +kernel)];exact ⟨rfl,rfl⟩))
  (fun os started H enc _=>measures_lifted os started H enc)
end Go.Proofs.Ytjlbeiadpdgchaa
end
