/- Every Fails of a code: its faults, and the chance that what is decoded leaves something behind. No condition. -/
import Derived.Test.YtaoipmnlocbaoaaGreatPd
import Derived.Test.YtaoipmnlocbaoaaGreatRows
import Derived.Handy
import Derived.Lay
set_option linter.all false
section
namespace Go.Proofs.YtaoipmnlocbaoaaGreat
open Go.ChangeShapes Go.WideShapes Go.ChangeAt Go.RowKit Go.WideMaps Go.WideElems Go.Ql
theorem fails_own:ownKnob Tryz.prog.godebug=none:=by kernel_rfl
set_option maxRecDepth 100000 in
theorem fails_lifted (os:Os) (started:os.Started) (H:Type) (enc:TypeId×Value→H) :
 ReturnsInHanded {} Tryz.checked os 3 .any (Rows.codeFailsSpec.pre6 enc Tryz.prog Tryz.f3 Rows.codeFailsRow.domain false) (Rows.codeFailsSpec.post enc Tryz.prog Tryz.f3 false true false false):=by
 refine handed6 (C:=Tryz.checked) fails_own started (by kernel_rfl) Tryz.func3
  (ChangeSpec.witness6 (enc:=enc) (C:=Tryz.checked) false ⟨#[],#[.agg #[.int .i64 0,.slice none 0 0],.string ⟨#[]⟩],[]⟩ 8 (by kernel_rfl) (by kernel_rfl) (by kernel_rfl) (by kernel_rfl)) ?_
 intro w0 base args ds gs before hval hW hsz
 refine contract_of (s:=Rows.codeFailsSpec) W.jg.ok 20 (pts:=#[24,9]) Tryz.params3 (by kernel_rfl) (by kernel_rfl) (by kernel_rfl) rfl (tb:=4) rfl Tryz.underlying4 (fails_wf) (fun ds hd=>?_) hval hW hsz trivial
 match ds,hd with
 | [d0,d1],_=>exact ⟨rfl,rfl,rfl⟩
theorem fails_said:Rows.CodeFailsSaid:=
 OpenClaim.holds_of_wide 3 Tryz.f3 rfl rfl rfl rfl rfl rfl rfl ⟨rfl,rfl,rfl,rfl,rfl⟩ rfl rfl rfl rfl rfl (by kernel_rfl) Tryz.func3 (by kernel_rfl)
  (of_decide_eq_true (by kernel_rfl)) (by unfold Func.isWrapper;first | (rw [if_pos (by decide +kernel)];kernel_rfl) | (rw [if_neg (by decide +kernel)];exact ⟨rfl,rfl⟩))
  (fun os started H enc _=>fails_lifted os started H enc)
end Go.Proofs.YtaoipmnlocbaoaaGreat
end
