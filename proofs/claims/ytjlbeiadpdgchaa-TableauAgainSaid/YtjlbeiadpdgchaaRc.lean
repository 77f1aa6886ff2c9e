/- Every Again: a circuit's stabilizer operations made anew do the same but for a turn of the whole. No condition. -/
import Derived.Test.YtjlbeiadpdgchaaPe
import Derived.Test.YtjlbeiadpdgchaaRows
import Derived.Handy
import Derived.Lay
set_option linter.all false
section
namespace Go.Proofs.Ytjlbeiadpdgchaa
open Go.ChangeShapes Go.WideShapes Go.ChangeAt Go.RowKit Go.WideMaps Go.WideElems Go.Ql
theorem again_own:ownKnob Try.prog.godebug=none:=by kernel_rfl
set_option maxRecDepth 100000 in
theorem again_lifted (os:Os) (started:os.Started) (H:Type) (enc:TypeId×Value→H) :
  ReturnsInHanded {} Try.checked os 5 .any (Rows.tableauAgainSpec.pre6 enc Try.prog Try.f5 Rows.tableauAgainRow.domain false) (Rows.tableauAgainSpec.post enc Try.prog Try.f5 false true false false):=by
 refine handed6 (C:=Try.checked) again_own started (by kernel_rfl) Try.func5
  (ChangeSpec.witness6 (enc:=enc) (C:=Try.checked) false ⟨#[],#[.agg #[.int .i64 0,.int .i64 0,.slice none 0 0]],[]⟩ 8 (by kernel_rfl) (by kernel_rfl) (by kernel_rfl) (by kernel_rfl)) ?_
 intro w0 base args ds gs before hval hW hsz
 refine contract_of (s:=Rows.tableauAgainSpec) W.jd.ok 20 (pts:=#[24]) Try.params5 (by kernel_rfl) (by kernel_rfl) (by kernel_rfl) rfl (tb:=4) rfl Try.underlying4 (again_wf) (fun ds hd => ?_) hval hW hsz trivial
 match ds,hd with
 | [d0],_=>exact ⟨rfl,rfl,rfl⟩
theorem again_said:Rows.TableauAgainSaid:=
 OpenClaim.holds_of_wide 5 Try.f5 rfl rfl rfl rfl rfl rfl rfl ⟨rfl,rfl,rfl,rfl,rfl⟩ rfl rfl rfl rfl rfl (by kernel_rfl) Try.func5 (by kernel_rfl)
  (of_decide_eq_true (by kernel_rfl)) (by unfold Func.isWrapper;first | (rw [if_pos (by decide +kernel)];kernel_rfl) | (rw [if_neg (by decide +kernel)];exact ⟨rfl,rfl⟩))
  (fun os started H enc _=>again_lifted os started H enc)
end Go.Proofs.Ytjlbeiadpdgchaa
end
