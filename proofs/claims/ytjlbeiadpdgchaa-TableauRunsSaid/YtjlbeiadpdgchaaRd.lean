/- Every Run of a circuit of stabilizer operations over a table: its faults, bits, and the stabilizers in their one form. No condition. -/
import Derived.Test.YtjlbeiadpdgchaaPe
import Derived.Test.YtjlbeiadpdgchaaRows
import Derived.Handy
import Derived.Lay
set_option linter.all false
section
namespace Go.Proofs.Ytjlbeiadpdgchaa
open Go.ChangeShapes Go.WideShapes Go.ChangeAt Go.RowKit Go.WideMaps Go.WideElems Go.Ql
theorem runs_own:ownKnob Try.prog.godebug=none:=by kernel_rfl
set_option maxRecDepth 100000 in
theorem runs_lifted (os:Os) (started:os.Started) (H:Type) (enc:TypeId×Value→H) :
 ReturnsInHanded {} Try.checked os 3 .any (Rows.tableauRunsSpec.pre6 enc Try.prog Try.f3 Rows.tableauRunsRow.domain false) (Rows.tableauRunsSpec.post enc Try.prog Try.f3 false true false false):=by
 refine handed6 (C:=Try.checked) runs_own started (by kernel_rfl) Try.func3
  (ChangeSpec.witness6 (enc:=enc) (C:=Try.checked) false ⟨#[],#[.agg #[.int .i64 0,.int .i64 0,.slice none 0 0],.int .i64 0,.slice none 0 0],[]⟩ 8 (by kernel_rfl) (by kernel_rfl) (by kernel_rfl) (by kernel_rfl)) ?_
 intro w0 base args ds gs before hval hW hsz
 refine contract_of (s:=Rows.tableauRunsSpec) W.jh.ok 20 (pts:=#[24,3,25]) Try.params3 (by kernel_rfl) (by kernel_rfl) (by kernel_rfl) rfl (tb:=4) rfl Try.underlying4 (runs_wf) (fun ds hd => ?_) hval hW hsz trivial
 match ds,hd with
 | [d0,d1,d2],_=>exact ⟨rfl,rfl,rfl⟩
theorem runs_said:Rows.TableauRunsSaid:=
 OpenClaim.holds_of_wide 3 Try.f3 rfl rfl rfl rfl rfl rfl rfl ⟨rfl,rfl,rfl,rfl,rfl⟩ rfl rfl rfl rfl rfl (by kernel_rfl) Try.func3 (by kernel_rfl)
  (of_decide_eq_true (by kernel_rfl)) (by unfold Func.isWrapper;first | (rw [if_pos (by decide +kernel)];kernel_rfl) | (rw [if_neg (by decide +kernel)];exact ⟨rfl,rfl⟩))
  (fun os started H enc _=>runs_lifted os started H enc)
end Go.Proofs.Ytjlbeiadpdgchaa
end
