/- What a call answers belongs to its caller: marks on it change nothing elsewhere. -/
import Derived.Test.YtcndclcpmelgoaaDoorPbO
import Derived.Test.YtcndclcpmelgoaaDoorWcO
import Derived.Test.YtcndclcpmelgoaaDoorTie
import Derived.Test.YtcndclcpmelgoaaDoorCards
import Derived.Handy
import Derived.Lay
set_option linter.all false
section
namespace Go.Proofs.YtcndclcpmelgoaaDoor
open Go.ChangeShapes Go.WideShapes Go.ChangeAt Go.RowKit Go.WideMaps Go.WideElems Go.Ql
theorem owns_own:ownKnob Tryd.prog.godebug=none:=by kernel_rfl
set_option maxRecDepth 100000 in
theorem owns_lifted (os:Os) (started:os.Started) (H:Type) (enc:TypeId×Value→H) :
 ReturnsInHanded {} Tryd.checked os 6 .any (fun w args=>(Rows.circOwnsSpec.pre enc Tryd.prog Tryd.f6 [] false w args∧laidMetH Tryd.prog Rows.circOwnsRow.laid w)∧sizedMet enc Tryd.prog Tryd.f6 (OpenSpec.ofChange Rows.circOwnsSpec) false w args)
  (Rows.circOwnsSpec.post enc Tryd.prog Tryd.f6 false true false false):=by
 refine returnsInHanded_of_change_and (C:=Tryd.checked) (X:=fun w _=>laidMetH Tryd.prog Rows.circOwnsRow.laid w) (fun _ _ _ hh h=>h.of_heap hh) owns_own started (by kernel_rfl) Tryd.func6
  (ChangeSpec.witness_shaped (enc:=enc) (C:=Tryd.checked) (os:=os) (X:=fun w _=>laidMetH Tryd.prog Rows.circOwnsRow.laid w) false (World.laidAll Tryd.prog os Rows.circOwnsRow.laid) #[.agg #[.int .i64 0,.int .i64 0,.slice none 0 0],.slice none 0 0,.int .i64 0] 8 (World.laidAll_os _ _ _)
   (World.shaped_of_ZipB (by kernel_rfl) (by kernel_rfl)) (by kernel_rfl) (by kernel_rfl) (by kernel_rfl)
   (by rw [MakeChecks.laidMetH_plain _ _ _ (by kernel_rfl)];exact laidMet_laidAll _ (by kernel_rfl) (by kernel_rfl))) ?_
 intro w0 base args ds gs before hval hW _ hsz hL _
 refine contract_of (s:=Rows.circOwnsSpec) W.jm.ok 20 (pts:=#[24,40,3]) Tryd.params6 (by kernel_rfl) (by kernel_rfl) (by kernel_rfl) rfl (tb:=4) rfl Tryd.underlying4 (owns_all) (fun ds hd => ?_) hval hW hsz trivial
 match ds,hd with
 | [d0,d1,d2],_=>exact ⟨rfl,rfl,rfl⟩
theorem owns_row:Rows.CircOwnsSaid:=
 OpenClaim.holds_of_wide 6 Tryd.f6 rfl rfl rfl rfl rfl rfl rfl ⟨rfl,rfl,rfl,rfl,rfl⟩ rfl rfl rfl rfl rfl (by kernel_rfl) Tryd.func6 (by kernel_rfl)
  (of_decide_eq_true (by kernel_rfl)) (by unfold Func.isWrapper;first | (rw [if_pos (by decide +kernel)];kernel_rfl) | (rw [if_neg (by decide +kernel)];exact ⟨rfl,rfl⟩))
  (fun os started H enc _=>owns_lifted os started H enc)
theorem owns_said:Rows.CircOwnsCardSaid:=
 Claim7.holds_tied_plain_at .later [] [.data, .data, .data] true (true, "38d63e3d3acf8fde3fa62c8bbd423b3e51399817410da1e3f505cc104572368a") false owns_row (fun _ h => by cases h) (by kernel_rfl) (fun _ h => by cases h) circOwns_row_tie rfl ⟨rfl, rfl⟩ (by kernel_rfl) rfl
  (fun f fn hf hfn=>by
   obtain rfl : f = 6 := Option.some.inj ((show Tryd.prog.funcNamed "qloom/qloomlaw.CircOwns" = some 6 by kernel_rfl).symm.trans hf) |>.symm
   obtain rfl:fn=Tryd.f6:=(Option.some.inj (Tryd.func6.symm.trans hfn)).symm
   exact ⟨by kernel_rfl,fun j t ht=>by
    rw [Tryd.params6] at ht
    have hm:t∈[24,40,3]:=by simpa using Array.mem_of_getElem? ht
    have hall:([24,40,3].all fun u => !Tryd.prog.wantsStandIn u)=true:=by kernel_rfl
    exact (show Tryd.prog.wantsStandIn t=false by simpa using List.all_eq_true.1 hall t hm)⟩)
  (by kernel_rfl)
end Go.Proofs.YtcndclcpmelgoaaDoor
end
