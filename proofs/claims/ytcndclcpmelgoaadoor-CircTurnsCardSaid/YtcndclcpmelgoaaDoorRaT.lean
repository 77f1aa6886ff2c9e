/- Every Inverse, Control and Move of a circuit is the one of the document; what is handed in stays. -/
import Derived.Test.YtcndclcpmelgoaaDoorPbT
import Derived.Test.YtcndclcpmelgoaaDoorWbT
import Derived.Test.YtcndclcpmelgoaaDoorTie
import Derived.Test.YtcndclcpmelgoaaDoorCards
import Derived.Handy
import Derived.Lay
set_option linter.all false
section
namespace Go.Proofs.YtcndclcpmelgoaaDoor
open Go.ChangeShapes Go.WideShapes Go.ChangeAt Go.RowKit Go.WideMaps Go.WideElems Go.Ql
theorem turns_own:ownKnob Tryd.prog.godebug=none:=by kernel_rfl
set_option maxRecDepth 100000 in
theorem turns_lifted (os:Os) (started:os.Started) (H:Type) (enc:TypeId×Value→H) :
 ReturnsInHanded {} Tryd.checked os 5 .any (fun w args=>(Rows.circTurnsSpec.pre enc Tryd.prog Tryd.f5 [] false w args∧laidMetH Tryd.prog Rows.circTurnsRow.laid w)∧sizedMet enc Tryd.prog Tryd.f5 (OpenSpec.ofChange Rows.circTurnsSpec) false w args)
  (Rows.circTurnsSpec.post enc Tryd.prog Tryd.f5 false true false false):=by
 refine returnsInHanded_of_change_and (C:=Tryd.checked) (X:=fun w _=>laidMetH Tryd.prog Rows.circTurnsRow.laid w) (fun _ _ _ hh h=>h.of_heap hh) turns_own started (by kernel_rfl) Tryd.func5
  (ChangeSpec.witness_shaped (enc:=enc) (C:=Tryd.checked) (os:=os) (X:=fun w _=>laidMetH Tryd.prog Rows.circTurnsRow.laid w) false (World.laidAll Tryd.prog os Rows.circTurnsRow.laid) #[.agg #[.int .i64 0,.int .i64 0,.slice none 0 0],.int .i64 0,.slice none 0 0,.int .i64 0] 8 (World.laidAll_os _ _ _)
   (World.shaped_of_ZipB (by kernel_rfl) (by kernel_rfl)) (by kernel_rfl) (by kernel_rfl) (by kernel_rfl)
   (by rw [MakeChecks.laidMetH_plain _ _ _ (by kernel_rfl)];exact laidMet_laidAll _ (by kernel_rfl) (by kernel_rfl))) ?_
 intro w0 base args ds gs before hval hW _ hsz hL _
 refine contract_of (s:=Rows.circTurnsSpec) W.jA.ok 20 (pts:=#[24,3,40,3]) Tryd.params5 (by kernel_rfl) (by kernel_rfl) (by kernel_rfl) rfl (tb:=4) rfl Tryd.underlying4 (turns_all) (fun ds hd => ?_) hval hW hsz trivial
 match ds,hd with
 | [d0,d1,d2,d3],_=>exact ⟨rfl,rfl,rfl⟩
theorem turns_row:Rows.CircTurnsSaid:=
 OpenClaim.holds_of_wide 5 Tryd.f5 rfl rfl rfl rfl rfl rfl rfl ⟨rfl,rfl,rfl,rfl,rfl⟩ rfl rfl rfl rfl rfl (by kernel_rfl) Tryd.func5 (by kernel_rfl)
  (of_decide_eq_true (by kernel_rfl)) (by unfold Func.isWrapper;first | (rw [if_pos (by decide +kernel)];kernel_rfl) | (rw [if_neg (by decide +kernel)];exact ⟨rfl,rfl⟩))
  (fun os started H enc _=>turns_lifted os started H enc)
theorem turns_said:Rows.CircTurnsCardSaid:=
 Claim7.holds_tied_plain_at .later [] [.data, .data, .data] true (true, "38d63e3d3acf8fde3fa62c8bbd423b3e51399817410da1e3f505cc104572368a") false turns_row (fun _ h => by cases h) (by kernel_rfl) (fun _ h => by cases h) circTurns_row_tie rfl ⟨rfl, rfl⟩ (by kernel_rfl) rfl
  (fun f fn hf hfn=>by
   obtain rfl : f = 5 := Option.some.inj ((show Tryd.prog.funcNamed "qloom/qloomlaw.CircTurns" = some 5 by kernel_rfl).symm.trans hf) |>.symm
   obtain rfl:fn=Tryd.f5:=(Option.some.inj (Tryd.func5.symm.trans hfn)).symm
   exact ⟨by kernel_rfl,fun j t ht=>by
    rw [Tryd.params5] at ht
    have hm:t∈[24,3,40,3]:=by simpa using Array.mem_of_getElem? ht
    have hall:([24,3,40,3].all fun u => !Tryd.prog.wantsStandIn u)=true:=by kernel_rfl
    exact (show Tryd.prog.wantsStandIn t=false by simpa using List.all_eq_true.1 hall t hm)⟩)
  (by kernel_rfl)
end Go.Proofs.YtcndclcpmelgoaaDoor
end
