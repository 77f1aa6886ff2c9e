/- Every text is read as the document says. -/
import Derived.Test.YtdocfkidnnalnaaGreatDoorPc
import Derived.Test.YtdocfkidnnalnaaGreatDoorGa
import Derived.Test.YtdocfkidnnalnaaGreatDoorTie
import Derived.Test.YtdocfkidnnalnaaGreatDoorCards
import Derived.Handy
import Derived.Lay
set_option linter.all false
section
namespace Go.Proofs.YtdocfkidnnalnaaGreatDoor
open Go.ChangeShapes Go.WideShapes Go.ChangeAt Go.RowKit Go.WideMaps Go.WideElems Go.Ql
set_option maxRecDepth 100000 in
theorem of_laid {W:World} (h:laidMetH Tryz.prog Rows.tongueReadsRow.laid W):PowAt W:=by
 rw [MakeChecks.laidMetH_plain _ _ _ (by kernel_rfl)] at h
 exact tabIs_of_mem (g:=1) (t:=140) (e:=113) (n:=20) (by kernel_rfl) (by kernel_rfl) (by kernel_rfl) (by kernel_rfl) (by kernel_rfl) (by kernel_rfl) h
  (by rw [show (Lib.tabData .u64 Lib.pow10Tab:DataW Unit)=Rows.laid_internal_strconv_uint64pow10 by kernel_rfl];simp [Rows.tongueReadsRow])
theorem reads_own:ownKnob Tryz.prog.godebug=none:=by kernel_rfl
set_option maxRecDepth 100000 in
theorem reads_lifted (os:Os) (started:os.Started) (H:Type) (enc:TypeId×Value→H) :
 ReturnsInHanded {} Tryz.checked os 3 .any (fun w args=>(Rows.tongueReadsSpec.pre enc Tryz.prog Tryz.f3 [] false w args∧laidMetH Tryz.prog Rows.tongueReadsRow.laid w)∧sizedMet enc Tryz.prog Tryz.f3 (OpenSpec.ofChange Rows.tongueReadsSpec) false w args)
  (Rows.tongueReadsSpec.post enc Tryz.prog Tryz.f3 false true false false):=by
 refine returnsInHanded_of_change_and (C:=Tryz.checked) (X:=fun w _=>laidMetH Tryz.prog Rows.tongueReadsRow.laid w) (fun _ _ _ hh h=>h.of_heap hh) reads_own started (by kernel_rfl) Tryz.func3
  (ChangeSpec.witness_shaped (enc:=enc) (C:=Tryz.checked) (os:=os) (X:=fun w _=>laidMetH Tryz.prog Rows.tongueReadsRow.laid w) false (World.laidAll Tryz.prog os Rows.tongueReadsRow.laid) #[.string ⟨#[]⟩] 8 (World.laidAll_os _ _ _)
   (World.shaped_of_ZipB (by kernel_rfl) (by kernel_rfl)) (by kernel_rfl) (by kernel_rfl) (by kernel_rfl)
   (by rw [MakeChecks.laidMetH_plain _ _ _ (by kernel_rfl)];exact laidMet_laidAll _ (by kernel_rfl) (by kernel_rfl))) ?_
 intro w0 base args ds gs before hval hW _ hsz hL _
 refine contract_of (s:=Rows.tongueReadsSpec) W.kq.ok 20 (pts:=#[9]) Tryz.params3 (by kernel_rfl) (by kernel_rfl) (by kernel_rfl) rfl (tb:=4) rfl Tryz.underlying4 ((fun x _=>W.reads_law x)) (fun ds hd=>?_) hval hW hsz (of_laid hL)
 match ds,hd with
 | [d0],_=>exact ⟨rfl,rfl,rfl⟩
theorem reads_row:Rows.TongueReadsSaid:=
 OpenClaim.holds_of_wide 3 Tryz.f3 rfl rfl rfl rfl rfl rfl rfl ⟨rfl,rfl,rfl,rfl,rfl⟩ rfl rfl rfl rfl rfl (by kernel_rfl) Tryz.func3 (by kernel_rfl)
  (zt (by kernel_rfl)) (by unfold Func.isWrapper;first | (rw [if_pos (by decide +kernel)];kernel_rfl) | (rw [if_neg (by decide +kernel)];exact ⟨rfl,rfl⟩))
  (fun os started H enc _=>reads_lifted os started H enc)
theorem reads_said:Rows.TongueReadsCardSaid:=
 Claim7.holds_tied_plain_at .later [] [.data, .data, .data, .sentinel, .sentinel] true (true, "353fc4e4d382ec1c126cca74f5fc01137dcc707e8fea69162b4cee7fe8d78810") true reads_row (fun _ h => by cases h) (by kernel_rfl) (fun _ h => by cases h) tongueReads_row_tie rfl ⟨rfl, rfl⟩ (by kernel_rfl) rfl
  (fun f fn hf hfn=>by
   obtain rfl : f = 3 := Option.some.inj ((show Tryz.prog.funcNamed "qloom/qloomlaw.TongueReads" = some 3 by kernel_rfl).symm.trans hf) |>.symm
   obtain rfl:fn=Tryz.f3:=(Option.some.inj (Tryz.func3.symm.trans hfn)).symm
   exact ⟨by kernel_rfl,fun j t ht=>by
    rw [Tryz.params3] at ht
    have hm:t∈[9]:=by simpa using Array.mem_of_getElem? ht
    have hall:([9].all fun u=>!Tryz.prog.wantsStandIn u)=true:=by kernel_rfl
    exact (show Tryz.prog.wantsStandIn t=false by simpa using zv.1 hall t hm)⟩)
  (by kernel_rfl)
end Go.Proofs.YtdocfkidnnalnaaGreatDoor
end
