/- Every program that is read is written as the document says. -/
import Derived.Test.YtdocfkidnnalnaaGreatDoorPdS
import Derived.Test.YtdocfkidnnalnaaGreatDoorGaS
import Derived.Test.YtdocfkidnnalnaaGreatDoorTie
import Derived.Test.YtdocfkidnnalnaaGreatDoorCards
import Derived.Handy
import Derived.Lay
set_option linter.all false
section
namespace Go.Proofs.YtdocfkidnnalnaaGreatDoor
open Go.ChangeShapes Go.WideShapes Go.ChangeAt Go.RowKit Go.WideMaps Go.WideElems Go.Ql
set_option maxRecDepth 100000 in
theorem PF {W:World} (h:laidMetH Tryz.prog Rows.tonguePrintsRow.laid W):PowAt W:=by
 rw [MakeChecks.laidMetH_plain _ _ _ (by kernel_rfl)] at h
 exact AD (g:=1) (t:=140) (e:=113) (n:=20) (by kernel_rfl) (by kernel_rfl) (by kernel_rfl) (by kernel_rfl) (by kernel_rfl) (by kernel_rfl) h
  (by rw [show (Lib.tabData .u64 Lib.pow10Tab:DataW Unit)=Rows.laid_internal_strconv_uint64pow10 by kernel_rfl];simp [Rows.tonguePrintsRow])
theorem prints_own:ownKnob Tryz.prog.godebug=none:=by kernel_rfl
set_option maxRecDepth 100000 in
theorem prints_lifted (os:Os) (started:os.Started) (H:Type) (enc:TypeId×Value→H) :
 ReturnsInHanded {} Tryz.checked os 4 .any (fun w args=>(Rows.tonguePrintsSpec.pre enc Tryz.prog Tryz.f4 [] false w args∧laidMetH Tryz.prog Rows.tonguePrintsRow.laid w)∧sizedMet enc Tryz.prog Tryz.f4 (OpenSpec.ofChange Rows.tonguePrintsSpec) false w args)
  (Rows.tonguePrintsSpec.post enc Tryz.prog Tryz.f4 false true false false):=by
 refine returnsInHanded_of_change_and (C:=Tryz.checked) (X:=fun w _=>laidMetH Tryz.prog Rows.tonguePrintsRow.laid w) (fun _ _ _ hh h=>h.of_heap hh) prints_own started (by kernel_rfl) Tryz.func4
  (ChangeSpec.witness_shaped (enc:=enc) (C:=Tryz.checked) (os:=os) (X:=fun w _=>laidMetH Tryz.prog Rows.tonguePrintsRow.laid w) false (World.laidAll Tryz.prog os Rows.tonguePrintsRow.laid) #[.string ⟨#[]⟩] 8 (World.laidAll_os _ _ _)
   (World.shaped_of_ZipB (by kernel_rfl) (by kernel_rfl)) (by kernel_rfl) (by kernel_rfl) (by kernel_rfl)
   (by rw [MakeChecks.laidMetH_plain _ _ _ (by kernel_rfl)];exact laidMet_laidAll _ (by kernel_rfl) (by kernel_rfl))) ?_
 intro w0 base args ds gs before hval hW _ hsz hL _
 refine AN (s:=Rows.tonguePrintsSpec) W.kZ.ok 20 (pts:=#[9]) Tryz.params4 (by kernel_rfl) (by kernel_rfl) (by kernel_rfl) rfl (tb:=4) rfl Tryz.underlying4 ((fun x _=>W.prints_law x)) (fun ds hd=>?_) hval hW hsz (PF hL)
 match ds,hd with
 | [d0],_=>exact ⟨rfl,rfl,rfl⟩
theorem DK:Rows.TonguePrintsSaid:=
 OpenClaim.holds_of_wide 4 Tryz.f4 rfl rfl rfl rfl rfl rfl rfl ⟨rfl,rfl,rfl,rfl,rfl⟩ rfl rfl rfl rfl rfl (by kernel_rfl) Tryz.func4 (by kernel_rfl)
  (zw (by kernel_rfl)) (by unfold Func.isWrapper;first | (rw [if_pos (by decide +kernel)];kernel_rfl) | (rw [if_neg (by decide +kernel)];exact ⟨rfl,rfl⟩))
  (fun os started H enc _=>prints_lifted os started H enc)
theorem prints_said:Rows.TonguePrintsCardSaid:=
 Claim7.holds_tied_plain_at .later [] [.data, .data, .data, .sentinel, .sentinel] true (true, "353fc4e4d382ec1c126cca74f5fc01137dcc707e8fea69162b4cee7fe8d78810") true DK (fun _ h => by cases h) (by kernel_rfl) (fun _ h => by cases h) tonguePrints_row_tie rfl ⟨rfl, rfl⟩ (by kernel_rfl) rfl
  (fun f fn hf hfn=>by
   obtain rfl : f = 4 := Option.some.inj ((show Tryz.prog.funcNamed "qloom/qloomlaw.TonguePrints" = some 4 by kernel_rfl).symm.trans hf) |>.symm
   obtain rfl:fn=Tryz.f4:=(Option.some.inj (Tryz.func4.symm.trans hfn)).symm
   exact ⟨by kernel_rfl,fun j t ht=>by
    rw [Tryz.params4] at ht
    have hm:t∈[9]:=by simpa using Array.mem_of_getElem? ht
    have hall:([9].all fun u=>!Tryz.prog.wantsStandIn u)=true:=by kernel_rfl
    exact (show Tryz.prog.wantsStandIn t=false by simpa using zy.1 hall t hm)⟩)
  (by kernel_rfl)
end Go.Proofs.YtdocfkidnnalnaaGreatDoor
end
