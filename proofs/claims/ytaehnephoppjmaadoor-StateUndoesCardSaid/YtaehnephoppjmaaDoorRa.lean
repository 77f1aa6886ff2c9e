/- A circuit undone; controls. -/
import Derived.Test.YtaehnephoppjmaaDoorPb
import Derived.Test.YtaehnephoppjmaaDoorGa
import Derived.Test.YtaehnephoppjmaaDoorTie
import Derived.Test.YtaehnephoppjmaaDoorCards
import Derived.Handy
import Derived.Lay
set_option linter.all false
section
namespace Go.Proofs.YtaehnephoppjmaaDoor
open Go.ChangeShapes Go.WideShapes Go.ChangeAt Go.RowKit Go.WideMaps Go.WideElems Go.Ql
set_option maxRecDepth 100000 in
theorem of_laid {W:World} (h:laidMetH Tryd.prog Rows.stateUndoesRow.laid W):TabAt 0 Lib.deBruijn32tab W∧PowAt W:=by
 rw [MakeChecks.laidMetH_plain _ _ _ (by kernel_rfl)] at h
 have h1 : Lib.TabIs Tryd.prog W "math/bits.deBruijn32tab" .u8 (Lib.deBruijn32tab.map fun n : Nat => (n : Int)) :=
  tabIs_of_mem (g:=0) (t:=143) (e:=5) (n:=32) (by kernel_rfl) (by kernel_rfl) (by kernel_rfl) (by kernel_rfl) (by kernel_rfl) (by kernel_rfl) h
   (by rw [show (Lib.tabData .u8 (Lib.deBruijn32tab.map fun n:Nat=>(n:Int)):DataW Unit)=Rows.laid_math_bits_deBruijn32tab by kernel_rfl];simp [Rows.stateUndoesRow])
 have h2 : Lib.TabIs Tryd.prog W "internal/strconv.uint64pow10" .u64 Lib.pow10Tab :=
  tabIs_of_mem (g:=2) (t:=146) (e:=108) (n:=20) (by kernel_rfl) (by kernel_rfl) (by kernel_rfl) (by kernel_rfl) (by kernel_rfl) (by kernel_rfl) h
   (by rw [show (Lib.tabData .u64 Lib.pow10Tab:DataW Unit)=Rows.laid_internal_strconv_uint64pow10 by kernel_rfl];simp [Rows.stateUndoesRow])
 refine ⟨fun j hj=>?_,h2⟩
 have:=h1.cell (g:=0) (by kernel_rfl) j (by simpa using hj)
 rw [this]
 congr 2
 simp [List.getD,hj]
theorem undoes_own:ownKnob Tryd.prog.godebug=none:=by kernel_rfl
set_option maxRecDepth 100000 in
theorem undoes_lifted (os:Os) (started:os.Started) (H:Type) (enc:TypeId×Value→H) :
 ReturnsInHanded {} Tryd.checked os 3 .any (fun w args=>(Rows.stateUndoesSpec.pre enc Tryd.prog Tryd.f3 [] false w args∧laidMetH Tryd.prog Rows.stateUndoesRow.laid w)∧sizedMet enc Tryd.prog Tryd.f3 (OpenSpec.ofChange Rows.stateUndoesSpec) false w args)
  (Rows.stateUndoesSpec.post enc Tryd.prog Tryd.f3 false true false false):=by
 refine returnsInHanded_of_change_and (C:=Tryd.checked) (X:=fun w _=>laidMetH Tryd.prog Rows.stateUndoesRow.laid w) (fun _ _ _ hh h=>h.of_heap hh) undoes_own started (by kernel_rfl) Tryd.func3
  (ChangeSpec.witness_shaped (enc:=enc) (C:=Tryd.checked) (os:=os) (X:=fun w _=>laidMetH Tryd.prog Rows.stateUndoesRow.laid w) false (World.laidAll Tryd.prog os Rows.stateUndoesRow.laid) #[.agg #[.int .i64 0,.int .i64 0,.slice none 0 0],.int .i64 0,.int .i64 0] 8 (World.laidAll_os _ _ _)
   (World.shaped_of_ZipB (by kernel_rfl) (by kernel_rfl)) (by kernel_rfl) (by kernel_rfl) (by kernel_rfl)
   (by rw [MakeChecks.laidMetH_plain _ _ _ (by kernel_rfl)];exact laidMet_laidAll _ (by kernel_rfl) (by kernel_rfl))) ?_
 intro w0 base args ds gs before hval hW _ hsz hL _
 refine contract_of (s:=Rows.stateUndoesSpec) W.jf.ok 20 (pts:=#[24,3,3]) Tryd.params3 (by kernel_rfl) (by kernel_rfl) (by kernel_rfl) rfl (tb:=4) rfl Tryd.underlying4 (undoes_wf) (fun ds hd=>?_) hval hW hsz (of_laid hL)
 match ds,hd with
 | [d0,d1,d2],_=>exact ⟨rfl,rfl,rfl⟩
theorem undoes_row:Rows.StateUndoesSaid:=
 OpenClaim.holds_of_wide 3 Tryd.f3 rfl rfl rfl rfl rfl rfl rfl ⟨rfl,rfl,rfl,rfl,rfl⟩ rfl rfl rfl rfl rfl (by kernel_rfl) Tryd.func3 (by kernel_rfl)
  (of_decide_eq_true (by kernel_rfl)) (by unfold Func.isWrapper;first | (rw [if_pos (by decide +kernel)];kernel_rfl) | (rw [if_neg (by decide +kernel)];exact ⟨rfl,rfl⟩))
  (fun os started H enc _=>undoes_lifted os started H enc)
theorem undoes_said:Rows.StateUndoesCardSaid:=
 Claim7.holds_tied_plain_at .later [] [.data, .data, .data] true (true, "cd13673165df5dd4574d4cb9bb53e39b0fbe3cae5bda0be53eff5ab2f3caa8a2") false undoes_row (fun _ h => by cases h) (by kernel_rfl) (fun _ h => by cases h) stateUndoes_row_tie rfl ⟨rfl, rfl⟩ (by kernel_rfl) rfl
  (fun f fn hf hfn=>by
   obtain rfl : f = 3 := Option.some.inj ((show Tryd.prog.funcNamed "qloom/qloomlaw.StateUndoes" = some 3 by kernel_rfl).symm.trans hf) |>.symm
   obtain rfl:fn=Tryd.f3:=(Option.some.inj (Tryd.func3.symm.trans hfn)).symm
   exact ⟨by kernel_rfl,fun j t ht=>by
    rw [Tryd.params3] at ht
    have hm:t∈[24,3,3]:=by simpa using Array.mem_of_getElem? ht
    have hall:([24,3,3].all fun u=>!Tryd.prog.wantsStandIn u)=true:=by kernel_rfl
    exact (show Tryd.prog.wantsStandIn t=false by simpa using List.all_eq_true.1 hall t hm)⟩)
  (by kernel_rfl)
end Go.Proofs.YtaehnephoppjmaaDoor
end
