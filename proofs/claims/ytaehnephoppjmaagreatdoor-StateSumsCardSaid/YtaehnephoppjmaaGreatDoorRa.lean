/- The chances of all outcomes are one in sum. -/
import Derived.Test.YtaehnephoppjmaaGreatDoorPb
import Derived.Test.YtaehnephoppjmaaGreatDoorGa
import Derived.Test.YtaehnephoppjmaaGreatDoorTie
import Derived.Test.YtaehnephoppjmaaGreatDoorCards
import Derived.Handy
import Derived.Lay
set_option linter.all false
section
namespace Go.Proofs.YtaehnephoppjmaaGreatDoor
open Go.ChangeShapes Go.WideShapes Go.ChangeAt Go.RowKit Go.WideMaps Go.WideElems Go.Ql
set_option maxRecDepth 100000 in
theorem of_laid {W:World} (h:laidMetH Tryz.prog Rows.stateSumsRow.laid W):TabAt 2 Lib.deBruijn32tab W∧PowAt W:=by
 rw [MakeChecks.laidMetH_plain _ _ _ (by kernel_rfl)] at h
 have h1 : Lib.TabIs Tryz.prog W "math/bits.deBruijn32tab" .u8 (Lib.deBruijn32tab.map fun n : Nat => (n : Int)) :=
  tabIs_of_mem (g:=2) (t:=215) (e:=5) (n:=32) (by kernel_rfl) (by kernel_rfl) (by kernel_rfl) (by kernel_rfl) (by kernel_rfl) (by kernel_rfl) h
   (by rw [show (Lib.tabData .u8 (Lib.deBruijn32tab.map fun n:Nat=>(n:Int)):DataW Unit)=Rows.laid_math_bits_deBruijn32tab by kernel_rfl];simp [Rows.stateSumsRow])
 have h2 : Lib.TabIs Tryz.prog W "internal/strconv.uint64pow10" .u64 Lib.pow10Tab :=
  tabIs_of_mem (g:=4) (t:=219) (e:=123) (n:=20) (by kernel_rfl) (by kernel_rfl) (by kernel_rfl) (by kernel_rfl) (by kernel_rfl) (by kernel_rfl) h
   (by rw [show (Lib.tabData .u64 Lib.pow10Tab:DataW Unit)=Rows.laid_internal_strconv_uint64pow10 by kernel_rfl];simp [Rows.stateSumsRow])
 refine ⟨fun j hj=>?_,h2⟩
 have:=h1.cell (g:=2) (by kernel_rfl) j (by simpa using hj)
 rw [this]
 congr 2
 simp [List.getD,hj]
theorem sums_own:ownKnob Tryz.prog.godebug=none:=by kernel_rfl
set_option maxRecDepth 100000 in
theorem sums_lifted (os:Os) (started:os.Started) (H:Type) (enc:TypeId×Value→H) :
 ReturnsInHanded {} Tryz.checked os 6 .any (fun w args=>(Rows.stateSumsSpec.pre enc Tryz.prog Tryz.f6 [] false w args∧laidMetH Tryz.prog Rows.stateSumsRow.laid w)∧sizedMet enc Tryz.prog Tryz.f6 (OpenSpec.ofChange Rows.stateSumsSpec) false w args)
  (Rows.stateSumsSpec.post enc Tryz.prog Tryz.f6 false true false false):=by
 refine returnsInHanded_of_change_and (C:=Tryz.checked) (X:=fun w _=>laidMetH Tryz.prog Rows.stateSumsRow.laid w) (fun _ _ _ hh h=>h.of_heap hh) sums_own started (by kernel_rfl) Tryz.func6
  (ChangeSpec.witness_shaped (enc:=enc) (C:=Tryz.checked) (os:=os) (X:=fun w _=>laidMetH Tryz.prog Rows.stateSumsRow.laid w) false (World.laidAll Tryz.prog os Rows.stateSumsRow.laid) #[.agg #[.int .i64 0,.int .i64 0,.slice none 0 0],.int .i64 0] 8 (World.laidAll_os _ _ _)
   (World.shaped_of_ZipB (by kernel_rfl) (by kernel_rfl)) (by kernel_rfl) (by kernel_rfl) (by kernel_rfl)
   (by rw [MakeChecks.laidMetH_plain _ _ _ (by kernel_rfl)];exact laidMet_laidAll _ (by kernel_rfl) (by kernel_rfl))) ?_
 intro w0 base args ds gs before hval hW _ hsz hL _
 refine contract_of (s:=Rows.stateSumsSpec) W.jr.ok 20 (pts:=#[24,3]) Tryz.params6 (by kernel_rfl) (by kernel_rfl) (by kernel_rfl) rfl (tb:=4) rfl Tryz.underlying4 (sums_wf) (fun ds hd=>?_) hval hW hsz (of_laid hL)
 match ds,hd with
 | [d0,d1],_=>exact ⟨rfl,rfl,rfl⟩
theorem sums_row:Rows.StateSumsSaid:=
 OpenClaim.holds_of_wide 6 Tryz.f6 rfl rfl rfl rfl rfl rfl rfl ⟨rfl,rfl,rfl,rfl,rfl⟩ rfl rfl rfl rfl rfl (by kernel_rfl) Tryz.func6 (by kernel_rfl)
  (of_decide_eq_true (by kernel_rfl)) (by unfold Func.isWrapper;first | (rw [if_pos (by decide +kernel)];kernel_rfl) | (rw [if_neg (by decide +kernel)];exact ⟨rfl,rfl⟩))
  (fun os started H enc _=>sums_lifted os started H enc)
theorem sums_said:Rows.StateSumsCardSaid:=
 Claim7.holds_tied_plain_at .later [] [.data, .data, .data, .sentinel, .sentinel] true (true, "2259175028b8e1dc6f40bd6597feb860c0e46fd8956af9a5c9d80126cd0a8a40") true sums_row (fun _ h => by cases h) (by kernel_rfl) (fun _ h => by cases h) stateSums_row_tie rfl ⟨rfl, rfl⟩ (by kernel_rfl) rfl
  (fun f fn hf hfn=>by
   obtain rfl : f = 6 := Option.some.inj ((show Tryz.prog.funcNamed "qloom/qloomlaw.StateSums" = some 6 by kernel_rfl).symm.trans hf) |>.symm
   obtain rfl:fn=Tryz.f6:=(Option.some.inj (Tryz.func6.symm.trans hfn)).symm
   exact ⟨by kernel_rfl,fun j t ht=>by
    rw [Tryz.params6] at ht
    have hm:t∈[24,3]:=by simpa using Array.mem_of_getElem? ht
    have hall:([24,3].all fun u=>!Tryz.prog.wantsStandIn u)=true:=by kernel_rfl
    exact (show Tryz.prog.wantsStandIn t=false by simpa using List.all_eq_true.1 hall t hm)⟩)
  (by kernel_rfl)
end Go.Proofs.YtaehnephoppjmaaGreatDoor
end
