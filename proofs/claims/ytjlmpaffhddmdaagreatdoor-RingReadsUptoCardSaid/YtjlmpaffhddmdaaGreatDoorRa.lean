/- What is read as a number of circuits; arguments of bulk at most 1048576. -/
import Derived.Test.YtjlmpaffhddmdaaGreatDoorPb
import Derived.Test.YtjlmpaffhddmdaaGreatDoorGa
import Derived.Stop.LaidErr
import Derived.Test.YtjlmpaffhddmdaaGreatDoorTie
import Derived.Test.YtjlmpaffhddmdaaGreatDoorCards
import Derived.Handy
import Derived.Lay
import Derived.Deep.DeepHandedRow
set_option linter.all false
section
namespace Go.Proofs.YtjlmpaffhddmdaaGreatDoor
open Go.ChangeShapes Go.WideShapes Go.ChangeAt Go.RowKit Go.WideMaps Go.WideElems Go.Ql
theorem star_es : "*" ++ "errors.errorString" = "*errors.errorString" := by decide
theorem row_es (u : TypeId) (h : Tryz.prog.typeName? 3 u = some "*errors.errorString") : u = 174 :=
 typeName_ptr_named (nm := "errors.errorString") (by rw [star_es]; kernel_rfl) (by kernel_rfl) (by decide) u (by rw [star_es]; exact h)
set_option maxRecDepth 100000 in
theorem of_laid {W : World} (h : laidMetH Tryz.prog Rows.ringReadsUptoRow.laid W) : (TabAt 2 Lib.deBruijn32tab W ∧ PowAt W) ∧ (ErrAt "strconv.ErrSyntax" W ∧ ErrAt "strconv.ErrRange" W) := by
 rw [MakeChecks.laidMetH_plain _ _ _ (by kernel_rfl)] at h
 have h1 : Lib.TabIs Tryz.prog W "math/bits.deBruijn32tab" .u8 (Lib.deBruijn32tab.map fun n : Nat => (n : Int)) :=
  tabIs_of_mem (g:=2) (t:=153) (e:=5) (n:=32) (by kernel_rfl) (by kernel_rfl) (by kernel_rfl) (by kernel_rfl) (by kernel_rfl) (by kernel_rfl) h
   (by rw [show (Lib.tabData .u8 (Lib.deBruijn32tab.map fun n:Nat=>(n:Int)):DataW Unit)=Rows.laid_math_bits_deBruijn32tab by kernel_rfl];simp [Rows.ringReadsUptoRow])
 have h2 : Lib.TabIs Tryz.prog W "internal/strconv.uint64pow10" .u64 Lib.pow10Tab :=
  tabIs_of_mem (g:=4) (t:=179) (e:=109) (n:=20) (by kernel_rfl) (by kernel_rfl) (by kernel_rfl) (by kernel_rfl) (by kernel_rfl) (by kernel_rfl) h
   (by rw [show (Lib.tabData .u64 Lib.pow10Tab:DataW Unit)=Rows.laid_internal_strconv_uint64pow10 by kernel_rfl];simp [Rows.ringReadsUptoRow])
 have h3:=h.tail.tail.tail
 have c1:Tryz.prog.cellsOf 176=1:=by kernel_rfl
 have c2:Tryz.prog.cellsOf 9=1:=by kernel_rfl
 have u1:Tryz.prog.underlying 9=some .string:=by kernel_rfl
 obtain ⟨a0,s0,hv0,_,_,_⟩:=laid_sentinel h3 (ti:=73) (tp:=174) (te:=176) (ts:=9) gRan (by kernel_rfl) Tryz.underlying73 row_es Tryz.underlying174 Tryz.underlying176 rfl rfl u1 c1 c2
 obtain ⟨a1,s1,hv1,_,_,_⟩:=laid_sentinel h3.tail (ti:=73) (tp:=174) (te:=176) (ts:=9) gSyn (by kernel_rfl) Tryz.underlying73 row_es Tryz.underlying174 Tryz.underlying176 rfl rfl u1 c1 c2
 refine ⟨⟨fun j hj=>?_,h2⟩,⟨_,_,hv1⟩,⟨_,_,hv0⟩⟩
 have:=h1.cell (g:=2) (by kernel_rfl) j (by simpa using hj)
 rw [this]
 congr 2
 simp [List.getD,hj]
theorem Ur {H:Type}:∀l:List (DataW H),Rows.uptoBulkAll l=(l.map Rows.uptoBulk).sum
 | []=>by simp [Rows.uptoBulkAll]
 | d::r=>by rw [Rows.uptoBulkAll,Ur r,List.map_cons,List.sum_cons]
theorem bulky {H:Type}:Bulky (Rows.uptoBulk (H:=H)) where
 agg l:=by rw [Rows.uptoBulk,Ur]
 slice e s:=by rw [Rows.uptoBulk,Ur,Ur]
 str l:=by rw [Rows.uptoBulk];omega
theorem reads_own:ownKnob Tryz.prog.godebug=none:=by kernel_rfl
set_option maxRecDepth 100000 in
theorem reads_reads (os:Os) {H:Type} (enc:TypeId×Value→H):∃places,DataW.whole enc Tryz.prog ((World.laidAll Tryz.prog os Rows.ringReadsUptoRow.laid).forCall (fun _ _=>0) ⟨#[],#[.string ⟨#[]⟩,.int .i64 0],[]⟩).memory Tryz.f3.params.toList Rows.ringReadsSpec.vars false (#[.string ⟨#[]⟩,.int .i64 0]:Array Value).toList 8=some ([.lit (.string []),.lit (.int .i64 0)],[],places):=
 ⟨[],by kernel_rfl⟩
set_option maxRecDepth 100000 in
theorem reads_lifted (os:Os) (started:os.Started) (H:Type) (enc:TypeId×Value→H) (F:Stop.Interp) :
 ReturnsInHanded {} Tryz.checked os 3 .any ((Rows.OpenSpec.upto Rows.ringReadsSpec).preRow enc Tryz.prog Tryz.f3 Rows.ringReadsUptoRow.domain false Rows.ringReadsUptoRow.laid) (((Rows.OpenSpec.upto Rows.ringReadsSpec).at F).post enc Tryz.prog Tryz.f3 false true false false):=by
 obtain ⟨places,hx⟩:=reads_reads os enc
 refine returnsInHanded_of_row (C:=Tryz.checked) (s:=Rows.OpenSpec.upto Rows.ringReadsSpec) reads_own started (by kernel_rfl) Tryz.func3
  (witness_row_at (enc:=enc) (C:=Tryz.checked) false (World.laidAll Tryz.prog os Rows.ringReadsUptoRow.laid) #[.string ⟨#[]⟩,.int .i64 0] (World.laidAll_os _ _ _) (by kernel_rfl) (by kernel_rfl) (by kernel_rfl)
   (OpenSpec.preRow_of_cond 8 hx (by kernel_rfl) (fun k hk=>by cases hk;kernel_rfl) (by kernel_rfl) (laidMet_laidAll _ (by kernel_rfl) (by kernel_rfl)))) ?_
 intro w0 base args ds gs before hval hW _ hk hsz hL _ _
 have hbulk:∀d∈ds++gs,Rows.uptoBulk d≤1048576:=by
  intro d hd
  have h1:=of_decide_eq_true (hk _ rfl)
  rw [Ur] at h1
  exact Nat.le_trans (sum_mem hd) h1
 refine contractX_of (s:=Rows.ringReadsSpec) bulky W.jw.ok 20 (pts:=#[9,3]) Tryz.params3 (by kernel_rfl) (by kernel_rfl) (by kernel_rfl) rfl (tb:=4) rfl Tryz.underlying4 (reads_wf) (fun ds hd=>?_) hval hW hsz hbulk (of_laid hL)
 match ds,hd with
 | [d0,d1],_=>exact ⟨rfl,rfl,rfl⟩
theorem reads_row:Rows.RingReadsUptoSaid:=
 OpenClaim.holds_of_cond 3 Tryz.f3 rfl rfl rfl rfl rfl rfl rfl ⟨rfl,rfl,rfl,rfl,rfl⟩ rfl rfl rfl rfl rfl (by kernel_rfl) Tryz.func3 (by kernel_rfl)
  (of_decide_eq_true (by kernel_rfl)) (by unfold Func.isWrapper;first | (rw [if_pos (by decide +kernel)];kernel_rfl) | (rw [if_neg (by decide +kernel)];exact ⟨rfl,rfl⟩))
  (fun os started H enc _ F=>by rw [OpenClaim.pre_eq_preRow];exact reads_lifted os started H enc F)
theorem reads_said:Rows.RingReadsUptoCardSaid:=
 Claim7.holds_tied_plain_at .later [] [.data, .data, .data, .sentinel, .sentinel] true (true, "7441eb2c51d00317e1d0248a94d852bd59348d454b11c20a28555ce46083fa28") true reads_row (fun _ h => by cases h) (by kernel_rfl) (fun _ h => by cases h) ringReadsUpto_row_tie rfl ⟨rfl, rfl⟩ (by kernel_rfl) rfl
  (fun f fn hf hfn=>by
   obtain rfl : f = 3 := Option.some.inj ((show Tryz.prog.funcNamed "qloom/qloomlaw.RingReads" = some 3 by kernel_rfl).symm.trans hf) |>.symm
   obtain rfl:fn=Tryz.f3:=(Option.some.inj (Tryz.func3.symm.trans hfn)).symm
   exact ⟨by kernel_rfl,fun j t ht=>by
    rw [Tryz.params3] at ht
    have hm:t∈[9,3]:=by simpa using Array.mem_of_getElem? ht
    have hall:([9,3].all fun u=>!Tryz.prog.wantsStandIn u)=true:=by kernel_rfl
    exact (show Tryz.prog.wantsStandIn t=false by simpa using List.all_eq_true.1 hall t hm)⟩)
  (by kernel_rfl)
end Go.Proofs.YtjlmpaffhddmdaaGreatDoor
end
