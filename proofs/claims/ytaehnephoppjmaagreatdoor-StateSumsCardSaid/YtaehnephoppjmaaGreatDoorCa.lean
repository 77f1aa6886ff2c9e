/- Contracts of Go's library and of an iterator; the seat's types; what is known of its variables. -/
import Derived.Test.YtaehnephoppjmaaGreatDoorLf
import Derived.Shelf.Abstract
import Derived.WalkKit
import Derived.OwnWalkIn
import Derived.TacticsInMore
import Derived.LoopNIn
import Derived.LoopIn
import Derived.Test.YtaehnephoppjmaaGreatDoorProg
import Derived.Shelf.Spec.TrailingZeros
import Derived.Shelf.LaysM
import Derived.Shelf.Strings.OnBuilder
import Derived.Shelf.Strconv.Itoa3
import Derived.Shelf.Strconv.Itoa4
import Derived.Ground.Names2Prog
set_option linter.all false
section
namespace W
open Go Go.Ql
def onesF (m:Int):Nat→Int→List Int
 | 0,_=>[]
 | j+1,i=>(if ibits .and .i64 i m=m then [i] else [])++onesF m j (i+1)
def onesL (x:Int×Int):List Int:=onesF x.2 x.1.toNat 0
abbrev ones_sc:SeqC:=⟨163,[.len,.int .i64],.i64,onesL⟩
end W
namespace Go.Proofs
open Go.RowKit Go.Shelf Go.Ql W
attribute [local go_sem] Oper.semAt_some
set_option maxRecDepth 100000 in
set_option maxHeartbeats 2000000 in
theorem Tryz.ones_walk (l:Nat) (ad:Option Addr) (N cap:Nat) (m:Int) (b1 o1 b2 o2:Nat) (hN:N≤maxLen) (J:List Int→World→Prop) (Kp:World→Prop)
 (hY:∀pre x W1,J pre W1→(∃r,onesL (N,m)=pre++x::r)→Kp W1→YieldAt (Fr none) 0 Tryz.prog l #[.int .i64 x] W1 fun e W'=>e=.returned (.bool true)∧J (pre++[x]) W'∧Kp W')
 (hK1:∀W,Kp W→W.cell? ⟨b1,o1,none⟩=some (.slice ad N cap)∧W.cell? ⟨b2,o2,none⟩=some (.int .i64 m)) (W:World) (h0:J [] W) (hk0:Kp W) :
 CallsIn (Fr none) 0 Tryz.prog 163 #[.func (.yield l) #[] #[],.pointer (some ⟨b1,o1,none⟩),.pointer (some ⟨b2,o2,none⟩)] W fun e W'=>(∃v,e=.returned v)∧J (onesL (N,m)) W':=by
 refine callsIn_of_wp Tryz.func163 rfl trivial ?_ rfl
 simp only [Tryz.ntmps163,List.size_toArray,List.length_cons,List.length_nil,Nat.reduceAdd,Nat.reduceSub,Array.replicate_succ,Array.replicate_zero,List.push_toArray,List.append_toArray,List.nil_append,List.cons_append]
 obtain ⟨c1,c2⟩:=hK1 W hk0
 gi_wp2
 gi_loopw [7] (fun p wr=>∃(i:Nat) (pre:List Int),p=.int .i64 (i:Int)∧i≤N∧onesL (N,m)=pre++onesF m (N-i) i∧J pre wr∧Kp wr)
  (fun p wr=>match p with | .int _ i=>N-i.toNat | _=>0)
 case atStart=>exact ⟨0,[],rfl,by omega,rfl,h0,hk0⟩
 case round=>
  obtain ⟨i,pre,rfl,hi,hx,hJ,hk⟩:=hrel
  obtain ⟨d1,d2⟩:=hK1 wr hk
  by_cases hlt:i<N
  ·have hlt':((i:Int)<(N:Int))=True:=by simp [hlt]
   have hw:wrap64 ((i:Int)+1)=(i:Int)+1:=by
    have:maxLen≤9223372036854775807:=by decide
    simp only [wrap64];omega
   have hrest:onesF m (N-i) i=(if ibits .and .i64 i m=m then [(i:Int)] else [])++onesF m (N-(i+1)) ((i:Int)+1):=by
    rw [show N-i=(N-(i+1))+1 by omega];rfl
   by_cases hb:ibits .and .i64 i m=m
   ·rw [if_pos hb] at hrest
    obtain ⟨fn,tmps,assign,body,hy,hR⟩:=hY pre i wr hJ ⟨_,by rw [hx,hrest];rfl⟩ hk
    gi_wp2
    refine hR.mono ?_
    rintro e W3 ⟨rfl,hJ3,hk3⟩
    gi_wp2
    refine ⟨⟨i+1,pre++[(i:Int)],?_,by omega,?_,hJ3,hk3⟩,?_⟩
    ·rw [hw];rfl
    ·rw [hx,hrest];simp
    ·rw [hw];show N-((i:Int)+1).toNat<N-(i:Int).toNat;omega
   ·rw [if_neg hb] at hrest
    gi_wp2
    refine ⟨⟨i+1,pre,?_,by omega,?_,hJ,hk⟩,?_⟩
    ·rw [hw];rfl
    ·rw [hx,hrest];simp
    ·rw [hw];show N-((i:Int)+1).toNat<N-(i:Int).toNat;omega
  ·have hlt':((i:Int)<(N:Int))=False:=by simp;omega
   gi_wp2
   go_end0
   have e0:N-i=0:=by omega
   rw [e0] at hx
   exact ⟨⟨_,rfl⟩,by rw [hx];simpa [onesF] using hJ⟩
theorem Tryz.ones_seq:SeqOk Tryz.prog 163 ones_sc:=by
 refine ⟨⟨Tryz.f163,Tryz.func163,by kernel_rfl,by kernel_rfl⟩,fun w Z vs x hZ hc=>?_⟩
 obtain ⟨v1,r,rfl,⟨b1,o1,cs1,rfl,z1,⟨ad,cap,e1,e2,e3⟩,h1⟩,v2,rfl,b2,o2,cs2,rfl,z2,e4,h2⟩:=hc
 obtain ⟨N,m⟩:=x
 subst e1
 have e4:cs2=[.int .i64 m]:=e4
 subst e4
 have c1:=h1 0 _ rfl
 have c2:=h2 0 _ rfl
 simp only [Nat.add_zero] at c1 c2
 intro l J W hs hJ hY h0
 obtain ⟨N',hN'⟩:=Int.eq_ofNat_of_zero_le (show (0:Int)≤N from e2)
 have hN':N=(N':Int):=hN'
 subst hN'
 have hZW:∀b,Z b→W.heap[b]?=w.heap[b]?:=fun b hb=>hs.block b (hZ b hb)
 refine Tryz.ones_walk l ad N' cap m b1 o1 b2 o2 (by simpa using e3) J (fun W'=>∀b,Z b→W'.heap[b]?=w.heap[b]?) ?_ ?_ W h0 hZW
 ·intro pre y W1 hj hr hk
  obtain ⟨fn,tmps,asg,body,q1,q2⟩:=hY pre y W1 hj hr
  refine ⟨fn,tmps,asg,body,q1,q2.mono ?_⟩
  rintro e W' ⟨rfl,h3,h4⟩
  exact ⟨rfl,h3,fun b hb=>(h4 b hb).trans (hk b hb)⟩
 ·intro W' hk
  exact ⟨Hh (hk b1 z1) _ _ (by simpa using c1),Hh (hk b2 z2) _ _ c2⟩
end Go.Proofs
end

section
namespace Go.Proofs
open Go.Shelf
def Tryz.lays156_ren:Go.Shelf.Ren:=⟨fun | 156=>62 | 165=>95 | 166=>96 | 169=>97 | 240=>130 | 241=>131 | 276=>157 | 277=>158 | n=>n,fun | 31=>27 | 9=>9 | 3=>3 | 4=>4 | 0=>0 | 20=>20 | 72=>153 | 76=>141 | 70=>151 | 37=>122 | 75=>140 | 127=>179 | 164=>201 | 5=>5 | 80=>74 | n=>n,fun | n=>n⟩
theorem Tryz.lays156:Go.Proofs.Lays.n156 Tryz.prog Tryz.lays156_ren:={
 mixed:=by kernel_rfl
 f156:=Tryz.func62.trans (congrArg some (by kernel_rfl))
 f165:=Tryz.func95.trans (congrArg some (by kernel_rfl))
 f166:=Tryz.func96.trans (congrArg some (by kernel_rfl))
 f169:=Tryz.func97.trans (congrArg some (by kernel_rfl))
 f240:=Tryz.func130.trans (congrArg some (by kernel_rfl))
 f241:=Tryz.func131.trans (congrArg some (by kernel_rfl))
 f276:=Tryz.func157.trans (congrArg some (by kernel_rfl))
 f277:=Tryz.func158.trans (congrArg some (by kernel_rfl))
 t0:=Tryz.underlying0
 a0:=Tryz.isAgg0
 z0:=Tryz.sizeOf0
 v0:=Tryz.zeroValue0
 t3:=Tryz.underlying3
 a3:=Tryz.isAgg3
 z3:=Tryz.sizeOf3
 v3:=Tryz.zeroValue3
 t4:=Tryz.underlying4
 a4:=Tryz.isAgg4
 z4:=Tryz.sizeOf4
 v4:=Tryz.zeroValue4
 t9:=Tryz.underlying9
 a9:=Tryz.isAgg9
 z9:=Tryz.sizeOf9
 v9:=Tryz.zeroValue9
 t20:=Tryz.underlying20
 a20:=Tryz.isAgg20
 z20:=Tryz.sizeOf20
 v20:=Tryz.zeroValue20
 t31:=Tryz.underlying27
 a31:=Tryz.isAgg27
 z31:=Tryz.sizeOf27
 v31:=Tryz.zeroValue27
 t37:=Tryz.underlying122
 a37:=Tryz.isAgg122
 z37:=Tryz.sizeOf122
 v37:=Tryz.zeroValue122
 t70:=Tryz.underlying151
 a70:=Tryz.isAgg151
 z70:=Tryz.sizeOf151
 v70:=Tryz.zeroValue151
 t72:=Tryz.underlying153
 a72:=Tryz.isAgg153
 z72:=Tryz.sizeOf153
 v72:=Tryz.zeroValue153
 t75:=Tryz.underlying140
 a75:=Tryz.isAgg140
 z75:=Tryz.sizeOf140
 v75:=Tryz.zeroValue140
 t76:=Tryz.underlying141
 a76:=Tryz.isAgg141
 z76:=Tryz.sizeOf141
 v76:=Tryz.zeroValue141
 t127:=Tryz.underlying179
 a127:=Tryz.isAgg179
 z127:=Tryz.sizeOf179
 v127:=Tryz.zeroValue179
 t164:=Tryz.underlying201
 a164:=Tryz.isAgg201
 z164:=Tryz.sizeOf201
 v164:=Tryz.zeroValue201 }
theorem Tryz.Builder_Extra_156:Builder.Extra Tryz.prog Tryz.lays156_ren where
 sizeBuilder:=by kernel_rfl
 liesBuilder:=by kernel_rfl
 t5:=Tryz.underlying5
 a5:=Tryz.isAgg5
 z5:=Tryz.sizeOf5
 v5:=Tryz.zeroValue5
 infoByte:=by kernel_rfl
 cellsByte:=by kernel_rfl
 sizeByte:=by kernel_rfl
 neB5:=by decide
open Go.RowKit in
theorem Tryz.strings_Join_none (a:Option Addr) (c:Nat) (sep:ByteArray) (w:World) :
 Calls Tryz.prog 62 #[.slice a 0 c,.string sep] w fun e w'=>e=.returned (.string ⟨#[]⟩)∧w'=w:=Any.strings_Join_none Tryz.lays156 Tryz.Builder_Extra_156 a c sep w
open Go.RowKit in
theorem Tryz.strings_Join (bk o c:Nat) (xs:List ByteArray) (sep:ByteArray) (w:World) (hcells:∀(j:Nat) x,xs[j]?=some x→w.cell? ⟨bk,o+j,none⟩=some (.string x)) (hbk:bk<w.heap.size) (hN:xs.length≤140737488355328) (hcap:xs.length≤c) (hlen:(Lib.join (xs.map (·.data.toList)) sep.data.toList).length≤140737488355328) :
 Calls Tryz.prog 62 #[.slice (some ⟨bk,o,none⟩) xs.length c,.string sep] w fun e w'=>e=.returned (.string ⟨(Lib.join (xs.map (·.data.toList)) sep.data.toList).toArray⟩)∧Below w.heap.size w w':=Any.strings_Join Tryz.lays156 Tryz.Builder_Extra_156 bk o c xs sep w hcells hbk hN hcap hlen
def Tryz.laysM171_ren:Go.Shelf.Ren:=⟨fun | 171=>63 | 243=>98 | 246=>132 | 283=>159 | 284=>160 | 285=>161 | 286=>162 | 129=>172 | 317=>171 | 318=>173 | 319=>174 | 320=>175 | 337=>148 | 338=>178 | n=>n,fun | 3=>3 | 9=>9 | 2=>2 | 4=>4 | 171=>204 | 0=>0 | 53=>123 | 37=>122 | 5=>5 | 173=>207 | 212=>219 | 51=>148 | 20=>20 | 213=>220 | 46=>149 | 232=>215 | 233=>226 | n=>n,fun | 17=>4 | 18=>2 | 19=>5 | n=>n⟩
theorem Tryz.laysM171:Go.Proofs.LaysM.n171 Tryz.prog Tryz.laysM171_ren:={
 mixed:=by kernel_rfl
 f129:=Tryz.func172.trans (congrArg some (by kernel_rfl))
 f171:=Tryz.func63.trans (congrArg some (by kernel_rfl))
 f243:=Tryz.func98.trans (congrArg some (by kernel_rfl))
 f246:=Tryz.func132.trans (congrArg some (by kernel_rfl))
 f283:=Tryz.func159.trans (congrArg some (by kernel_rfl))
 f284:=Tryz.func160.trans (congrArg some (by kernel_rfl))
 f285:=Tryz.func161.trans (congrArg some (by kernel_rfl))
 f286:=Tryz.func162.trans (congrArg some (by kernel_rfl))
 f317:=Tryz.func171.trans (congrArg some (by kernel_rfl))
 f318:=Tryz.func173.trans (congrArg some (by kernel_rfl))
 f319:=Tryz.func174.trans (congrArg some (by kernel_rfl))
 f320:=Tryz.func175.trans (congrArg some (by kernel_rfl))
 f337:=Tryz.func148.trans (congrArg some (by kernel_rfl))
 f338:=Tryz.func178.trans (congrArg some (by kernel_rfl))
 t0:=Tryz.underlying0
 a0:=Tryz.isAgg0
 z0:=Tryz.sizeOf0
 v0:=Tryz.zeroValue0
 t2:=Tryz.underlying2
 a2:=Tryz.isAgg2
 z2:=Tryz.sizeOf2
 v2:=Tryz.zeroValue2
 t3:=Tryz.underlying3
 a3:=Tryz.isAgg3
 z3:=Tryz.sizeOf3
 v3:=Tryz.zeroValue3
 t4:=Tryz.underlying4
 a4:=Tryz.isAgg4
 z4:=Tryz.sizeOf4
 v4:=Tryz.zeroValue4
 t5:=Tryz.underlying5
 a5:=Tryz.isAgg5
 z5:=Tryz.sizeOf5
 v5:=Tryz.zeroValue5
 t9:=Tryz.underlying9
 a9:=Tryz.isAgg9
 z9:=Tryz.sizeOf9
 v9:=Tryz.zeroValue9
 t20:=Tryz.underlying20
 a20:=Tryz.isAgg20
 z20:=Tryz.sizeOf20
 v20:=Tryz.zeroValue20
 t37:=Tryz.underlying122
 a37:=Tryz.isAgg122
 z37:=Tryz.sizeOf122
 v37:=Tryz.zeroValue122
 t46:=Tryz.underlying149
 a46:=Tryz.isAgg149
 z46:=Tryz.sizeOf149
 v46:=Tryz.zeroValue149
 t51:=Tryz.underlying148
 a51:=Tryz.isAgg148
 z51:=Tryz.sizeOf148
 v51:=Tryz.zeroValue148
 t53:=Tryz.underlying123
 a53:=Tryz.isAgg123
 z53:=Tryz.sizeOf123
 v53:=Tryz.zeroValue123
 t171:=Tryz.underlying204
 a171:=Tryz.isAgg204
 z171:=Tryz.sizeOf204
 v171:=Tryz.zeroValue204
 t173:=Tryz.underlying207
 a173:=Tryz.isAgg207
 z173:=Tryz.sizeOf207
 v173:=Tryz.zeroValue207
 t212:=Tryz.underlying219
 a212:=Tryz.isAgg219
 z212:=Tryz.sizeOf219
 v212:=Tryz.zeroValue219
 t213:=Tryz.underlying220
 a213:=Tryz.isAgg220
 z213:=Tryz.sizeOf220
 t232:=Tryz.underlying215
 a232:=Tryz.isAgg215
 z232:=Tryz.sizeOf215
 v232:=Tryz.zeroValue215
 t233:=Tryz.underlying226
 a233:=Tryz.isAgg226
 z233:=Tryz.sizeOf226
 v233:=Tryz.zeroValue226
 g17:=by kernel_rfl
 g18:=by kernel_rfl
 g19:=by kernel_rfl
 i0:=by kernel_rfl
 i2:=by kernel_rfl
 i3:=by kernel_rfl
 i4:=by kernel_rfl
 i5:=by kernel_rfl
 i9:=by kernel_rfl
 i20:=by kernel_rfl
 i37:=by kernel_rfl
 i46:=by kernel_rfl
 i51:=by kernel_rfl
 i53:=by kernel_rfl
 i171:=by kernel_rfl
 i173:=by kernel_rfl
 i212:=by kernel_rfl
 i232:=by kernel_rfl
 i233:=by kernel_rfl
 m17:=by kernel_rfl
 m18:=by kernel_rfl
 m19:=by kernel_rfl }
open Go.RowKit Go.Sort Go.Lib in
theorem Tryz.strconv_Itoa (n : Int) (h0 : -9223372036854775808 ≤ n) (h1 : n ≤ 9223372036854775807) (w : World) (htab : Lib.TabIs Tryz.prog w "internal/strconv.uint64pow10" .u64 Lib.pow10Tab) :
 Calls Tryz.prog 63 #[.int .i64 n] w fun e w'=>e=.returned (.string ⟨(Lib.itoa n).toArray⟩) ∧ ∃k os,w'=grow (w.drewN k) os:=Any.strconv_Itoa Tryz.laysM171 n h0 h1 w htab
end Go.Proofs
namespace Go.Proofs.YtaehnephoppjmaaGreatDoor
open Go.RowKit Go.Proofs
theorem gPow : Tryz.prog.globalNamed "internal/strconv.uint64pow10" = some 4 := by kernel_rfl
set_option maxHeartbeats 1000000 in
theorem tz32_core (x k idx:Nat) (w:World) (hx0:((x:Int)==0)=false)
 (key:bits BinOp.and IntKind.u32 (x:Int) (-(x:Int) % 4294967296)*125613361 % 4294967296 / 134217728=(idx:Int))
 (hi:idx<32) (hk:k<32) (hcell:w.cell? ⟨2,idx,none⟩=some (.int .u8 k)) :
 Calls Tryz.prog 148 #[.int .u32 x] w fun e w'=>e=.returned (.int .i64 k)∧w'=w:=by
 go_enter Tryz.func148,Tryz.ntmps148
 go_wp2_with (simp only [key])
 go_ret
 exact ⟨rfl,rfl⟩
theorem tz32_zero (w:World) :
 Calls Tryz.prog 148 #[.int .u32 0] w fun e w'=>e=.returned (.int .i64 32)∧w'=w:=by
 go_enter Tryz.func148,Tryz.ntmps148
 go_wp2
 go_ret
 exact ⟨rfl,rfl⟩
theorem tz32 (x:Nat) (hx:x<4294967296) (w:World) (hT:TabAt 2 Lib.deBruijn32tab w) :
 Calls Tryz.prog 148 #[.int .u32 x] w fun e w'=>e=.returned (.int .i64 (Lib.ctz 32 x))∧w'=w:=by
 by_cases hx0:x=0
 ·subst hx0
  exact tz32_zero w
 ·obtain ⟨hlow,hk⟩:=Lib.lowest_bit 32 x hx0 hx
  obtain ⟨hi,htab⟩:=Lib.deBruijn32_at _ hk
  have hcell:=hT _ hi
  rw [htab] at hcell
  exact tz32_core x _ _ w (by simp;omega) (tz32_key x _ hx hx0 hlow) hi hk hcell
def PowAt (w : World) : Prop := Lib.TabIs Tryz.prog w "internal/strconv.uint64pow10" .u64 Lib.pow10Tab
end Go.Proofs.YtaehnephoppjmaaGreatDoor
end

section
set_option maxHeartbeats 4000000
set_option maxRecDepth 100000
namespace W
open Go Go.Ql
noncomputable section
open Go.Proofs.YtaehnephoppjmaaGreatDoor (PowAt)
theorem tabAt_keep {w w':World} {tab:List Nat} (h:∀b,b<5→w'.heap[b]?=w.heap[b]?) (ht:Go.Proofs.TabAt 2 tab w):Go.Proofs.TabAt 2 tab w':=by
 intro j hj
 have h0:=h 2 (by omega)
 have:=ht j hj
 simp only [World.cell?,h0] at this ⊢
 exact this
theorem powAt_keep {w w':World} (h:∀b,b<5→w'.heap[b]?=w.heap[b]?) (ht:PowAt w):PowAt w':=by
 have h0:=h 4 (by omega)
 unfold PowAt Lib.TabIs World.var? at ht ⊢
 rw [Go.Proofs.YtaehnephoppjmaaGreatDoor.gPow] at ht ⊢
 simp only [Option.bind_some,h0] at ht ⊢
 exact ht
theorem powAt_size {w:World} (ht:PowAt w):5≤w.heap.size:=by
 by_cases hs:5≤w.heap.size
 ·exact hs
 ·have h0:w.heap[4]?=none:=by rw [Array.getElem?_eq_none_iff];omega
  unfold PowAt Lib.TabIs World.var? at ht
  rw [Go.Proofs.YtaehnephoppjmaaGreatDoor.gPow] at ht
  simp [h0] at ht
instance gInv:GInv:=⟨fun w=>Go.Proofs.TabAt 2 Go.Lib.deBruijn32tab w∧PowAt w,5,fun h ht=>⟨tabAt_keep h ht.1,powAt_keep h ht.2⟩,fun ht=>powAt_size ht.2⟩
def tab:List (Nat×TI):=[(2,⟨.int .i64,.scalar⟩),
 (3,⟨.int .i64,.scalar⟩),
 (4,⟨.bool,.scalar⟩),
 (5,⟨.int .u8,.scalar⟩),
 (6,⟨.int .u8,.scalar⟩),
 (7,⟨.st (.pair (.int .i64) (.pair (.int .i64) (.pair .bool (.int .u8)))),.struct [(0,2),(1,3),(2,4),(3,6)]⟩),
 (8,⟨.st (.pair (.int .i64) (.pair (.int .i64) (.pair .bool (.int .u8)))),.struct [(0,2),(1,3),(2,4),(3,6)]⟩),
 (9,⟨.str,.scalar⟩),
 (10,⟨.str,.scalar⟩),
 (11,⟨.str,.scalar⟩),
 (12,⟨.int .u64,.scalar⟩),
 (13,⟨.st (.pair .str (.int .u64)),.struct [(0,9),(1,12)]⟩),
 (14,⟨.st (.pair .str (.int .u64)),.struct [(0,9),(1,12)]⟩),
 (15,⟨.nilv 0,.nul⟩),
 (16,⟨.nilv 0,.nul⟩),
 (17,⟨.nilv 0,.nul⟩),
 (18,⟨.st (.nilv 0),.struct [(0,17)]⟩),
 (19,⟨.st (.nilv 0),.struct [(0,17)]⟩),
 (20,⟨.nilv 1,.nul⟩),
 (21,⟨.int .i32,.scalar⟩),
 (22,⟨.sl (.st (.pair (.int .i64) (.pair (.int .i64) (.pair (.sl (.int .i64)) (.pair (.int .i64) (.pair (.int .i64) (.sl (.int .i64)))))))),.slice 76 80⟩),
 (23,⟨.st (.pair (.int .i64) (.pair (.int .i64) (.sl (.st (.pair (.int .i64) (.pair (.int .i64) (.pair (.sl (.int .i64)) (.pair (.int .i64) (.pair (.int .i64) (.sl (.int .i64))))))))))),.struct [(0,3),(1,3),(2,22)]⟩),
 (24,⟨.st (.pair (.int .i64) (.pair (.int .i64) (.sl (.st (.pair (.int .i64) (.pair (.int .i64) (.pair (.sl (.int .i64)) (.pair (.int .i64) (.pair (.int .i64) (.sl (.int .i64))))))))))),.struct [(0,3),(1,3),(2,22)]⟩),
 (25,⟨.sl (.int .i64),.slice 3 8⟩),
 (27,⟨.sl .str,.slice 9 16⟩),
 (28,⟨.st (.pair (.sl .str) (.pair (.sl (.int .i64)) (.int .i64))),.struct [(0,27),(1,25),(2,3)]⟩),
 (29,⟨.st (.pair (.sl .str) (.pair (.sl (.int .i64)) (.int .i64))),.struct [(0,27),(1,25),(2,3)]⟩),
 (30,⟨.st (.pair (.int .i64) (.int .i64)),.struct [(0,3),(1,3)]⟩),
 (31,⟨.st (.pair (.int .i64) (.int .i64)),.struct [(0,3),(1,3)]⟩),
 (40,⟨.sl (.st (.pair (.ar 8 (.st (.pair .bool (.sl (.int .i64))))) (.int .i64))),.slice 48 264⟩),
 (44,⟨.st (.pair .bool (.sl (.int .i64))),.struct [(0,4),(1,25)]⟩),
 (45,⟨.st (.pair .bool (.sl (.int .i64))),.struct [(0,4),(1,25)]⟩),
 (46,⟨.ar 8 (.st (.pair .bool (.sl (.int .i64)))),.arr 8 45⟩),
 (47,⟨.st (.pair (.ar 8 (.st (.pair .bool (.sl (.int .i64))))) (.int .i64)),.struct [(0,46),(16,3)]⟩),
 (48,⟨.st (.pair (.ar 8 (.st (.pair .bool (.sl (.int .i64))))) (.int .i64)),.struct [(0,46),(16,3)]⟩),
 (51,⟨.sl (.st (.pair (.sl (.int .i64)) (.pair (.sl (.int .i64)) .str))),.slice 64 64⟩),
 (56,⟨.sl (.sl .str),.slice 27 24⟩),
 (59,⟨.sl (.sl (.st (.pair (.ar 8 (.st (.pair .bool (.sl (.int .i64))))) (.int .i64)))),.slice 40 24⟩),
 (63,⟨.st (.pair (.sl (.int .i64)) (.pair (.sl (.int .i64)) .str)),.struct [(0,25),(1,25),(2,9)]⟩),
 (64,⟨.st (.pair (.sl (.int .i64)) (.pair (.sl (.int .i64)) .str)),.struct [(0,25),(1,25),(2,9)]⟩),
 (66,⟨.sl (.int .u32),.slice 148 4⟩),
 (67,⟨.st (.pair .bool (.sl (.int .u32))),.struct [(0,4),(1,66)]⟩),
 (68,⟨.st (.pair .bool (.sl (.int .u32))),.struct [(0,4),(1,66)]⟩),
 (69,⟨.ar 8 (.st (.pair .bool (.sl (.int .u32)))),.arr 8 68⟩),
 (70,⟨.st (.pair (.ar 8 (.st (.pair .bool (.sl (.int .u32))))) (.int .i64)),.struct [(0,69),(16,3)]⟩),
 (71,⟨.st (.pair (.ar 8 (.st (.pair .bool (.sl (.int .u32))))) (.int .i64)),.struct [(0,69),(16,3)]⟩),
 (75,⟨.st (.pair (.int .i64) (.pair (.int .i64) (.pair (.sl (.int .i64)) (.pair (.int .i64) (.pair (.int .i64) (.sl (.int .i64))))))),.struct [(0,3),(1,3),(2,25),(3,3),(4,3),(5,25)]⟩),
 (76,⟨.st (.pair (.int .i64) (.pair (.int .i64) (.pair (.sl (.int .i64)) (.pair (.int .i64) (.pair (.int .i64) (.sl (.int .i64))))))),.struct [(0,3),(1,3),(2,25),(3,3),(4,3),(5,25)]⟩),
 (78,⟨.nilv 0,.nul⟩),
 (81,⟨.sl (.st (.pair (.ar 8 (.st (.pair .bool (.sl (.int .u32))))) (.int .i64))),.slice 71 264⟩),
 (82,⟨.sl (.st (.pair (.ar 8 (.st (.pair .bool (.sl (.int .u32))))) (.int .i64))),.slice 71 264⟩),
 (83,⟨.st (.pair (.st (.pair (.int .i64) (.pair (.int .i64) (.sl (.st (.pair (.int .i64) (.pair (.int .i64) (.pair (.sl (.int .i64)) (.pair (.int .i64) (.pair (.int .i64) (.sl (.int .i64)))))))))))) (.pair (.sl (.st (.pair (.ar 8 (.st (.pair .bool (.sl (.int .u32))))) (.int .i64)))) (.pair (.sl (.int .i64)) (.pair (.int .i64) (.int .i64))))),.struct [(0,24),(3,82),(4,25),(5,3),(6,3)]⟩),
 (84,⟨.st (.pair (.st (.pair (.int .i64) (.pair (.int .i64) (.sl (.st (.pair (.int .i64) (.pair (.int .i64) (.pair (.sl (.int .i64)) (.pair (.int .i64) (.pair (.int .i64) (.sl (.int .i64)))))))))))) (.pair (.sl (.st (.pair (.ar 8 (.st (.pair .bool (.sl (.int .u32))))) (.int .i64)))) (.pair (.sl (.int .i64)) (.pair (.int .i64) (.int .i64))))),.struct [(0,24),(3,82),(4,25),(5,3),(6,3)]⟩),
 (103,⟨.nilv 3,.nul⟩),
 (106,⟨.sl (.sl (.st (.pair (.ar 8 (.st (.pair .bool (.sl (.int .u32))))) (.int .i64)))),.slice 81 24⟩),
 (114,⟨.sl (.st (.pair .bool (.sl (.int .u32)))),.slice 68 32⟩),
 (122,⟨.sl (.int .u8),.slice 5 1⟩),
 (123,⟨.int .u64,.scalar⟩),
 (129,⟨.st (.st (.pair (.int .i64) (.int .i64))),.struct [(0,31)]⟩),
 (130,⟨.st (.st (.pair (.int .i64) (.int .i64))),.struct [(0,31)]⟩),
 (133,⟨.nilv 0,.nul⟩),
 (134,⟨.st (.pair .str (.int .i64)),.struct [(0,9),(1,3)]⟩),
 (135,⟨.st (.pair .str (.int .i64)),.struct [(0,9),(1,3)]⟩),
 (139,⟨.nilv 1,.nul⟩),
 (140,⟨.nilv 1,.nul⟩),
 (145,⟨.nilv 0,.nul⟩),
 (148,⟨.int .u32,.scalar⟩),
 (149,⟨.int .u64,.scalar⟩),
 (151,⟨.nilv 0,.nul⟩),
 (152,⟨.st (.pair (.nilv 0) (.sl (.int .u8))),.struct [(0,151),(1,122)]⟩),
 (153,⟨.st (.pair (.nilv 0) (.sl (.int .u8))),.struct [(0,151),(1,122)]⟩),
 (164,⟨.nilv 0,.nul⟩),
 (179,⟨.nilv 0,.nul⟩),
 (182,⟨.nilv 3,.nul⟩),
 (184,⟨.nilv 3,.nul⟩),
 (185,⟨.ar 12 .bool,.arr 12 4⟩),
 (187,⟨.int .i64,.scalar⟩),
 (190,⟨.nilv 0,.nul⟩),
 (204,⟨.ar 24 (.int .u8),.arr 24 5⟩),
 (212,⟨.st (.pair .str (.pair .str (.nilv 1))),.struct [(0,9),(1,9),(2,140)]⟩),
 (213,⟨.st (.pair .str (.pair .str (.nilv 1))),.struct [(0,9),(1,9),(2,140)]⟩),
 (215,⟨.ar 32 (.int .u8),.arr 32 5⟩),
 (219,⟨.ar 20 (.int .u64),.arr 20 123⟩),
 (220,⟨.ar 65 (.int .u8),.arr 65 5⟩),
 (223,⟨.nilv 0,.nul⟩),
 (224,⟨.st .str,.struct [(0,9)]⟩),
 (225,⟨.st .str,.struct [(0,9)]⟩),
 (226,⟨.ar 64 (.int .u8),.arr 64 5⟩),
 (227,⟨.st (.pair (.nilv 0) (.pair (.nilv 0) (.pair (.nilv 0) .str))),.struct [(0,17),(1,17),(2,17),(3,9)]⟩),
 (228,⟨.st (.pair (.nilv 0) (.pair (.nilv 0) (.pair (.nilv 0) .str))),.struct [(0,17),(1,17),(2,17),(3,9)]⟩),
 (229,⟨.ar 0 (.nilv 0),.arr 0 16⟩),
 (230,⟨.st (.ar 0 (.nilv 0)),.struct [(0,229)]⟩),
 (231,⟨.st (.ar 0 (.nilv 0)),.struct [(0,229)]⟩),
 (232,⟨.int .u8,.scalar⟩),
 (233,⟨.int .u8,.scalar⟩),
 (235,⟨.int .i32,.scalar⟩),
 (236,⟨.int .i32,.scalar⟩),
 (237,⟨.st (.pair (.int .u64) (.pair (.int .u64) (.pair (.int .u32) (.pair (.int .u8) (.pair (.int .u8) (.pair (.int .u8) (.pair (.int .u8) (.pair (.nilv 3) (.pair (.nilv 0) (.pair (.int .i32) (.int .i32))))))))))),.struct [(0,12),(1,12),(2,148),(3,232),(4,5),(5,5),(6,233),(7,234),(8,179),(9,235),(10,236)]⟩),
 (238,⟨.st (.pair (.int .u64) (.pair (.int .u64) (.pair (.int .u32) (.pair (.int .u8) (.pair (.int .u8) (.pair (.int .u8) (.pair (.int .u8) (.pair (.nilv 3) (.pair (.nilv 0) (.pair (.int .i32) (.int .i32))))))))))),.struct [(0,12),(1,12),(2,148),(3,232),(4,5),(5,5),(6,233),(7,234),(8,179),(9,235),(10,236)]⟩)]
theorem mixed:Go.Proofs.Tryz.prog.follows .mixedOrders=true:=by kernel_rfl
theorem VI:TabOk Go.Proofs.Tryz.prog tab:=tabB_ok (by kernel_rfl)
def VL:Eqs:=⟨[31],[(163,ones_sc)]⟩
theorem YW:EqsOk Go.Proofs.Tryz.prog tab VL:=eqsB_seqs (by kernel_rfl) fun f sc h=>by
 simp only [Go.Ql.look] at h
 cases hb:Nat.beq 163 f with
 | false=>rw [hb] at h;cases h
 | true=>rw [hb] at h;cases h;rw [←beqN.1 hb];exact Go.Proofs.Tryz.ones_seq
def Jy (x:Int):Option Int:=bif decide (0≤x)&&decide (x<4294967296) then some (Go.Lib.ctz 32 x.toNat:Int) else none
def Jy.ce:Go.Ql.Callee:=⟨[(.int .u32)],[(.int .i64)],fun x_=>Jy x_⟩
theorem Jy.some {x r:Int} (h:Jy x=Option.some r):∃n:Nat,x=n∧n<4294967296∧r=(Go.Lib.ctz 32 n:Int):=by
 unfold Jy at h
 cases hb:decide (0≤x)&&decide (x<4294967296) with
 | false=>rw [hb] at h;cases h
 | true=>
   rw [hb] at h
   simp only [Bool.and_eq_true,decide_eq_true_eq] at hb
   obtain ⟨n,rfl⟩:=Int.eq_ofNat_of_zero_le hb.1
   have h:=Option.some.inj h
   exact ⟨n,rfl,by omega,by rw [←h,Int.toNat_natCast]⟩
theorem Jy.ok:CalleeOk Go.Proofs.Tryz.prog 148 Jy.ce:=by
 refine ⟨⟨Go.Proofs.Tryz.f148,Go.Proofs.Tryz.func148,by kernel_rfl,by kernel_rfl⟩,fun w Z vs x r hg hZ ha hr=>?_⟩
 obtain ⟨v,rfl,hv⟩:=ha
 change [v]=[Value.int .u32 x] at hv
 obtain rfl:=List.cons.inj hv |>.1
 obtain ⟨n,hn,hx,hr'⟩:=Jy.some hr
 subst hr'
 have hn':Value.int .u32 x=Value.int .u32 (n:Int):=congrArg _ hn
 rw [hn']
 exact (Go.Proofs.YtaehnephoppjmaaGreatDoor.tz32 n hx w hg.1).mono fun e w' ⟨he,hw⟩=>⟨_,he,hw▸Same.refl w,rfl⟩
def strconv_Itoa (x:Int):Option (List UInt8):=bif decide (-9223372036854775808≤x)&&decide (x≤9223372036854775807) then some (Go.Lib.itoa x) else none
def strconv_Itoa.ce:Go.Ql.Callee:=⟨[(.int .i64)],[.str],fun x_=>strconv_Itoa x_⟩
theorem strconv_Itoa.ok:CalleeOk Go.Proofs.Tryz.prog 63 strconv_Itoa.ce:=by
 refine ⟨⟨Go.Proofs.Tryz.f63,Go.Proofs.Tryz.func63,by kernel_rfl,by kernel_rfl⟩,fun w Z vs x r hg hZ ha hr=>?_⟩
 obtain ⟨v,rfl,hv⟩:=ha
 change [v]=[Value.int .i64 x] at hv
 obtain rfl:=List.cons.inj hv |>.1
 have hr:strconv_Itoa x=some r:=hr
 change Int at x
 unfold strconv_Itoa at hr
 cases hb:decide (-9223372036854775808≤x)&&decide (x≤9223372036854775807) with
 | false=>rw [hb] at hr;cases hr
 | true=>
   rw [hb] at hr
   simp only [Bool.and_eq_true,decide_eq_true_eq] at hb
   obtain rfl:=Option.some.inj hr
   refine (Go.Proofs.Tryz.strconv_Itoa x hb.1 hb.2 w hg.2).mono fun e w' ⟨he,k,os,hw⟩=>⟨_,he,?_,rfl⟩
   subst hw
   refine ⟨rfl,rfl,rfl,by simp [Go.Sort.grow,World.drewN],fun b hb=>?_⟩
   show (w.heap++os)[b]?=w.heap[b]?
   rw [Array.getElem?_append_left hb]
def strings_Join (xs:List (List UInt8)) (sep:List UInt8):Option (List UInt8):=
 bif decide (List.length xs≤140737488355328)&&decide (List.length (Go.Lib.join xs sep)≤140737488355328) then some (Go.Lib.join xs sep) else none
def strings_Join.ce:Go.Ql.Callee:=⟨[.sl .str,.str],[.str],fun x_=>strings_Join x_.1 x_.2⟩
theorem join_cells {w:World} {Z:Nat→Prop}:∀{xs:List (List UInt8)} {cells:List Value},rdAll (rdC w Z .str) cells xs→cells=xs.map fun x=>Value.string ⟨List.toArray x⟩
 | [],_,h=>h
 | x::r,_,⟨c1,c2,e,h1,h2⟩=>by
   have h1:c1=[.string ⟨List.toArray x⟩]:=h1
   rw [e,h1,join_cells h2];rfl
theorem strings_Join.ok:CalleeOk Go.Proofs.Tryz.prog 62 strings_Join.ce:=by
 refine ⟨⟨Go.Proofs.Tryz.f62,Go.Proofs.Tryz.func62,by kernel_rfl,by kernel_rfl⟩,?_⟩
 rintro w Z vs ⟨xs,sep⟩ r _ hZ hvs hF
 obtain ⟨v1,t1,rfl,h1,v2,rfl,h2⟩:∃v1 t1,vs=v1::t1∧rdV w Z (.sl .str) v1 xs ∧ ∃v2,t1=[v2]∧v2=.string ⟨List.toArray sep⟩:=by
  obtain ⟨v,t,e,hv,u,e2,hu⟩:=hvs
  exact ⟨v,t,e,hv,u,e2,(List.cons.inj hu).1⟩
 subst h2
 have hF:strings_Join xs sep=some r:=hF
 unfold strings_Join at hF
 cases hb:decide (List.length xs≤140737488355328)&&decide (List.length (Go.Lib.join xs sep)≤140737488355328) with
 | false=>rw [hb] at hF;cases hF
 | true=>
   rw [hb] at hF
   simp only [Bool.and_eq_true,decide_eq_true_eq] at hb
   obtain rfl:=Option.some.inj hF
   obtain ⟨v,hv,h1⟩:=h1
   obtain rfl:=List.cons.inj hv |>.1
   have none_case:∀ad c,xs=[]→Calls Go.Proofs.Tryz.prog 62 [Value.slice ad 0 c,.string ⟨List.toArray sep⟩].toArray w fun e w'=>∃v,e=.returned v∧Same w w'∧rdRes w' (VN w w' Z) [.str] (Go.Lib.join xs sep) v:=by
    rintro ad c rfl
    refine (Go.Proofs.Tryz.strings_Join_none ad c _ w).mono ?_
    rintro e w' ⟨rfl,rfl⟩
    exact ⟨_,rfl,Same.refl _,rfl⟩
   rcases h1 with ⟨rfl,hx⟩ | ⟨b,off,cap,cells,rfl,hc,hm,hz,hr,hcl⟩ | ⟨ad,cap,rfl,hx,_⟩
   ·exact none_case none 0 hx
   ·have hcs:=join_cells hr
    have hmap:(xs.map fun x=>(⟨List.toArray x⟩:ByteArray)).map (·.data.toList)=xs:=by
     rw [List.map_map]
     conv=>rhs;rw [←List.map_id xs]
     rfl
    have key:=Go.Proofs.Tryz.strings_Join b off cap (xs.map fun x=>⟨List.toArray x⟩) ⟨List.toArray sep⟩ w (fun j x hx=>by
     refine hcl j _ ?_
     rw [hcs,List.getElem?_map]
     rw [List.getElem?_map,Option.map_eq_some_iff] at hx
     obtain ⟨y,hy,rfl⟩:=hx
     rw [hy];rfl) (hZ b hz) (by simpa using hb.1) (by simpa using hc) (by rw [hmap];simpa using hb.2)
    rw [List.length_map,hmap] at key
    refine key.mono ?_
    rintro e w' ⟨rfl,hB⟩
    exact ⟨_,rfl,⟨hB.os,hB.tape,hB.output,hB.size,hB.block⟩,rfl⟩
   ·exact none_case (some ad) cap hx
def tb:TB Go.Proofs.Tryz.prog:=⟨tab,VL,VI,YW,mixed⟩
end
end W
end
