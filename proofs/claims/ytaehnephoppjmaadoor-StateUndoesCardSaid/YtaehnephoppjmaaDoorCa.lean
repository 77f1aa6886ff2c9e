/- Contracts of Go's library and of an iterator; the seat's types; what is known of its variables. -/
import Derived.Test.YtaehnephoppjmaaDoorLf
import Derived.Shelf.Abstract
import Derived.WalkKit
import Derived.OwnWalkIn
import Derived.TacticsInMore
import Derived.LoopNIn
import Derived.LoopIn
import Derived.Test.YtaehnephoppjmaaDoorProg
import Derived.Shelf.Spec.TrailingZeros
import Derived.Shelf.LaysM
import Derived.Shelf.Strings.OnBuilder
import Derived.Shelf.Strconv.Itoa3
import Derived.Shelf.Strconv.Itoa4
import Derived.Ground.Names2Prog
set_option linter.all false
section
namespace W
open Go Go.Ql
def onesF (m:Int):Nat→Int→List Int
 | 0,_=>[]
 | j+1,i=>(if ibits .and .i64 i m=m then [i] else [])++onesF m j (i+1)
def onesL (x:Int×Int):List Int:=onesF x.2 x.1.toNat 0
abbrev ones_sc:SeqC:=⟨83,[.len,.int .i64],.i64,onesL⟩
end W
namespace Go.Proofs
open Go.RowKit Go.Shelf Go.Ql W
attribute [local go_sem] Oper.semAt_some
set_option maxRecDepth 100000 in
set_option maxHeartbeats 2000000 in
theorem Tryd.ones_walk (l:Nat) (ad:Option Addr) (N cap:Nat) (m:Int) (b1 o1 b2 o2:Nat) (hN:N≤maxLen) (J:List Int→World→Prop) (Kp:World→Prop)
 (hY:∀pre x W1,J pre W1→(∃r,onesL (N,m)=pre++x::r)→Kp W1→YieldAt (Fr none) 0 Tryd.prog l #[.int .i64 x] W1 fun e W'=>e=.returned (.bool true)∧J (pre++[x]) W'∧Kp W')
 (hK1:∀W,Kp W→W.cell? ⟨b1,o1,none⟩=some (.slice ad N cap)∧W.cell? ⟨b2,o2,none⟩=some (.int .i64 m)) (W:World) (h0:J [] W) (hk0:Kp W) :
 CallsIn (Fr none) 0 Tryd.prog 83 #[.func (.yield l) #[] #[],.pointer (some ⟨b1,o1,none⟩),.pointer (some ⟨b2,o2,none⟩)] W fun e W'=>(∃v,e=.returned v)∧J (onesL (N,m)) W':=by
 refine callsIn_of_wp Tryd.func83 rfl trivial ?_ rfl
 simp only [Tryd.ntmps83,List.size_toArray,List.length_cons,List.length_nil,Nat.reduceAdd,Nat.reduceSub,Array.replicate_succ,Array.replicate_zero,List.push_toArray,List.append_toArray,List.nil_append,List.cons_append]
 obtain ⟨c1,c2⟩:=hK1 W hk0
 gi_wp2
 gi_loopw [7] (fun p wr=>∃(i:Nat) (pre:List Int),p=.int .i64 (i:Int)∧i≤N∧onesL (N,m)=pre++onesF m (N-i) i∧J pre wr∧Kp wr)
  (fun p wr=>match p with | .int _ i=>N-i.toNat | _=>0)
 case atStart=>exact ⟨0,[],rfl,by omega,rfl,h0,hk0⟩
 case round=>
  obtain ⟨i,pre,rfl,hi,hx,hJ,hk⟩:=hrel
  obtain ⟨d1,d2⟩:=hK1 wr hk
  by_cases hlt:i<N
  ·have hlt':((i:Int)<(N:Int))=True:=by simp [hlt]
   have hw:wrap64 ((i:Int)+1)=(i:Int)+1:=by
    have:maxLen≤9223372036854775807:=by decide
    simp only [wrap64];omega
   have hrest:onesF m (N-i) i=(if ibits .and .i64 i m=m then [(i:Int)] else [])++onesF m (N-(i+1)) ((i:Int)+1):=by
    rw [show N-i=(N-(i+1))+1 by omega];rfl
   by_cases hb:ibits .and .i64 i m=m
   ·rw [if_pos hb] at hrest
    obtain ⟨fn,tmps,assign,body,hy,hR⟩:=hY pre i wr hJ ⟨_,by rw [hx,hrest];rfl⟩ hk
    gi_wp2
    refine hR.mono ?_
    rintro e W3 ⟨rfl,hJ3,hk3⟩
    gi_wp2
    refine ⟨⟨i+1,pre++[(i:Int)],?_,by omega,?_,hJ3,hk3⟩,?_⟩
    ·rw [hw];rfl
    ·rw [hx,hrest];simp
    ·rw [hw];show N-((i:Int)+1).toNat<N-(i:Int).toNat;omega
   ·rw [if_neg hb] at hrest
    gi_wp2
    refine ⟨⟨i+1,pre,?_,by omega,?_,hJ,hk⟩,?_⟩
    ·rw [hw];rfl
    ·rw [hx,hrest];simp
    ·rw [hw];show N-((i:Int)+1).toNat<N-(i:Int).toNat;omega
  ·have hlt':((i:Int)<(N:Int))=False:=by simp;omega
   gi_wp2
   go_end0
   have e0:N-i=0:=by omega
   rw [e0] at hx
   exact ⟨⟨_,rfl⟩,by rw [hx];simpa [onesF] using hJ⟩
theorem Tryd.ones_seq:SeqOk Tryd.prog 83 ones_sc:=by
 refine ⟨⟨Tryd.f83,Tryd.func83,by kernel_rfl,by kernel_rfl⟩,fun w Z vs x hZ hc=>?_⟩
 obtain ⟨v1,r,rfl,⟨b1,o1,cs1,rfl,z1,⟨ad,cap,e1,e2,e3⟩,h1⟩,v2,rfl,b2,o2,cs2,rfl,z2,e4,h2⟩:=hc
 obtain ⟨N,m⟩:=x
 subst e1
 have e4:cs2=[.int .i64 m]:=e4
 subst e4
 have c1:=h1 0 _ rfl
 have c2:=h2 0 _ rfl
 simp only [Nat.add_zero] at c1 c2
 intro l J W hs hJ hY h0
 obtain ⟨N',hN'⟩:=Int.eq_ofNat_of_zero_le (show (0:Int)≤N from e2)
 have hN':N=(N':Int):=hN'
 subst hN'
 have hZW:∀b,Z b→W.heap[b]?=w.heap[b]?:=fun b hb=>hs.block b (hZ b hb)
 refine Tryd.ones_walk l ad N' cap m b1 o1 b2 o2 (by simpa using e3) J (fun W'=>∀b,Z b→W'.heap[b]?=w.heap[b]?) ?_ ?_ W h0 hZW
 ·intro pre y W1 hj hr hk
  obtain ⟨fn,tmps,asg,body,q1,q2⟩:=hY pre y W1 hj hr
  refine ⟨fn,tmps,asg,body,q1,q2.mono ?_⟩
  rintro e W' ⟨rfl,h3,h4⟩
  exact ⟨rfl,h3,fun b hb=>(h4 b hb).trans (hk b hb)⟩
 ·intro W' hk
  exact ⟨VW (hk b1 z1) _ _ (by simpa using c1),VW (hk b2 z2) _ _ c2⟩
end Go.Proofs
end

section
namespace Go.Proofs
open Go.Shelf
def Tryd.lays156_ren:Go.Shelf.Ren:=⟨fun | 156=>55 | 165=>72 | 166=>73 | 169=>74 | 240=>85 | 241=>86 | 276=>97 | 277=>98 | n=>n,fun | 31=>32 | 9=>9 | 3=>3 | 4=>4 | 0=>0 | 20=>20 | 72=>113 | 76=>116 | 70=>111 | 37=>105 | 75=>115 | 127=>123 | 164=>134 | 5=>5 | 80=>79 | n=>n,fun | n=>n⟩
theorem Tryd.lays156:Go.Proofs.Lays.n156 Tryd.prog Tryd.lays156_ren:={
 mixed:=by kernel_rfl
 f156:=Tryd.func55.trans (congrArg some (by kernel_rfl))
 f165:=Tryd.func72.trans (congrArg some (by kernel_rfl))
 f166:=Tryd.func73.trans (congrArg some (by kernel_rfl))
 f169:=Tryd.func74.trans (congrArg some (by kernel_rfl))
 f240:=Tryd.func85.trans (congrArg some (by kernel_rfl))
 f241:=Tryd.func86.trans (congrArg some (by kernel_rfl))
 f276:=Tryd.func97.trans (congrArg some (by kernel_rfl))
 f277:=Tryd.func98.trans (congrArg some (by kernel_rfl))
 t0:=Tryd.underlying0
 a0:=Tryd.isAgg0
 z0:=Tryd.sizeOf0
 v0:=Tryd.zeroValue0
 t3:=Tryd.underlying3
 a3:=Tryd.isAgg3
 z3:=Tryd.sizeOf3
 v3:=Tryd.zeroValue3
 t4:=Tryd.underlying4
 a4:=Tryd.isAgg4
 z4:=Tryd.sizeOf4
 v4:=Tryd.zeroValue4
 t9:=Tryd.underlying9
 a9:=Tryd.isAgg9
 z9:=Tryd.sizeOf9
 v9:=Tryd.zeroValue9
 t20:=Tryd.underlying20
 a20:=Tryd.isAgg20
 z20:=Tryd.sizeOf20
 v20:=Tryd.zeroValue20
 t31:=Tryd.underlying32
 a31:=Tryd.isAgg32
 z31:=Tryd.sizeOf32
 v31:=Tryd.zeroValue32
 t37:=Tryd.underlying105
 a37:=Tryd.isAgg105
 z37:=Tryd.sizeOf105
 v37:=Tryd.zeroValue105
 t70:=Tryd.underlying111
 a70:=Tryd.isAgg111
 z70:=Tryd.sizeOf111
 v70:=Tryd.zeroValue111
 t72:=Tryd.underlying113
 a72:=Tryd.isAgg113
 z72:=Tryd.sizeOf113
 v72:=Tryd.zeroValue113
 t75:=Tryd.underlying115
 a75:=Tryd.isAgg115
 z75:=Tryd.sizeOf115
 v75:=Tryd.zeroValue115
 t76:=Tryd.underlying116
 a76:=Tryd.isAgg116
 z76:=Tryd.sizeOf116
 v76:=Tryd.zeroValue116
 t127:=Tryd.underlying123
 a127:=Tryd.isAgg123
 z127:=Tryd.sizeOf123
 v127:=Tryd.zeroValue123
 t164:=Tryd.underlying134
 a164:=Tryd.isAgg134
 z164:=Tryd.sizeOf134
 v164:=Tryd.zeroValue134 }
theorem Tryd.Builder_Extra_156:Builder.Extra Tryd.prog Tryd.lays156_ren where
 sizeBuilder:=by kernel_rfl
 liesBuilder:=by kernel_rfl
 t5:=Tryd.underlying5
 a5:=Tryd.isAgg5
 z5:=Tryd.sizeOf5
 v5:=Tryd.zeroValue5
 infoByte:=by kernel_rfl
 cellsByte:=by kernel_rfl
 sizeByte:=by kernel_rfl
 neB5:=by decide
open Go.RowKit in
theorem Tryd.strings_Join_none (a:Option Addr) (c:Nat) (sep:ByteArray) (w:World) :
 Calls Tryd.prog 55 #[.slice a 0 c,.string sep] w fun e w'=>e=.returned (.string ⟨#[]⟩)∧w'=w:=Any.strings_Join_none Tryd.lays156 Tryd.Builder_Extra_156 a c sep w
open Go.RowKit in
theorem Tryd.strings_Join (bk o c:Nat) (xs:List ByteArray) (sep:ByteArray) (w:World) (hcells:∀(j:Nat) x,xs[j]?=some x→w.cell? ⟨bk,o+j,none⟩=some (.string x)) (hbk:bk<w.heap.size) (hN:xs.length≤140737488355328) (hcap:xs.length≤c) (hlen:(Lib.join (xs.map (·.data.toList)) sep.data.toList).length≤140737488355328) :
 Calls Tryd.prog 55 #[.slice (some ⟨bk,o,none⟩) xs.length c,.string sep] w fun e w'=>e=.returned (.string ⟨(Lib.join (xs.map (·.data.toList)) sep.data.toList).toArray⟩)∧Below w.heap.size w w':=Any.strings_Join Tryd.lays156 Tryd.Builder_Extra_156 bk o c xs sep w hcells hbk hN hcap hlen
def Tryd.laysM171_ren:Go.Shelf.Ren:=⟨fun | 171=>56 | 243=>75 | 246=>87 | 283=>99 | 284=>100 | 285=>101 | 286=>102 | 129=>106 | 317=>105 | 318=>107 | 319=>108 | 320=>109 | 337=>96 | 338=>110 | n=>n,fun | 3=>3 | 9=>9 | 2=>2 | 4=>4 | 171=>137 | 0=>0 | 53=>108 | 37=>105 | 5=>5 | 173=>140 | 212=>146 | 51=>107 | 20=>20 | 213=>147 | 46=>109 | 232=>143 | 233=>149 | n=>n,fun | 17=>2 | 18=>0 | 19=>3 | n=>n⟩
theorem Tryd.laysM171:Go.Proofs.LaysM.n171 Tryd.prog Tryd.laysM171_ren:={
 mixed:=by kernel_rfl
 f129:=Tryd.func106.trans (congrArg some (by kernel_rfl))
 f171:=Tryd.func56.trans (congrArg some (by kernel_rfl))
 f243:=Tryd.func75.trans (congrArg some (by kernel_rfl))
 f246:=Tryd.func87.trans (congrArg some (by kernel_rfl))
 f283:=Tryd.func99.trans (congrArg some (by kernel_rfl))
 f284:=Tryd.func100.trans (congrArg some (by kernel_rfl))
 f285:=Tryd.func101.trans (congrArg some (by kernel_rfl))
 f286:=Tryd.func102.trans (congrArg some (by kernel_rfl))
 f317:=Tryd.func105.trans (congrArg some (by kernel_rfl))
 f318:=Tryd.func107.trans (congrArg some (by kernel_rfl))
 f319:=Tryd.func108.trans (congrArg some (by kernel_rfl))
 f320:=Tryd.func109.trans (congrArg some (by kernel_rfl))
 f337:=Tryd.func96.trans (congrArg some (by kernel_rfl))
 f338:=Tryd.func110.trans (congrArg some (by kernel_rfl))
 t0:=Tryd.underlying0
 a0:=Tryd.isAgg0
 z0:=Tryd.sizeOf0
 v0:=Tryd.zeroValue0
 t2:=Tryd.underlying2
 a2:=Tryd.isAgg2
 z2:=Tryd.sizeOf2
 v2:=Tryd.zeroValue2
 t3:=Tryd.underlying3
 a3:=Tryd.isAgg3
 z3:=Tryd.sizeOf3
 v3:=Tryd.zeroValue3
 t4:=Tryd.underlying4
 a4:=Tryd.isAgg4
 z4:=Tryd.sizeOf4
 v4:=Tryd.zeroValue4
 t5:=Tryd.underlying5
 a5:=Tryd.isAgg5
 z5:=Tryd.sizeOf5
 v5:=Tryd.zeroValue5
 t9:=Tryd.underlying9
 a9:=Tryd.isAgg9
 z9:=Tryd.sizeOf9
 v9:=Tryd.zeroValue9
 t20:=Tryd.underlying20
 a20:=Tryd.isAgg20
 z20:=Tryd.sizeOf20
 v20:=Tryd.zeroValue20
 t37:=Tryd.underlying105
 a37:=Tryd.isAgg105
 z37:=Tryd.sizeOf105
 v37:=Tryd.zeroValue105
 t46:=Tryd.underlying109
 a46:=Tryd.isAgg109
 z46:=Tryd.sizeOf109
 v46:=Tryd.zeroValue109
 t51:=Tryd.underlying107
 a51:=Tryd.isAgg107
 z51:=Tryd.sizeOf107
 v51:=Tryd.zeroValue107
 t53:=Tryd.underlying108
 a53:=Tryd.isAgg108
 z53:=Tryd.sizeOf108
 v53:=Tryd.zeroValue108
 t171:=Tryd.underlying137
 a171:=Tryd.isAgg137
 z171:=Tryd.sizeOf137
 v171:=Tryd.zeroValue137
 t173:=Tryd.underlying140
 a173:=Tryd.isAgg140
 z173:=Tryd.sizeOf140
 v173:=Tryd.zeroValue140
 t212:=Tryd.underlying146
 a212:=Tryd.isAgg146
 z212:=Tryd.sizeOf146
 v212:=Tryd.zeroValue146
 t213:=Tryd.underlying147
 a213:=Tryd.isAgg147
 z213:=Tryd.sizeOf147
 t232:=Tryd.underlying143
 a232:=Tryd.isAgg143
 z232:=Tryd.sizeOf143
 v232:=Tryd.zeroValue143
 t233:=Tryd.underlying149
 a233:=Tryd.isAgg149
 z233:=Tryd.sizeOf149
 v233:=Tryd.zeroValue149
 g17:=by kernel_rfl
 g18:=by kernel_rfl
 g19:=by kernel_rfl
 i0:=by kernel_rfl
 i2:=by kernel_rfl
 i3:=by kernel_rfl
 i4:=by kernel_rfl
 i5:=by kernel_rfl
 i9:=by kernel_rfl
 i20:=by kernel_rfl
 i37:=by kernel_rfl
 i46:=by kernel_rfl
 i51:=by kernel_rfl
 i53:=by kernel_rfl
 i171:=by kernel_rfl
 i173:=by kernel_rfl
 i212:=by kernel_rfl
 i232:=by kernel_rfl
 i233:=by kernel_rfl
 m17:=by kernel_rfl
 m18:=by kernel_rfl
 m19:=by kernel_rfl }
open Go.RowKit Go.Sort Go.Lib in
theorem Tryd.strconv_Itoa (n : Int) (h0 : -9223372036854775808 ≤ n) (h1 : n ≤ 9223372036854775807) (w : World) (htab : Lib.TabIs Tryd.prog w "internal/strconv.uint64pow10" .u64 Lib.pow10Tab) :
 Calls Tryd.prog 56 #[.int .i64 n] w fun e w'=>e=.returned (.string ⟨(Lib.itoa n).toArray⟩) ∧ ∃k os,w'=grow (w.drewN k) os:=Any.strconv_Itoa Tryd.laysM171 n h0 h1 w htab
end Go.Proofs
namespace Go.Proofs.YtaehnephoppjmaaDoor
open Go.RowKit Go.Proofs
theorem gPow : Tryd.prog.globalNamed "internal/strconv.uint64pow10" = some 2 := by kernel_rfl
set_option maxHeartbeats 1000000 in
theorem tz32_core (x k idx:Nat) (w:World) (hx0:((x:Int)==0)=false)
 (key:bits BinOp.and IntKind.u32 (x:Int) (-(x:Int) % 4294967296)*125613361 % 4294967296 / 134217728=(idx:Int))
 (hi:idx<32) (hk:k<32) (hcell:w.cell? ⟨0,idx,none⟩=some (.int .u8 k)) :
 Calls Tryd.prog 96 #[.int .u32 x] w fun e w'=>e=.returned (.int .i64 k)∧w'=w:=by
 go_enter Tryd.func96,Tryd.ntmps96
 go_wp2_with (simp only [key])
 go_ret
 exact ⟨rfl,rfl⟩
theorem tz32_zero (w:World) :
 Calls Tryd.prog 96 #[.int .u32 0] w fun e w'=>e=.returned (.int .i64 32)∧w'=w:=by
 go_enter Tryd.func96,Tryd.ntmps96
 go_wp2
 go_ret
 exact ⟨rfl,rfl⟩
theorem tz32 (x:Nat) (hx:x<4294967296) (w:World) (hT:TabAt 0 Lib.deBruijn32tab w) :
 Calls Tryd.prog 96 #[.int .u32 x] w fun e w'=>e=.returned (.int .i64 (Lib.ctz 32 x))∧w'=w:=by
 by_cases hx0:x=0
 ·subst hx0
  exact tz32_zero w
 ·obtain ⟨hlow,hk⟩:=Lib.lowest_bit 32 x hx0 hx
  obtain ⟨hi,htab⟩:=Lib.deBruijn32_at _ hk
  have hcell:=hT _ hi
  rw [htab] at hcell
  exact tz32_core x _ _ w (by simp;omega) (tz32_key x _ hx hx0 hlow) hi hk hcell
def PowAt (w : World) : Prop := Lib.TabIs Tryd.prog w "internal/strconv.uint64pow10" .u64 Lib.pow10Tab
end Go.Proofs.YtaehnephoppjmaaDoor
end

section
set_option maxHeartbeats 4000000
set_option maxRecDepth 100000
namespace W
open Go Go.Ql
noncomputable section
open Go.Proofs.YtaehnephoppjmaaDoor (PowAt)
theorem tabAt_keep {w w':World} {tab:List Nat} (h:∀b,b<3→w'.heap[b]?=w.heap[b]?) (ht:Go.Proofs.TabAt 0 tab w):Go.Proofs.TabAt 0 tab w':=by
 intro j hj
 have h0:=h 0 (by omega)
 have:=ht j hj
 simp only [World.cell?,h0] at this ⊢
 exact this
theorem powAt_keep {w w':World} (h:∀b,b<3→w'.heap[b]?=w.heap[b]?) (ht:PowAt w):PowAt w':=by
 have h0:=h 2 (by omega)
 unfold PowAt Lib.TabIs World.var? at ht ⊢
 rw [Go.Proofs.YtaehnephoppjmaaDoor.gPow] at ht ⊢
 simp only [Option.bind_some,h0] at ht ⊢
 exact ht
theorem powAt_size {w:World} (ht:PowAt w):3≤w.heap.size:=by
 by_cases hs:3≤w.heap.size
 ·exact hs
 ·have h0:w.heap[2]?=none:=by rw [Array.getElem?_eq_none_iff];omega
  unfold PowAt Lib.TabIs World.var? at ht
  rw [Go.Proofs.YtaehnephoppjmaaDoor.gPow] at ht
  simp [h0] at ht
instance gInv:GInv:=⟨fun w=>Go.Proofs.TabAt 0 Go.Lib.deBruijn32tab w∧PowAt w,3,fun h ht=>⟨tabAt_keep h ht.1,powAt_keep h ht.2⟩,fun ht=>powAt_size ht.2⟩
def tab:List (Nat×TI):=[(2,⟨.int .i64,.scalar⟩),
 (3,⟨.int .i64,.scalar⟩),
 (4,⟨.bool,.scalar⟩),
 (5,⟨.int .u8,.scalar⟩),
 (6,⟨.int .u8,.scalar⟩),
 (7,⟨.st (.pair (.int .i64) (.pair (.int .i64) (.pair .bool (.int .u8)))),.struct [(0,2),(1,3),(2,4),(3,6)]⟩),
 (8,⟨.st (.pair (.int .i64) (.pair (.int .i64) (.pair .bool (.int .u8)))),.struct [(0,2),(1,3),(2,4),(3,6)]⟩),
 (9,⟨.str,.scalar⟩),
 (10,⟨.str,.scalar⟩),
 (11,⟨.str,.scalar⟩),
 (12,⟨.int .u64,.scalar⟩),
 (13,⟨.st (.pair .str (.int .u64)),.struct [(0,9),(1,12)]⟩),
 (14,⟨.st (.pair .str (.int .u64)),.struct [(0,9),(1,12)]⟩),
 (15,⟨.nilv 0,.nul⟩),
 (16,⟨.nilv 0,.nul⟩),
 (17,⟨.nilv 0,.nul⟩),
 (18,⟨.st (.nilv 0),.struct [(0,17)]⟩),
 (19,⟨.st (.nilv 0),.struct [(0,17)]⟩),
 (20,⟨.nilv 1,.nul⟩),
 (21,⟨.int .i32,.scalar⟩),
 (22,⟨.sl (.st (.pair (.int .i64) (.pair (.int .i64) (.pair (.sl (.int .i64)) (.pair (.int .i64) (.pair (.int .i64) (.sl (.int .i64)))))))),.slice 46 80⟩),
 (23,⟨.st (.pair (.int .i64) (.pair (.int .i64) (.sl (.st (.pair (.int .i64) (.pair (.int .i64) (.pair (.sl (.int .i64)) (.pair (.int .i64) (.pair (.int .i64) (.sl (.int .i64))))))))))),.struct [(0,3),(1,3),(2,22)]⟩),
 (24,⟨.st (.pair (.int .i64) (.pair (.int .i64) (.sl (.st (.pair (.int .i64) (.pair (.int .i64) (.pair (.sl (.int .i64)) (.pair (.int .i64) (.pair (.int .i64) (.sl (.int .i64))))))))))),.struct [(0,3),(1,3),(2,22)]⟩),
 (26,⟨.st (.pair (.int .i64) (.int .i64)),.struct [(0,3),(1,3)]⟩),
 (27,⟨.st (.pair (.int .i64) (.int .i64)),.struct [(0,3),(1,3)]⟩),
 (32,⟨.sl .str,.slice 9 16⟩),
 (33,⟨.sl (.int .i64),.slice 3 8⟩),
 (34,⟨.st (.pair (.sl .str) (.pair (.sl (.int .i64)) (.int .i64))),.struct [(0,32),(1,33),(2,3)]⟩),
 (35,⟨.st (.pair (.sl .str) (.pair (.sl (.int .i64)) (.int .i64))),.struct [(0,32),(1,33),(2,3)]⟩),
 (42,⟨.sl (.sl .str),.slice 32 24⟩),
 (45,⟨.st (.pair (.int .i64) (.pair (.int .i64) (.pair (.sl (.int .i64)) (.pair (.int .i64) (.pair (.int .i64) (.sl (.int .i64))))))),.struct [(0,3),(1,3),(2,33),(3,3),(4,3),(5,33)]⟩),
 (46,⟨.st (.pair (.int .i64) (.pair (.int .i64) (.pair (.sl (.int .i64)) (.pair (.int .i64) (.pair (.int .i64) (.sl (.int .i64))))))),.struct [(0,3),(1,3),(2,33),(3,3),(4,3),(5,33)]⟩),
 (51,⟨.nilv 3,.nul⟩),
 (54,⟨.nilv 0,.nul⟩),
 (57,⟨.sl (.st (.pair (.ar 8 (.st (.pair .bool (.sl (.int .u32))))) (.int .i64))),.slice 78 264⟩),
 (58,⟨.sl (.st (.pair (.ar 8 (.st (.pair .bool (.sl (.int .u32))))) (.int .i64))),.slice 78 264⟩),
 (59,⟨.st (.pair (.st (.pair (.int .i64) (.pair (.int .i64) (.sl (.st (.pair (.int .i64) (.pair (.int .i64) (.pair (.sl (.int .i64)) (.pair (.int .i64) (.pair (.int .i64) (.sl (.int .i64)))))))))))) (.pair (.sl (.st (.pair (.ar 8 (.st (.pair .bool (.sl (.int .u32))))) (.int .i64)))) (.pair (.sl (.int .i64)) (.pair (.int .i64) (.int .i64))))),.struct [(0,24),(3,58),(4,33),(5,3),(6,3)]⟩),
 (60,⟨.st (.pair (.st (.pair (.int .i64) (.pair (.int .i64) (.sl (.st (.pair (.int .i64) (.pair (.int .i64) (.pair (.sl (.int .i64)) (.pair (.int .i64) (.pair (.int .i64) (.sl (.int .i64)))))))))))) (.pair (.sl (.st (.pair (.ar 8 (.st (.pair .bool (.sl (.int .u32))))) (.int .i64)))) (.pair (.sl (.int .i64)) (.pair (.int .i64) (.int .i64))))),.struct [(0,24),(3,58),(4,33),(5,3),(6,3)]⟩),
 (64,⟨.sl (.sl (.st (.pair (.ar 8 (.st (.pair .bool (.sl (.int .u32))))) (.int .i64)))),.slice 57 24⟩),
 (67,⟨.nilv 3,.nul⟩),
 (70,⟨.nilv 0,.nul⟩),
 (73,⟨.sl (.int .u32),.slice 107 4⟩),
 (74,⟨.st (.pair .bool (.sl (.int .u32))),.struct [(0,4),(1,73)]⟩),
 (75,⟨.st (.pair .bool (.sl (.int .u32))),.struct [(0,4),(1,73)]⟩),
 (76,⟨.ar 8 (.st (.pair .bool (.sl (.int .u32)))),.arr 8 75⟩),
 (77,⟨.st (.pair (.ar 8 (.st (.pair .bool (.sl (.int .u32))))) (.int .i64)),.struct [(0,76),(16,3)]⟩),
 (78,⟨.st (.pair (.ar 8 (.st (.pair .bool (.sl (.int .u32))))) (.int .i64)),.struct [(0,76),(16,3)]⟩),
 (86,⟨.nilv 3,.nul⟩),
 (87,⟨.ar 12 .bool,.arr 12 4⟩),
 (92,⟨.sl (.st (.pair .bool (.sl (.int .u32)))),.slice 75 32⟩),
 (98,⟨.nilv 0,.nul⟩),
 (103,⟨.nilv 3,.nul⟩),
 (105,⟨.sl (.int .u8),.slice 5 1⟩),
 (107,⟨.int .u32,.scalar⟩),
 (108,⟨.int .u64,.scalar⟩),
 (109,⟨.int .u64,.scalar⟩),
 (111,⟨.nilv 0,.nul⟩),
 (112,⟨.st (.pair (.nilv 0) (.sl (.int .u8))),.struct [(0,111),(1,105)]⟩),
 (113,⟨.st (.pair (.nilv 0) (.sl (.int .u8))),.struct [(0,111),(1,105)]⟩),
 (114,⟨.nilv 1,.nul⟩),
 (115,⟨.nilv 1,.nul⟩),
 (123,⟨.nilv 0,.nul⟩),
 (137,⟨.ar 24 (.int .u8),.arr 24 5⟩),
 (143,⟨.ar 32 (.int .u8),.arr 32 5⟩),
 (146,⟨.ar 20 (.int .u64),.arr 20 108⟩),
 (147,⟨.ar 65 (.int .u8),.arr 65 5⟩),
 (149,⟨.ar 64 (.int .u8),.arr 64 5⟩),
 (150,⟨.st (.pair (.nilv 0) (.pair (.nilv 0) (.pair (.nilv 0) .str))),.struct [(0,17),(1,17),(2,17),(3,9)]⟩),
 (151,⟨.st (.pair (.nilv 0) (.pair (.nilv 0) (.pair (.nilv 0) .str))),.struct [(0,17),(1,17),(2,17),(3,9)]⟩),
 (152,⟨.ar 0 (.nilv 0),.arr 0 16⟩),
 (153,⟨.st (.ar 0 (.nilv 0)),.struct [(0,152)]⟩),
 (154,⟨.st (.ar 0 (.nilv 0)),.struct [(0,152)]⟩),
 (155,⟨.int .u8,.scalar⟩),
 (156,⟨.int .u8,.scalar⟩),
 (158,⟨.int .i32,.scalar⟩),
 (159,⟨.int .i32,.scalar⟩),
 (160,⟨.st (.pair (.int .u64) (.pair (.int .u64) (.pair (.int .u32) (.pair (.int .u8) (.pair (.int .u8) (.pair (.int .u8) (.pair (.int .u8) (.pair (.nilv 3) (.pair (.nilv 0) (.pair (.int .i32) (.int .i32))))))))))),.struct [(0,12),(1,12),(2,107),(3,155),(4,5),(5,5),(6,156),(7,157),(8,123),(9,158),(10,159)]⟩),
 (161,⟨.st (.pair (.int .u64) (.pair (.int .u64) (.pair (.int .u32) (.pair (.int .u8) (.pair (.int .u8) (.pair (.int .u8) (.pair (.int .u8) (.pair (.nilv 3) (.pair (.nilv 0) (.pair (.int .i32) (.int .i32))))))))))),.struct [(0,12),(1,12),(2,107),(3,155),(4,5),(5,5),(6,156),(7,157),(8,123),(9,158),(10,159)]⟩)]
theorem mixed:Go.Proofs.Tryd.prog.follows .mixedOrders=true:=by kernel_rfl
theorem jV:TabOk Go.Proofs.Tryd.prog tab:=tabB_ok (by kernel_rfl)
def jP:Eqs:=⟨[27],[(83,ones_sc)]⟩
theorem jC:EqsOk Go.Proofs.Tryd.prog tab jP:=eqsB_seqs (by kernel_rfl) fun f sc h=>by
 simp only [Go.Ql.look] at h
 cases hb:Nat.beq 83 f with
 | false=>rw [hb] at h;cases h
 | true=>rw [hb] at h;cases h;rw [←beqN.1 hb];exact Go.Proofs.Tryd.ones_seq
def Ju (x:Int):Option Int:=bif decide (0≤x)&&decide (x<4294967296) then some (Go.Lib.ctz 32 x.toNat:Int) else none
def Ju.ce:Go.Ql.Callee:=⟨[(.int .u32)],[(.int .i64)],fun x_=>Ju x_⟩
theorem Ju.some {x r:Int} (h:Ju x=Option.some r):∃n:Nat,x=n∧n<4294967296∧r=(Go.Lib.ctz 32 n:Int):=by
 unfold Ju at h
 cases hb:decide (0≤x)&&decide (x<4294967296) with
 | false=>rw [hb] at h;cases h
 | true=>
   rw [hb] at h
   simp only [Bool.and_eq_true,decide_eq_true_eq] at hb
   obtain ⟨n,rfl⟩:=Int.eq_ofNat_of_zero_le hb.1
   have h:=Option.some.inj h
   exact ⟨n,rfl,by omega,by rw [←h,Int.toNat_natCast]⟩
theorem Ju.ok:CalleeOk Go.Proofs.Tryd.prog 96 Ju.ce:=by
 refine ⟨⟨Go.Proofs.Tryd.f96,Go.Proofs.Tryd.func96,by kernel_rfl,by kernel_rfl⟩,fun w Z vs x r hg hZ ha hr=>?_⟩
 obtain ⟨v,rfl,hv⟩:=ha
 change [v]=[Value.int .u32 x] at hv
 obtain rfl:=List.cons.inj hv |>.1
 obtain ⟨n,hn,hx,hr'⟩:=Ju.some hr
 subst hr'
 have hn':Value.int .u32 x=Value.int .u32 (n:Int):=congrArg _ hn
 rw [hn']
 exact (Go.Proofs.YtaehnephoppjmaaDoor.tz32 n hx w hg.1).mono fun e w' ⟨he,hw⟩=>⟨_,he,hw▸Same.refl w,rfl⟩
def strconv_Itoa (x:Int):Option (List UInt8):=bif decide (-9223372036854775808≤x)&&decide (x≤9223372036854775807) then some (Go.Lib.itoa x) else none
def strconv_Itoa.ce:Go.Ql.Callee:=⟨[(.int .i64)],[.str],fun x_=>strconv_Itoa x_⟩
theorem strconv_Itoa.ok:CalleeOk Go.Proofs.Tryd.prog 56 strconv_Itoa.ce:=by
 refine ⟨⟨Go.Proofs.Tryd.f56,Go.Proofs.Tryd.func56,by kernel_rfl,by kernel_rfl⟩,fun w Z vs x r hg hZ ha hr=>?_⟩
 obtain ⟨v,rfl,hv⟩:=ha
 change [v]=[Value.int .i64 x] at hv
 obtain rfl:=List.cons.inj hv |>.1
 have hr:strconv_Itoa x=some r:=hr
 change Int at x
 unfold strconv_Itoa at hr
 cases hb:decide (-9223372036854775808≤x)&&decide (x≤9223372036854775807) with
 | false=>rw [hb] at hr;cases hr
 | true=>
   rw [hb] at hr
   simp only [Bool.and_eq_true,decide_eq_true_eq] at hb
   obtain rfl:=Option.some.inj hr
   refine (Go.Proofs.Tryd.strconv_Itoa x hb.1 hb.2 w hg.2).mono fun e w' ⟨he,k,os,hw⟩=>⟨_,he,?_,rfl⟩
   subst hw
   refine ⟨rfl,rfl,rfl,by simp [Go.Sort.grow,World.drewN],fun b hb=>?_⟩
   show (w.heap++os)[b]?=w.heap[b]?
   rw [Array.getElem?_append_left hb]
def strings_Join (xs:List (List UInt8)) (sep:List UInt8):Option (List UInt8):=
 bif decide (List.length xs≤140737488355328)&&decide (List.length (Go.Lib.join xs sep)≤140737488355328) then some (Go.Lib.join xs sep) else none
def strings_Join.ce:Go.Ql.Callee:=⟨[.sl .str,.str],[.str],fun x_=>strings_Join x_.1 x_.2⟩
theorem join_cells {w:World} {Z:Nat→Prop}:∀{xs:List (List UInt8)} {cells:List Value},rdAll (rdC w Z .str) cells xs→cells=xs.map fun x=>Value.string ⟨List.toArray x⟩
 | [],_,h=>h
 | x::r,_,⟨c1,c2,e,h1,h2⟩=>by
   have h1:c1=[.string ⟨List.toArray x⟩]:=h1
   rw [e,h1,join_cells h2];rfl
theorem strings_Join.ok:CalleeOk Go.Proofs.Tryd.prog 55 strings_Join.ce:=by
 refine ⟨⟨Go.Proofs.Tryd.f55,Go.Proofs.Tryd.func55,by kernel_rfl,by kernel_rfl⟩,?_⟩
 rintro w Z vs ⟨xs,sep⟩ r _ hZ hvs hF
 obtain ⟨v1,t1,rfl,h1,v2,rfl,h2⟩:∃v1 t1,vs=v1::t1∧rdV w Z (.sl .str) v1 xs ∧ ∃v2,t1=[v2]∧v2=.string ⟨List.toArray sep⟩:=by
  obtain ⟨v,t,e,hv,u,e2,hu⟩:=hvs
  exact ⟨v,t,e,hv,u,e2,(List.cons.inj hu).1⟩
 subst h2
 have hF:strings_Join xs sep=some r:=hF
 unfold strings_Join at hF
 cases hb:decide (List.length xs≤140737488355328)&&decide (List.length (Go.Lib.join xs sep)≤140737488355328) with
 | false=>rw [hb] at hF;cases hF
 | true=>
   rw [hb] at hF
   simp only [Bool.and_eq_true,decide_eq_true_eq] at hb
   obtain rfl:=Option.some.inj hF
   obtain ⟨v,hv,h1⟩:=h1
   obtain rfl:=List.cons.inj hv |>.1
   have none_case:∀ad c,xs=[]→Calls Go.Proofs.Tryd.prog 55 [Value.slice ad 0 c,.string ⟨List.toArray sep⟩].toArray w fun e w'=>∃v,e=.returned v∧Same w w'∧rdRes w' (VS w w' Z) [.str] (Go.Lib.join xs sep) v:=by
    rintro ad c rfl
    refine (Go.Proofs.Tryd.strings_Join_none ad c _ w).mono ?_
    rintro e w' ⟨rfl,rfl⟩
    exact ⟨_,rfl,Same.refl _,rfl⟩
   rcases h1 with ⟨rfl,hx⟩ | ⟨b,off,cap,cells,rfl,hc,hm,hz,hr,hcl⟩ | ⟨ad,cap,rfl,hx,_⟩
   ·exact none_case none 0 hx
   ·have hcs:=join_cells hr
    have hmap:(xs.map fun x=>(⟨List.toArray x⟩:ByteArray)).map (·.data.toList)=xs:=by
     rw [List.map_map]
     conv=>rhs;rw [←List.map_id xs]
     rfl
    have key:=Go.Proofs.Tryd.strings_Join b off cap (xs.map fun x=>⟨List.toArray x⟩) ⟨List.toArray sep⟩ w (fun j x hx=>by
     refine hcl j _ ?_
     rw [hcs,List.getElem?_map]
     rw [List.getElem?_map,Option.map_eq_some_iff] at hx
     obtain ⟨y,hy,rfl⟩:=hx
     rw [hy];rfl) (hZ b hz) (by simpa using hb.1) (by simpa using hc) (by rw [hmap];simpa using hb.2)
    rw [List.length_map,hmap] at key
    refine key.mono ?_
    rintro e w' ⟨rfl,hB⟩
    exact ⟨_,rfl,⟨hB.os,hB.tape,hB.output,hB.size,hB.block⟩,rfl⟩
   ·exact none_case (some ad) cap hx
def tb:TB Go.Proofs.Tryd.prog:=⟨tab,jP,jV,jC,mixed⟩
end
end W
end
