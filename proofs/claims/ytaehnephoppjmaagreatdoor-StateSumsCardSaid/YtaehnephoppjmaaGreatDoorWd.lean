/- Lifted functions, part 4: each with its contract; a function that recovers. -/
import Derived.Test.YtaehnephoppjmaaGreatDoorWc
import Derived.Shelf.Strconv.AtoiAll
import Derived.Shelf.LaysC
import Derived.Ground.Names2Prog
import Derived.Test.YtaehnephoppjmaaGreatDoorLf
import Derived.Test.YtaehnephoppjmaaGreatDoorProg
import Derived.WalkKit
import Derived.Recover
set_option linter.all false
section
namespace Go.Proofs
open Go.Shelf
def Tryz.laysC172_ren:Go.Shelf.Ren:=⟨fun | 172=>89 | 244=>123 | 245=>124 | 247=>143 | 279=>144 | 280=>145 | 281=>146 | 282=>147 | 287=>166 | 316=>167 | 171=>63 | 205=>168 | 321=>176 | 322=>177 | 243=>98 | 246=>132 | 283=>159 | 284=>160 | 285=>161 | 286=>162 | 129=>172 | 317=>171 | 318=>173 | 319=>174 | 320=>175 | 337=>148 | 338=>178 | n=>n,fun | 9=>9 | 3=>3 | 75=>140 | 76=>141 | 4=>4 | 5=>5 | 167=>187 | 37=>122 | 0=>0 | 85=>188 | 2=>2 | 168=>190 | 53=>123 | 175=>209 | 46=>149 | 210=>213 | 127=>179 | 145=>225 | 143=>223 | 21=>21 | 171=>204 | 173=>207 | 212=>219 | 51=>148 | 20=>20 | 213=>220 | 232=>215 | 233=>226 | 80=>74 | n=>n,fun | 15=>0 | 16=>1 | 17=>4 | 18=>2 | 19=>5 | n=>n⟩
theorem Tryz.laysC172:Go.Proofs.LaysC.n172 Tryz.prog Tryz.laysC172_ren:={
 mixed:=by kernel_rfl
 f129:=Tryz.func172.trans (congrArg some (by kernel_rfl))
 f171:=Tryz.func63.trans (congrArg some (by kernel_rfl))
 f172:=Tryz.func89.trans (congrArg some (by kernel_rfl))
 f205:=Tryz.func168.trans (congrArg some (by kernel_rfl))
 f243:=Tryz.func98.trans (congrArg some (by kernel_rfl))
 f244:=Tryz.func123.trans (congrArg some (by kernel_rfl))
 f245:=Tryz.func124.trans (congrArg some (by kernel_rfl))
 f246:=Tryz.func132.trans (congrArg some (by kernel_rfl))
 f247:=Tryz.func143.trans (congrArg some (by kernel_rfl))
 f279:=Tryz.func144.trans (congrArg some (by kernel_rfl))
 f280:=Tryz.func145.trans (congrArg some (by kernel_rfl))
 f281:=Tryz.func146.trans (congrArg some (by kernel_rfl))
 f282:=Tryz.func147.trans (congrArg some (by kernel_rfl))
 f283:=Tryz.func159.trans (congrArg some (by kernel_rfl))
 f284:=Tryz.func160.trans (congrArg some (by kernel_rfl))
 f285:=Tryz.func161.trans (congrArg some (by kernel_rfl))
 f286:=Tryz.func162.trans (congrArg some (by kernel_rfl))
 f287:=Tryz.func166.trans (congrArg some (by kernel_rfl))
 f316:=Tryz.func167.trans (congrArg some (by kernel_rfl))
 f317:=Tryz.func171.trans (congrArg some (by kernel_rfl))
 f318:=Tryz.func173.trans (congrArg some (by kernel_rfl))
 f319:=Tryz.func174.trans (congrArg some (by kernel_rfl))
 f320:=Tryz.func175.trans (congrArg some (by kernel_rfl))
 f321:=Tryz.func176.trans (congrArg some (by kernel_rfl))
 f322:=Tryz.func177.trans (congrArg some (by kernel_rfl))
 f337:=Tryz.func148.trans (congrArg some (by kernel_rfl))
 f338:=Tryz.func178.trans (congrArg some (by kernel_rfl))
 t0:=Tryz.underlying0
 a0:=Tryz.isAgg0
 z0:=Tryz.sizeOf0
 v0:=Tryz.zeroValue0
 t2:=Tryz.underlying2
 a2:=Tryz.isAgg2
 z2:=Tryz.sizeOf2
 v2:=Tryz.zeroValue2
 t3:=Tryz.underlying3
 a3:=Tryz.isAgg3
 z3:=Tryz.sizeOf3
 v3:=Tryz.zeroValue3
 t4:=Tryz.underlying4
 a4:=Tryz.isAgg4
 z4:=Tryz.sizeOf4
 v4:=Tryz.zeroValue4
 t5:=Tryz.underlying5
 a5:=Tryz.isAgg5
 z5:=Tryz.sizeOf5
 v5:=Tryz.zeroValue5
 t9:=Tryz.underlying9
 a9:=Tryz.isAgg9
 z9:=Tryz.sizeOf9
 v9:=Tryz.zeroValue9
 t20:=Tryz.underlying20
 a20:=Tryz.isAgg20
 z20:=Tryz.sizeOf20
 v20:=Tryz.zeroValue20
 t21:=Tryz.underlying21
 a21:=Tryz.isAgg21
 z21:=Tryz.sizeOf21
 v21:=Tryz.zeroValue21
 t37:=Tryz.underlying122
 a37:=Tryz.isAgg122
 z37:=Tryz.sizeOf122
 v37:=Tryz.zeroValue122
 t46:=Tryz.underlying149
 a46:=Tryz.isAgg149
 z46:=Tryz.sizeOf149
 v46:=Tryz.zeroValue149
 t51:=Tryz.underlying148
 a51:=Tryz.isAgg148
 z51:=Tryz.sizeOf148
 v51:=Tryz.zeroValue148
 t53:=Tryz.underlying123
 a53:=Tryz.isAgg123
 z53:=Tryz.sizeOf123
 v53:=Tryz.zeroValue123
 t75:=Tryz.underlying140
 a75:=Tryz.isAgg140
 z75:=Tryz.sizeOf140
 v75:=Tryz.zeroValue140
 t76:=Tryz.underlying141
 a76:=Tryz.isAgg141
 z76:=Tryz.sizeOf141
 v76:=Tryz.zeroValue141
 t85:=Tryz.underlying188
 a85:=Tryz.isAgg188
 z85:=Tryz.sizeOf188
 v85:=Tryz.zeroValue188
 t127:=Tryz.underlying179
 a127:=Tryz.isAgg179
 z127:=Tryz.sizeOf179
 v127:=Tryz.zeroValue179
 t143:=Tryz.underlying223
 a143:=Tryz.isAgg223
 z143:=Tryz.sizeOf223
 v143:=Tryz.zeroValue223
 t145:=Tryz.underlying225
 a145:=Tryz.isAgg225
 z145:=Tryz.sizeOf225
 v145:=Tryz.zeroValue225
 t167:=Tryz.underlying187
 a167:=Tryz.isAgg187
 z167:=Tryz.sizeOf187
 v167:=Tryz.zeroValue187
 t168:=Tryz.underlying190
 a168:=Tryz.isAgg190
 z168:=Tryz.sizeOf190
 v168:=Tryz.zeroValue190
 t171:=Tryz.underlying204
 a171:=Tryz.isAgg204
 z171:=Tryz.sizeOf204
 v171:=Tryz.zeroValue204
 t173:=Tryz.underlying207
 a173:=Tryz.isAgg207
 z173:=Tryz.sizeOf207
 v173:=Tryz.zeroValue207
 t175:=Tryz.underlying209
 a175:=Tryz.isAgg209
 z175:=Tryz.sizeOf209
 v175:=Tryz.zeroValue209
 t210:=Tryz.underlying213
 a210:=Tryz.isAgg213
 z210:=Tryz.sizeOf213
 v210:=Tryz.zeroValue213
 t212:=Tryz.underlying219
 a212:=Tryz.isAgg219
 z212:=Tryz.sizeOf219
 v212:=Tryz.zeroValue219
 t213:=Tryz.underlying220
 a213:=Tryz.isAgg220
 z213:=Tryz.sizeOf220
 t232:=Tryz.underlying215
 a232:=Tryz.isAgg215
 z232:=Tryz.sizeOf215
 v232:=Tryz.zeroValue215
 t233:=Tryz.underlying226
 a233:=Tryz.isAgg226
 z233:=Tryz.sizeOf226
 v233:=Tryz.zeroValue226
 g15:=by kernel_rfl
 g16:=by kernel_rfl
 g17:=by kernel_rfl
 g18:=by kernel_rfl
 g19:=by kernel_rfl
 t80:=Tryz.underlying74
 a80:=Tryz.isAgg74
 z80:=Tryz.sizeOf74
 v80:=Tryz.zeroValue74
 i0:=by kernel_rfl
 i2:=by kernel_rfl
 i3:=by kernel_rfl
 i4:=by kernel_rfl
 i5:=by kernel_rfl
 i9:=by kernel_rfl
 i20:=by kernel_rfl
 i21:=by kernel_rfl
 i37:=by kernel_rfl
 i46:=by kernel_rfl
 i51:=by kernel_rfl
 i53:=by kernel_rfl
 i75:=by kernel_rfl
 i76:=by kernel_rfl
 i80:=by kernel_rfl
 i85:=by kernel_rfl
 i127:=by kernel_rfl
 i143:=by kernel_rfl
 i145:=by kernel_rfl
 i167:=by kernel_rfl
 i168:=by kernel_rfl
 i171:=by kernel_rfl
 i173:=by kernel_rfl
 i175:=by kernel_rfl
 i210:=by kernel_rfl
 i212:=by kernel_rfl
 i232:=by kernel_rfl
 i233:=by kernel_rfl
 m15:=by kernel_rfl
 m16:=by kernel_rfl
 m17:=by kernel_rfl
 m18:=by kernel_rfl
 m19:=by kernel_rfl
 c0:=by kernel_rfl
 c2:=by kernel_rfl
 c3:=by kernel_rfl
 c4:=by kernel_rfl
 c5:=by kernel_rfl
 c9:=by kernel_rfl
 c20:=by kernel_rfl
 c21:=by kernel_rfl
 c37:=by kernel_rfl
 c46:=by kernel_rfl
 c51:=by kernel_rfl
 c53:=by kernel_rfl
 c75:=by kernel_rfl
 c76:=by kernel_rfl
 c80:=by kernel_rfl
 c85:=by kernel_rfl
 c127:=by kernel_rfl
 c143:=by kernel_rfl
 c145:=by kernel_rfl
 c167:=by kernel_rfl
 c168:=by kernel_rfl
 c171:=by kernel_rfl
 c173:=by kernel_rfl
 c175:=by kernel_rfl
 c210:=by kernel_rfl
 c212:=by kernel_rfl
 c213:=by kernel_rfl
 c232:=by kernel_rfl
 c233:=by kernel_rfl }
open Go.RowKit Go.Sort Go.Lib in
theorem Tryz.strconv_Atoi_ok (s:ByteArray) (hmax:s.size≤9223372036854775806) (v:Int) (h:Lib.atoiAll s.data.toList=.ok v) (w:World) :
 Calls Tryz.prog 89 #[.string s] w fun e w'=>e=.returned (.tuple #[.int .i64 v,.nilIface])∧(w'=w ∨ ∃t,w'=Lib.bytesWorld w 5 t):=Any.strconv_Atoi_ok Tryz.laysC172 s hmax v h w
end Go.Proofs
namespace W
open Go Go.Ql
noncomputable section
def kV (s:List UInt8):Option (Int×Bool):=
 bif decide (s.length≤281474976710656) then (match Go.Lib.atoiAll s with
  | .ok v=>some (v,false)
  | _=>none) else none
def kV.ce:Go.Ql.Callee:=⟨[.str],[.int .i64,.nn],fun x_=>kV x_⟩
theorem below_same {w w':World} (hB:Go.RowKit.Below w.heap.size w w'):Same w w':=⟨hB.os,hB.tape,hB.output,hB.size,hB.block⟩
theorem below_bytes {w w':World} (h:w'=w ∨ ∃t,w'=Lib.bytesWorld w 5 t):Go.RowKit.Below w.heap.size w w':=by
 rcases h with h | ⟨t,h⟩<;>subst h
 ·exact Go.RowKit.Below.refl _ _
 ·exact ⟨rfl,rfl,rfl,by rw [Lib.bytesWorld_size];omega,fun b hb=>Lib.bytesWorld_at_old w 5 _ b hb⟩
theorem kV.ok:CalleeOk Go.Proofs.Tryz.prog 89 kV.ce:=by
 refine ⟨⟨Go.Proofs.Tryz.f89,Go.Proofs.Tryz.func89,by kernel_rfl,by kernel_rfl⟩,fun w Z vs s r hg hZ ha hr=>?_⟩
 obtain ⟨v,rfl,hv⟩:=ha
 change [v]=[Value.string ⟨List.toArray s⟩] at hv
 obtain rfl:=List.cons.inj hv |>.1
 have hr:kV s=some r:=hr
 change List UInt8 at s
 unfold kV at hr
 cases hb:decide (List.length s≤281474976710656) with
 | false=>rw [hb] at hr;cases hr
 | true=>
   rw [hb] at hr
   have hl:=of_decide_eq_true hb
   have hsz:(⟨List.toArray s⟩:ByteArray).size=List.length s:=rfl
   have hl':(⟨List.toArray s⟩:ByteArray).size≤281474976710656:=by rw [hsz];exact hl
   simp only [cond_true] at hr
   split at hr
   ·rename_i n ha
    obtain rfl:=Option.some.inj hr
    refine (Go.Proofs.Tryz.strconv_Atoi_ok ⟨List.toArray s⟩ (by omega) n ha w).mono ?_
    rintro e w' ⟨rfl,hw⟩
    exact ⟨_,rfl,below_same (below_bytes hw),⟨_,rfl,_,_,rfl,rfl,_,rfl,_,rfl,Or.inr ⟨rfl,rfl⟩⟩⟩
   ·cases hr
end
end W
end

section
set_option maxHeartbeats 4000000
set_option maxRecDepth 100000
namespace W
open Go Go.Ql Go.Proofs Go.IntKind
noncomputable section
variable {ρ:Type}
abbrev sp0:SD:=.one (.ref 1000000 0)
abbrev sp1:SD:=.one (.val (.int .u8))
abbrev sp2:SO:=.box [.val .str,.val (.int .i64)]
abbrev sp3:SD:=.one (.val .bool)
def jK.pre:Shape:=⟨[(0,sp0),(1,sp1)],[(1000000,sp2)]⟩
def jK.post:Shape:=⟨[(0,sp3)],[(1000000,sp2)]⟩
def jK.c1 (c:Int)(ua:List UInt8)(ub:Int)(Z:Bool→Option ρ):Option ρ:=
  br (decide (ub<(ua.length:Int)))
   (bnd (idx ua ub) fun y=>
    Z ((↑(UInt8.toNat y):Int)==c))
   (Z false)
def jK.c1s:Shape:=(jK.pre.s 4 sp3)
def jK.c1x0:Shape:=(jK.c1s.s 27 sp3)
def jK.c1r:RC:=⟨jK.c1s,[(jK.c1x0,0,[2,101])],no,[0,2,3],@jK.c1,fun _ _ _ _ _=>jf (ja fun _=>jb) jb⟩
def jK (c:Int) (ua:List UInt8) (ub:Int):Option (Bool×(List UInt8)×(Int)×Unit):=
  bnd (jK.c1 c ua ub some) fun y=>
  br y
   (some (true,ua,i64.wrap (ub+1),()))
   (some (false,ua,ub,()))
def jK.mc:MCallee:=⟨117,jK.pre,jK.post,fun X=>jK X.1 X.2.1 X.2.2.1⟩
def jK.G:EB Tryz.prog:=⟨tb,Tryz.f117,[],[0,1,4,27],[],[(1,[])],[(1,jK.c1r.ck)],[],[]⟩
theorem jK.ok:MOk Tryz.prog 117 jK.mc:=fnM jK.G (mc:=jK.mc) Tryz.func117 (m:=1) ⟨trivial,kR jK.c1r (by kernel_rfl)⟩ (by kernel_rfl)
abbrev sp4:SD:=.one (.val .str)
abbrev sp5:SD:=.one (.val (.ifc 130 (.st (.st (.pair (.int .i64) (.int .i64))))))
abbrev sp6:SD:=.one (.val (.int .i64))
abbrev sp7:SO:=.clo 0 [] [.val (.ifc 130 (.st (.st (.pair (.int .i64) (.int .i64)))))]
def jj.pre:Shape:=⟨[(0,sp0),(1,sp3)],[(1000000,sp2)]⟩
def jj.post:Shape:=⟨[(0,sp4)],[(1000000,sp2)]⟩
def jj.post2:Shape:=⟨[(0,sp5)],[(1000000,sp2)]⟩
def jj.c2 (ua:List UInt8)(ub:Int)(Z:Bool→Option ρ):Option ρ:=
  br (decide (ub<(ua.length:Int)))
   (bnd (idx ua ub) fun y=>
    br (decide ((48:Int)≤(↑(UInt8.toNat y):Int)))
     (bnd (idx ua ub) fun y1=>
      Z (decide ((↑(UInt8.toNat y1):Int)≤57)))
     (Z false))
   (Z false)
def jj.c2s:Shape:=((jj.pre.s 4 sp4).s 5 sp6)
def jj.c2x0:Shape:=(jj.c2s.s 43 sp3)
def jj.c2r:RC:=⟨jj.c2s,[(jj.c2x0,0,[3,101])],no,[3,4],@jj.c2,fun _ _ _ _=>jf (ja fun _=>(jf (ja fun _=>jb) jb)) jb⟩
def jj.c3 (nought:Bool)(t5:Int)(ua:List UInt8)(ub:Int)(Z:Bool→Option ρ):Option ρ:=
  bnd (idx ua t5) fun y=>
  br ((↑(UInt8.toNat y):Int)==48)
   (br (!nought)
     (Z true)
     (Z (decide (ub>t5))))
   (Z false)
def jj.c3x0:Shape:=(jj.c2s.s 62 sp3)
def jj.c3r:RC:=⟨jj.c2s,[(jj.c3x0,0,[3,101])],no,[0,2,3,4],@jj.c3,fun _ _ _ _ _ _=>ja fun _=>(jf (jf jb jb) jb)⟩
def jj.cb_ (nought:Bool)(t5:Int)(ua:List UInt8)(ub:Int)(Z:(Int)⊕(Int)→Option ρ):Option ρ:=
  bnd (jj.c2 ua ub some) fun y=>
  br y
   (bnd (jj.c3 nought t5 ua ub some) fun y1=>
    br y1
     (Z (.inr ub))
     (Z (.inl (i64.wrap (ub+1)))))
   (Z (.inr ub))
def jj.cb_r:LC:=⟨jj.c2s,[(jj.c2s,2,[4,201])],no,[4],[0,2,3,4],@jj.cb_,fun _ _ _ _ _ _=>ja fun _=>(jf (ja fun _=>(jf jb jb)) jb)⟩
def jj.cO_ (t5:Int)(ub:Int)(Z:(Unit)⊕(Unit)→Option ρ):Option ρ:=
  br (ub==t5)
   (Z (.inl ()))
   (Z (.inr ()))
def jj.cO_x0:Shape:=(jj.c2s.o 900001 sp7)
def jj.cO_r:RC:=⟨jj.c2s,[(jj.cO_x0,1000000,[3,400]),(jj.c2s,0,[])],fun X=>(((1:Int),(q4 X).1),()),[2,4],@jj.cO_,fun _ _ _ _=>jf jb jb⟩
def jj.c7 (t5:Int)(ua:List UInt8)(ub:Int)(Z:Unit→Option ρ):Option ρ:=
  bnd (okIf (decide ((0:Int)≤t5)&&decide (t5≤ub)&&decide (ub≤(ua.length:Int)))) fun y=>
  Z ()
def jj.c7r:RC:=⟨jj.c2s,[(jj.c2s,0,[1,400,301])],fun X=>((List.drop (Int.toNat X.2.2.1) (List.take (Int.toNat (q4 X).1) X.2.2.2.1)),()),[2,3,4],@jj.c7,fun _ _ _ _ _=>ja fun _=>jb⟩
def jj (nought:Bool) (ua:List UInt8) (ub:Int):Option (((List UInt8)×(List UInt8)×(Int)×Unit)⊕(((Int)×(Int))×(List UInt8)×(Int)×Unit)):=
  bnd (iter (fun s↦jj.cb_ nought ub ua s some) ub) fun y=>
  bnd (jj.cO_ ub y some) fun y1=>
  sel y1
   (fun u=>some (Sum.inr (((1:Int),y),ua,y,())))
   (fun v=>bnd (jj.c7 ub ua y some) fun y2=>
    some (Sum.inl (List.drop (Int.toNat ub) (List.take (Int.toNat y) ua),ua,y,())))
def jj.ma:MAlt:=⟨118,jj.pre,jj.post,true,jj.post2,fun X=>jj X.1 X.2.1 X.2.2.1⟩
def jj.G:EB Tryz.prog:=⟨tb,Tryz.f118,[],[0,1,4,5,43,62,75],[],[(7,[]),(2,[])],[(7,jj.c7r.ck),(220485,jj.cO_r.ck),(100002,jj.cb_r.ck),(3,jj.c3r.ck),(2,jj.c2r.ck)],[],[]⟩
theorem jj.ok:AltOk Tryz.prog 118 jj.ma:=fnA jj.G (ma:=jj.ma) Tryz.func118 (m:=5) ⟨⟨⟨⟨⟨trivial,kL jj.cb_r (by kernel_rfl)⟩,kR jj.c2r (by kernel_rfl)⟩,kR jj.c3r (by kernel_rfl)⟩,kJ jj.cO_r (by kernel_rfl)⟩,kR jj.c7r (by kernel_rfl)⟩ (by kernel_rfl)
abbrev sp8:SD:=.one (.val (.sl .str))
abbrev sp9:SD:=.one (.own 4 0)
abbrev sp10:SO:=.arr 0 false 9 .str
def ji.pre:Shape:=⟨[(0,sp0)],[(1000000,sp2)]⟩
def ji.post:Shape:=⟨[(0,sp8),(1,sp4)],[(1000000,sp2)]⟩
def ji.post2:Shape:=⟨[(0,sp5)],[(1000000,sp2)]⟩
def ji.cC_ (sign:List UInt8)(ua:List UInt8)(ub:Int)(Z:(List UInt8)×(List UInt8)×(Int)→Option ρ):Option ρ:=
  bnd (jK (45:Int) ua ub) fun y=>
  br y.1
   (Z ((Array.toList (ByteArray.data (ByteArray.mk #[45]))),y.2.1,y.2.2.1))
   (Z (sign,y.2.1,y.2.2.1))
def ji.cC_s:Shape:=(((((ji.pre.s 2 sp8).s 3 sp4).s 4 sp9).s 5 sp4).o 4 sp10)
def ji.cC_r:RC:=⟨ji.cC_s,[(ji.cC_s,0,[2,201,1,202])],no,[2,4,5],@ji.cC_,fun _ _ _ _ _=>ja fun _=>(jf jb jb)⟩
def ji.c6 (cs:List (List UInt8))(ua:List UInt8)(ub:Int)(Z:Bool×(List UInt8)×(Int)→Option ρ):Option ρ:=
  br ((cs.length:Int)==8)
   (Z (true,ua,ub))
   (bnd (jK (44:Int) ua ub) fun y=>
    Z ((!y.1),y.2.1,y.2.2.1))
def ji.c6x0:Shape:=(ji.cC_s.s 25 sp3)
def ji.c6r:RC:=⟨ji.cC_s,[(ji.c6x0,0,[3,101,1,202])],no,[3,4,5],@ji.c6,fun _ _ _ _ _=>jf jb (ja fun _=>jb)⟩
def ji.cb_ (cs:List (List UInt8))(ua:List UInt8)(ub:Int)(Z:((List (List UInt8))×(List UInt8)×(Int))⊕(((List (List UInt8))×(List UInt8)×(Int))⊕((List (List UInt8))×((Int)×(Int))×(List UInt8)×(Int)))→Option ρ):Option ρ:=
  bnd (ji.cC_ (Array.toList (ByteArray.data (ByteArray.mk #[]))) ua ub some) fun y=>
  bnd (jj (y.1==Array.toList (ByteArray.data (ByteArray.mk #[]))) y.2.1 y.2.2) fun y1=>
  sel y1
   (fun u=>bnd (okIf (decide (List.length y.1+List.length u.1≤9223372036854775807))) fun y2=>
    bnd (okIf (decide ((cs.length+1)*16≤140737488355328)&&decide (cs.length+1≤140737488355328))) fun y3=>
    bnd (ji.c6 (cs++[y.1++u.1]) u.2.1 u.2.2.1 some) fun y4=>
    br y4.1
     (Z (.inr (.inl ((cs++[y.1++u.1]),y4.2.1,y4.2.2))))
     (Z (.inl ((cs++[y.1++u.1]),y4.2.1,y4.2.2))))
   (fun v=>Z (.inr (.inr (cs,v.1,v.2.1,v.2.2.1))))
def ji.cb_s:Shape:=(ji.cC_s.d 5)
def ji.cb_x1:Shape:=(ji.cb_s.o 900001 sp7)
def ji.cb_r:LC:=⟨ji.cb_s,[(ji.cb_s,2,[2,203]),(ji.cb_x1,1000000,[2,203,101])],no,[2,3,4],[2,3,4],@ji.cb_,fun _ _ _ _ _=>ja fun _=>(ja fun _=>(Yp (fun _=>(ja fun _=>(ja fun _=>(ja fun _=>(jf jb jb))))) (fun _=>jb)))⟩
def ji.ck_ (e:List UInt8)(ua:List UInt8)(ub:Int)(Z:((List UInt8)×(List UInt8)×(Int))⊕(((Int)×(Int))×(List UInt8)×(Int))→Option ρ):Option ρ:=
  bnd (jK (47:Int) ua ub) fun y=>
  br y.1
   (bnd (jj false y.2.1 y.2.2.1) fun y1=>
    sel y1
     (fun u=>Z (.inl (u.1,u.2.1,u.2.2.1)))
     (fun v=>Z (.inr (v.1,v.2.1,v.2.2.1))))
   (Z (.inl (e,y.2.1,y.2.2.1)))
def ji.ck_s:Shape:=(ji.cb_s.s 6 sp4)
def ji.ck_x1:Shape:=(ji.cb_x1.s 6 sp4)
def ji.ck_r:RC:=⟨ji.ck_s,[(ji.ck_s,0,[2,201,1,202]),(ji.ck_x1,1000000,[4,202,101])],no,[2,4,5],@ji.ck_,fun _ _ _ _ _=>ja fun _=>(jf (ja fun _=>(Yp (fun _=>jb) (fun _=>jb))) jb)⟩
def ji.c10  (Z:Unit→Option ρ):Option ρ:=
  Z ()
def ji.c10x0:Shape:=(ji.ck_s.s 39 sp3)
def ji.c10r:RC:=⟨ji.ck_s,[(ji.c10x0,0,[3,400])],fun X=>((decide ((q4 X).2.1<(X.2.2.2.2.1.length:Int))),()),[],@ji.c10,fun _ _=>jb⟩
def ji.cp_ (ua:List UInt8)(ub:Int)(Z:(Unit)⊕(Unit)→Option ρ):Option ρ:=
  bnd (ji.c10 some) fun y=>
  br (decide (ub<(ua.length:Int)))
   (Z (.inl ()))
   (Z (.inr ()))
def ji.cp_r:RC:=⟨ji.ck_s,[(ji.ck_x1,1000000,[4,400]),(ji.ck_s,0,[])],fun X=>(((1:Int),(q4 X).2.1),()),[4,5],@ji.cp_,fun _ _ _ _=>ja fun _=>(jf jb jb)⟩
def ji (ua:List UInt8) (ub:Int):Option (((List (List UInt8))×(List UInt8)×(List UInt8)×(Int)×Unit)⊕(((Int)×(Int))×(List UInt8)×(Int)×Unit)):=
  bnd (iter (fun s↦ji.cb_ s.1 s.2.1 s.2.2 some) ([],ua,ub)) fun y=>
  sel y
   (fun u=>bnd (ji.ck_ (Array.toList (ByteArray.data (ByteArray.mk #[]))) u.2.1 u.2.2 some) fun y1=>
    sel y1
     (fun u_1=>bnd (ji.cp_ u_1.2.1 u_1.2.2 some) fun y2=>
      sel y2
       (fun u_2=>some (Sum.inr (((1:Int),u_1.2.2),u_1.2.1,u_1.2.2,())))
       (fun v_2=>some (Sum.inl (u.1,u_1.1,u_1.2.1,u_1.2.2,()))))
     (fun v_1=>some (Sum.inr (v_1.1,v_1.2.1,v_1.2.2,()))))
   (fun v=>some (Sum.inr (v.2.1,v.2.2.1,v.2.2.2,())))
def ji.ma:MAlt:=⟨87,ji.pre,ji.post,true,ji.post2,fun X=>ji X.1 X.2.1⟩
def ji.G:EB Tryz.prog:=⟨tb,Tryz.f87,[],[0,2,3,4,5,6,8,25,27,39],[4],[(10,[])],[(240965,ji.cp_r.ck),(10,ji.c10r.ck),(232773,ji.ck_r.ck),(100002,ji.cb_r.ck),(6,ji.c6r.ck),(212293,ji.cC_r.ck)],[⟨117,jK.mc,jK.ok⟩],[⟨118,jj.ma,jj.ok⟩]⟩
theorem ji.ok:AltOk Tryz.prog 87 ji.ma:=fnA ji.G (ma:=ji.ma) Tryz.func87 (m:=6) ⟨⟨⟨⟨⟨⟨trivial,kL ji.cb_r (by kernel_rfl)⟩,kJ ji.cC_r (by kernel_rfl)⟩,kR ji.c6r (by kernel_rfl)⟩,kJ ji.ck_r (by kernel_rfl)⟩,kJ ji.cp_r (by kernel_rfl)⟩,kR ji.c10r (by kernel_rfl)⟩ (by kernel_rfl)
def stringslite_HasPrefix.c1 (s:List UInt8)(t1:List UInt8)(Z:Bool→Option ρ):Option ρ:=
  br (decide ((s.length:Int)≥(t1.length:Int)))
   (bnd (okIf (decide ((0:Int)≤(t1.length:Int))&&decide ((t1.length:Int)≤(s.length:Int)))) fun y=>
    Z (List.take (Int.toNat (t1.length:Int)) s==t1))
   (Z false)
def stringslite_HasPrefix.c1s:Shape:=⟨[(0,sp4),(1,sp4),(4,sp3)],[]⟩
def stringslite_HasPrefix.c1r:RC:=⟨stringslite_HasPrefix.c1s,[(stringslite_HasPrefix.c1s,0,[2,201])],no,[0,1],@stringslite_HasPrefix.c1,fun _ _ _ _=>jf (ja fun _=>jb) jb⟩
def stringslite_HasPrefix (s:List UInt8) (t1:List UInt8):Option Bool:=
  bnd (stringslite_HasPrefix.c1 s t1 some) fun y=>
  some y
def stringslite_HasPrefix.ce:=ceOf tab Tryz.f165 stringslite_HasPrefix
def stringslite_HasPrefix.G:EB Tryz.prog:=⟨tb,Tryz.f165,[],[0,1,4],[],[],[(1,stringslite_HasPrefix.c1r.ck)],[],[]⟩
theorem stringslite_HasPrefix.ok:CalleeOk Tryz.prog 165 stringslite_HasPrefix.ce:=fnB stringslite_HasPrefix.G Tryz.func165 (m:=1) ⟨trivial,kR stringslite_HasPrefix.c1r (by kernel_rfl)⟩ (by kernel_rfl)
def JM (s:List UInt8) (t1:List UInt8):Option Bool:=
  bnd (stringslite_HasPrefix s t1) fun y=>
  some y
def JM.ce:=ceOf tab Tryz.f141 JM
def JM.G:EB Tryz.prog:=⟨tb,Tryz.f141,[⟨165,stringslite_HasPrefix.ce,stringslite_HasPrefix.ok⟩],[0,1,4],[],[],[],[],[]⟩
theorem JM.ok:CalleeOk Tryz.prog 141 JM.ce:=fnB JM.G Tryz.func141 (m:=0) trivial (by kernel_rfl)
def whole_number.c2 (text:List UInt8)(signed:Bool)(Z:Bool→Option ρ):Option ρ:=
  br signed
   (bnd (JM text (Array.toList (ByteArray.data (ByteArray.mk #[45])))) fun y=>
    Z y)
   (Z false)
def whole_number.c2s:Shape:=⟨[(0,sp4),(1,sp3),(4,sp6),(5,sp3),(6,sp6)],[]⟩
def whole_number.c2x0:Shape:=(whole_number.c2s.s 12 sp3)
def whole_number.c2r:RC:=⟨whole_number.c2s,[(whole_number.c2x0,0,[5,101])],no,[0,1],@whole_number.c2,fun _ _ _ _=>jf (ja fun _=>jb) jb⟩
def whole_number.ci_ (text:List UInt8)(signed:Bool)(t6:Int)(Z:Int→Option ρ):Option ρ:=
  bnd (whole_number.c2 text signed some) fun y=>
  br y
   (Z (1:Int))
   (Z t6)
def whole_number.ci_r:RC:=⟨whole_number.c2s,[(whole_number.c2s,0,[4,201])],no,[0,1,4],@whole_number.ci_,fun _ _ _ _ _=>ja fun _=>(jf jb jb)⟩
def whole_number.c5 (signed:Bool)(t6:Int)(Z:Bool→Option ρ):Option ρ:=
  br (!signed)
   (Z true)
   (Z (t6==1))
def whole_number.c5x0:Shape:=(whole_number.c2s.s 22 sp3)
def whole_number.c5r:RC:=⟨whole_number.c2s,[(whole_number.c5x0,0,[5,101])],no,[1,4],@whole_number.c5,fun _ _ _ _=>jf jb jb⟩
def whole_number.c9 (text:List UInt8)(i:Int)(Z:Bool→Option ρ):Option ρ:=
  br (decide (i<(text.length:Int)))
   (bnd (idx text i) fun y=>
    br (decide ((48:Int)≤(↑(UInt8.toNat y):Int)))
     (bnd (idx text i) fun y1=>
      Z (decide ((↑(UInt8.toNat y1):Int)≤57)))
     (Z false))
   (Z false)
def whole_number.c9s:Shape:=(whole_number.c2s.s 7 sp6)
def whole_number.c9x0:Shape:=(whole_number.c9s.s 40 sp3)
def whole_number.c9r:RC:=⟨whole_number.c9s,[(whole_number.c9x0,0,[6,101])],no,[0,5],@whole_number.c9,fun _ _ _ _=>jf (ja fun _=>(jf (ja fun _=>jb) jb)) jb⟩
def whole_number.cq_ (text:List UInt8)(i:Int)(Z:(Int)⊕(Int)→Option ρ):Option ρ:=
  bnd (whole_number.c9 text i some) fun y=>
  br y
   (Z (.inl (i64.wrap (i+1))))
   (Z (.inr i))
def whole_number.cq_r:LC:=⟨whole_number.c9s,[(whole_number.c9s,2,[5,201])],no,[5],[0,5],@whole_number.cq_,fun _ _ _ _=>ja fun _=>(jf jb jb)⟩
def whole_number (text:List UInt8) (signed:Bool):Option ((Int)×Bool):=
  bnd (whole_number.ci_ text signed (0:Int) some) fun y=>
  bnd (okIf (decide ((0:Int)≤y)&&decide (y≤(text.length:Int))&&decide ((text.length:Int)≤(text.length:Int)))) fun y1=>
  bnd (JM (List.drop (Int.toNat y) (List.take (Int.toNat (text.length:Int)) text)) (Array.toList (ByteArray.data (ByteArray.mk #[48])))) fun y2=>
  br y2
   (bnd (whole_number.c5 signed y some) fun y3=>
    br y3
     (some (y,false))
     (some ((1:Int),true)))
   (bnd (iter (fun s↦whole_number.cq_ text s some) y) fun y4=>
    some (y4,decide (y4>y)))
def whole_number.ce:=ceOf tab Tryz.f119 whole_number
def whole_number.G:EB Tryz.prog:=⟨tb,Tryz.f119,[⟨141,JM.ce,JM.ok⟩],[0,1,4,5,6,7,12,16,22,40],[],[],[(100009,whole_number.cq_r.ck),(9,whole_number.c9r.ck),(5,whole_number.c5r.ck),(208197,whole_number.ci_r.ck),(2,whole_number.c2r.ck)],[],[]⟩
theorem whole_number.ok:CalleeOk Tryz.prog 119 whole_number.ce:=fnB whole_number.G Tryz.func119 (m:=5) ⟨⟨⟨⟨⟨trivial,kJ whole_number.ci_r (by kernel_rfl)⟩,kR whole_number.c2r (by kernel_rfl)⟩,kR whole_number.c5r (by kernel_rfl)⟩,kL whole_number.cq_r (by kernel_rfl)⟩,kR whole_number.c9r (by kernel_rfl)⟩ (by kernel_rfl)
def stringslite_TrimPrefix (s:List UInt8) (t1:List UInt8):Option (List UInt8):=
  bnd (stringslite_HasPrefix s t1) fun y=>
  br y
   (bnd (okIf (decide ((0:Int)≤(t1.length:Int))&&decide ((t1.length:Int)≤(s.length:Int))&&decide ((s.length:Int)≤(s.length:Int)))) fun y1=>
    some (List.drop (Int.toNat (t1.length:Int)) (List.take (Int.toNat (s.length:Int)) s)))
   (some s)
def stringslite_TrimPrefix.ce:=ceOf tab Tryz.f142 stringslite_TrimPrefix
def stringslite_TrimPrefix.G:EB Tryz.prog:=⟨tb,Tryz.f142,[⟨165,stringslite_HasPrefix.ce,stringslite_HasPrefix.ok⟩],[0,1,4,7],[],[],[],[],[]⟩
theorem stringslite_TrimPrefix.ok:CalleeOk Tryz.prog 142 stringslite_TrimPrefix.ce:=fnB stringslite_TrimPrefix.G Tryz.func142 (m:=0) trivial (by kernel_rfl)
def JG (s:List UInt8) (t1:List UInt8):Option (List UInt8):=
  bnd (stringslite_TrimPrefix s t1) fun y=>
  some y
def JG.ce:=ceOf tab Tryz.f120 JG
def JG.G:EB Tryz.prog:=⟨tb,Tryz.f120,[⟨142,stringslite_TrimPrefix.ce,stringslite_TrimPrefix.ok⟩],[0,1,4],[],[],[],[],[]⟩
theorem JG.ok:CalleeOk Tryz.prog 120 JG.ce:=fnB JG.G Tryz.func120 (m:=0) trivial (by kernel_rfl)
abbrev sp11:SD:=.one (.val (.sl (.int .u32)))
abbrev sp12:SD:=.one (.own 3 0)
abbrev sp13:SD:=.one (.val (.int .u64))
abbrev sp14:SD:=.one (.val (.sl (.int .u8)))
abbrev sp15:SO:=.arr 0 false 148 (.int .u32)
def whole_digits.ch_ (part:Int)(t6:Int)(t21:List (Int))(t22:Int)(t23:Int)(Z:((Int)×(Int)×(Int))⊕((Int)×(Int)×(Int))→Option ρ):Option ρ:=
  br (decide (t23<t22))
   (bnd (idx t21 t23) fun y=>
    Z (.inl ((u64.wrap (u64.wrap (part*10)+u64.wrap (u8.wrap (y-48)))),(u64.wrap (t6*10)),(i64.wrap (t23+1)))))
   (Z (.inr (part,t6,t23)))
def whole_digits.ch_s:Shape:=⟨[(0,sp4),(2,sp11),(3,sp12),(4,sp6),(5,sp13),(6,sp13),(21,sp14),(22,sp6),(23,sp6)],[(3,sp15)]⟩
def whole_digits.ch_r:LC:=⟨whole_digits.ch_s,[(whole_digits.ch_s,4,[3,202,2,201])],no,[3,4,7],[3,4,5,6,7],@whole_digits.ch_,fun _ _ _ _ _ _ _=>jf (ja fun _=>jb) jb⟩
def whole_digits.co_ (part:Int)(t6:Int)(t40:Int)(t41:Int)(mag:List (Int))(Z:((Int)×(Int)×(List Int))⊕((Int)×(Int)×(List Int))→Option ρ):Option ρ:=
  br (decide (t41<t40))
   (bnd (inR (mag.length) t41) fun y=>
    bnd (idx mag t41) fun y1=>
    bnd (inR (mag.length) t41) fun y2=>
    bnd (idx mag t41) fun y3=>
    Z (.inl ((Int.fdiv (u64.wrap (part+u64.wrap (IntKind.wrap IntKind.u64 y1*t6))) ((2:Int) ^32)),(i64.wrap (t41+1)),(List.set mag (Int.toNat t41) (u32.wrap (u64.wrap (part+u64.wrap (IntKind.wrap IntKind.u64 y1*t6))))))))
   (Z (.inr (part,t41,mag)))
def whole_digits.co_s:Shape:=((whole_digits.ch_s.s 40 sp6).s 41 sp6)
def whole_digits.co_r:LC:=⟨whole_digits.co_s,[(whole_digits.co_s,6,[3,201,5,202])],no,[3,9,10],[3,4,8,9,10],@whole_digits.co_,fun _ _ _ _ _ _ _=>jf (ja fun _=>(ja fun _=>(ja fun _=>(ja fun _=>jb)))) jb⟩
def whole_digits.cb_ (text:List UInt8)(mag:List (Int))(Z:((List UInt8)×(List Int))⊕((List UInt8)×(List Int))→Option ρ):Option ρ:=
  br (decide ((text.length:Int)>0))
   (bnd (okIf (decide ((0:Int)≤i64.wrap (Int.tmod (i64.wrap ((text.length:Int)-1)) (9:Int)+1))&&decide (i64.wrap (Int.tmod (i64.wrap ((text.length:Int)-1)) (9:Int)+1)≤(text.length:Int)))) fun y=>
    bnd (okIf (decide (List.length (List.take (Int.toNat (i64.wrap (Int.tmod (i64.wrap ((text.length:Int)-1)) (9:Int)+1))) text)≤140737488355328))) fun y1=>
    bnd (iter (fun s↦whole_digits.ch_ s.1 s.2.1 (List.map (fun b↦(↑(UInt8.toNat b):Int)) (List.take (Int.toNat (i64.wrap (Int.tmod (i64.wrap ((text.length:Int)-1)) (9:Int)+1))) text)) (↑(List.length (List.map (fun b↦(↑(UInt8.toNat b):Int)) (List.take (Int.toNat (i64.wrap (Int.tmod (i64.wrap ((text.length:Int)-1)) (9:Int)+1))) text))):Int) s.2.2 some) ((0:Int),(1:Int),(0:Int))) fun y2=>
    bnd (okIf (decide ((0:Int)≤i64.wrap (Int.tmod (i64.wrap ((text.length:Int)-1)) (9:Int)+1))&&decide (i64.wrap (Int.tmod (i64.wrap ((text.length:Int)-1)) (9:Int)+1)≤(text.length:Int))&&decide ((text.length:Int)≤(text.length:Int)))) fun y3=>
    bnd (iter (fun s↦whole_digits.co_ s.1 y2.2.1 (mag.length:Int) s.2.1 s.2.2 some) (y2.1,(0:Int),mag)) fun y4=>
    br (decide (y4.1>0))
     (bnd (okIf (decide ((List.length y4.2.2+1)*4≤140737488355328)&&decide (List.length y4.2.2+1≤140737488355328))) fun y5=>
      Z (.inl ((List.drop (Int.toNat (i64.wrap (Int.tmod (i64.wrap ((text.length:Int)-1)) (9:Int)+1))) (List.take (Int.toNat (text.length:Int)) text)),(y4.2.2++[u32.wrap (y4.1)]))))
     (Z (.inl ((List.drop (Int.toNat (i64.wrap (Int.tmod (i64.wrap ((text.length:Int)-1)) (9:Int)+1))) (List.take (Int.toNat (text.length:Int)) text)),y4.2.2))))
   (Z (.inr (text,mag)))
def whole_digits.cb_s:Shape:=⟨[(0,sp4),(2,sp11),(3,sp12)],[(3,sp15)]⟩
def whole_digits.cb_r:LC:=⟨whole_digits.cb_s,[(whole_digits.cb_s,2,[201,1,201])],no,[0,2],[0,2],@whole_digits.cb_,fun _ _ _ _=>jf (ja fun _=>(ja fun _=>(ja fun _=>(ja fun _=>(ja fun _=>(jf (ja fun _=>jb) jb)))))) jb⟩
def whole_digits (text:List UInt8):Option (List Int):=
  bnd (iter (fun s↦whole_digits.cb_ s.1 s.2 some) (text,[])) fun y=>
  some y.2
def whole_digits.ce:=ceOf tab Tryz.f122 whole_digits
def whole_digits.G:EB Tryz.prog:=⟨tb,Tryz.f122,[],[0,2,3,4,5,6,8,9,12,21,22,23,24,40,41,42,62],[3],[],[(100002,whole_digits.cb_r.ck),(100012,whole_digits.co_r.ck),(100006,whole_digits.ch_r.ck)],[],[]⟩
theorem whole_digits.ok:CalleeOk Tryz.prog 122 whole_digits.ce:=fnB whole_digits.G Tryz.func122 (m:=3) ⟨⟨⟨trivial,kL whole_digits.cb_r (by kernel_rfl)⟩,kL whole_digits.ch_r (by kernel_rfl)⟩,kL whole_digits.co_r (by kernel_rfl)⟩ (by kernel_rfl)
abbrev sp16:SD:=.one (.ref 2 0)
abbrev sp17:SD:=.one (.ref 3 0)
abbrev sp18:SO:=.box [.val .bool,.val (.sl (.int .u32))]
abbrev sp19:SO:=.box [.val (.int .i64),.val (.int .i64)]
def whole_Parse.c2 (text:List UInt8)(n:Int)(ok:Bool)(Z:Bool→Option ρ):Option ρ:=
  br (!ok)
   (Z true)
   (Z (decide (n<(text.length:Int))))
def whole_Parse.c2s:Shape:=⟨[(0,sp4),(2,sp16),(3,sp17),(4,sp6),(5,sp3)],[(2,sp18),(3,sp19)]⟩
def whole_Parse.c2x0:Shape:=(whole_Parse.c2s.s 19 sp3)
def whole_Parse.c2r:RC:=⟨whole_Parse.c2s,[(whole_Parse.c2x0,0,[3,101])],no,[0,1,2],@whole_Parse.c2,fun _ _ _ _ _=>jf jb jb⟩
def whole_Parse (text:List UInt8):Option ((Bool×(List Int))×((Int)×(Int))):=
  bnd (whole_number text true) fun y=>
  bnd (whole_Parse.c2 text y.1 y.2 some) fun y1=>
  br y1
   (some ((false,[]),(1:Int),y.1))
   (bnd (JG text (Array.toList (ByteArray.data (ByteArray.mk #[45])))) fun y2=>
    br (decide ((y2.length:Int)>1000))
     (some ((false,[]),(2:Int),(0:Int)))
     (bnd (whole_digits y2) fun y3=>
      bnd (whole_made (decide ((y2.length:Int)<(text.length:Int))) y3) fun y4=>
      some ((y4.1,y4.2),(0:Int),(0:Int))))
def whole_Parse.ce:=ceOf tab Tryz.f88 whole_Parse
def whole_Parse.G:EB Tryz.prog:=⟨tb,Tryz.f88,[⟨119,whole_number.ce,whole_number.ok⟩,⟨120,JG.ce,JG.ok⟩,⟨122,whole_digits.ce,whole_digits.ok⟩,⟨121,whole_made.ce,whole_made.ok⟩],[0,2,3,4,5,6,19,27],[],[],[(2,whole_Parse.c2r.ck)],[],[]⟩
theorem whole_Parse.ok:CalleeOk Tryz.prog 88 whole_Parse.ce:=fnB whole_Parse.G Tryz.func88 (m:=1) ⟨trivial,kR whole_Parse.c2r (by kernel_rfl)⟩ (by kernel_rfl)
abbrev sp20:SD:=.one (.aptr 2000700 0)
abbrev sp21:SD:=.one (.ref 1000800 0)
abbrev sp22:SO:=.arr 0 false 71 (.st (.pair (.ar 8 (.st (.pair .bool (.sl (.int .u32))))) (.int .i64)))
abbrev sp23:SD:=.one (.aptr 6 0)
abbrev sp24:SD:=.one (.ref 9 0)
abbrev sp25:SD:=.one (.ref 10 0)
abbrev sp26:SO:=.arr 0 false 69 (.st (.pair .bool (.sl (.int .u32))))
abbrev sp27:SD:=.one (.val .nn)
def je.pre:Shape:=⟨[(0,sp4),(2,sp20),(3,sp21)],[(1000800,sp19),(2000700,sp22)]⟩
def je.chk:St→Bool:=fun st=>match look st.slots 2,look st.slots 3,look st.objs 2000700,look st.objs 1000800 with | some (.one (.aptr 2000700 0)),some (.one (.ref 1000800 0)),some (.arr 0 false 71 (.st (.pair (.ar 8 (.st (.pair .bool (.sl (.int .u32))))) (.int .i64))) _),some (.box [.val (.int .i64) _,.val (.int .i64) _])=>true | _,_,_,_=>false
def je.ck_ (g0:Int)(Z:(Unit)⊕(Unit)→Option ρ):Option ρ:=
  br (g0 !=0)
   (Z (.inl ()))
   (Z (.inr ()))
def je.ck_s:Shape:=⟨[(0,sp4),(2,sp20),(3,sp21),(4,sp8),(5,sp4),(6,sp23),(7,sp6),(8,sp4),(9,sp24),(10,sp25),(22,sp8),(23,sp6),(24,sp6)],[(6,sp26),(9,sp18),(10,sp19),(18,sp2),(1000800,sp19),(2000700,sp22)]⟩
def je.ck_x0:Shape:=⟨[(0,sp4),(2,sp20),(3,sp21),(4,sp8),(5,sp4),(6,sp23),(7,sp6),(8,sp4),(9,sp24),(10,sp25),(22,sp8),(23,sp6),(24,sp6)],[(6,sp26),(9,sp18),(10,sp19),(18,sp2),(900001,sp7),(1000800,sp19),(2000700,sp22)]⟩
def je.ck_r:Ck:=Ck.of (T:=(Unit)⊕(Unit)) je.ck_s (fun ρ X Z=>je.ck_ (q8 X).2.2.2.1 Z) (fun ρ X V Z=>sel V (fun V=>Z 1000000 (Shape.inj je.ck_x0 (X.1,X.2.1,X.2.2.1,X.2.2.2.1,(q4 X).1,(q4 X).2.1,(q4 X).2.2.1,(q4 X).2.2.2.1,(q8 X).1,(q8 X).2.1,(q8 X).2.2.1,(q8 X).2.2.2.1,(q4 (q8 X)).1,(q4 (q8 X)).2.1,(q4 (q8 X)).2.2.1,((q8 X).2.2.2.1,(q4 (q8 X)).1),(q4 (q8 X)).2.2.2))) (fun V=>Z 0 (Shape.inj je.ck_s X)))
def je.cd_ (t22:List (List UInt8))(t23:Int)(t24:Int)(c:List (Bool×(List Int)))(Z:((Int)×(List (Bool×(List Int))))⊕(((Int)×(List (Bool×(List Int)))×((Int)×(Int)))⊕((Int)×(List (Bool×(List Int)))))→Option ρ):Option ρ:=
  br (decide (t24<t23))
   (bnd (idx t22 t24) fun y=>
    bnd (whole_Parse y) fun y1=>
    bnd (je.ck_ y1.2.1 some) fun y2=>
    sel y2
     (fun u=>Z (.inr (.inl (t24,c,(y1.2.1,y1.2.2)))))
     (fun v=>bnd (okIf (decide ((0:Ty.den (Ty.int IntKind.i64))≤t24)&&decide (t24<(↑(8:Nat):Int)))) fun y3=>
      bnd (inR (c.length) t24) fun y4=>
      bnd (idx c t24) fun y5=>
      Z (.inl ((i64.wrap (t24+1)),(List.set c (Int.toNat t24) (y1.1.1,y1.1.2))))))
   (Z (.inr (.inr (t24,c))))
def je.cd_s:Shape:=⟨[(0,sp4),(2,sp20),(3,sp21),(4,sp8),(5,sp4),(6,sp23),(22,sp8),(23,sp6),(24,sp6)],[(6,sp26),(18,sp2),(1000800,sp19),(2000700,sp22)]⟩
def je.cd_x0:Shape:=⟨[(0,sp4),(2,sp20),(3,sp21),(4,sp8),(5,sp4),(6,sp23),(22,sp8),(23,sp6),(24,sp6)],[(6,sp26),(18,sp2),(900001,sp7),(1000800,sp19),(2000700,sp22)]⟩
def je.cd_r:Ck:=Ck.ofLoop (S:=(Int)×(List (Bool×(List Int)))) (T:=((Int)×(List (Bool×(List Int)))×((Int)×(Int)))⊕((Int)×(List (Bool×(List Int))))) je.cd_s (fun X=>((q4 X).2.1,(q4 X).2.2.1)) (fun ρ X Q Z=>je.cd_ X.2.2.2.1 (q4 X).1 Q.1 Q.2 Z) (fun ρ X V Z=>sel V (fun V=>Z 1000000 (Shape.inj je.cd_x0 (X.1,X.2.1,X.2.2.1,X.2.2.2.1,(q4 X).1,V.1,V.2.1,(q4 X).2.2.2.1,(q8 X).1,V.2.2,(q8 X).2))) (fun V=>Z 2 (Shape.inj je.cd_s (X.1,X.2.1,X.2.2.1,X.2.2.2.1,(q4 X).1,V.1,V.2,(q4 X).2.2.2))))
def je.c15 (n:Int)(err:Bool)(Z:Bool→Option ρ):Option ρ:=
  br (!!err)
   (Z true)
   (Z (decide (n>10000)))
def je.c15s:Shape:=⟨[(0,sp4),(2,sp20),(3,sp21),(4,sp8),(5,sp4),(6,sp23),(11,sp6),(12,sp6),(13,sp27),(22,sp8),(23,sp6),(24,sp6)],[(6,sp26),(18,sp2),(1000800,sp19),(2000700,sp22)]⟩
def je.c15x0:Shape:=⟨[(0,sp4),(2,sp20),(3,sp21),(4,sp8),(5,sp4),(6,sp23),(11,sp6),(12,sp6),(13,sp27),(22,sp8),(23,sp6),(24,sp6),(56,sp3)],[(6,sp26),(18,sp2),(1000800,sp19),(2000700,sp22)]⟩
def je.c15r:Ck:=Ck.of (T:=Bool) je.c15s (fun ρ X Z=>je.c15 (q4 X).1 (q4 X).2.1 Z) (fun ρ X V Z=>Z 0 (Shape.inj je.c15x0 (X.1,X.2.1,X.2.2.1,X.2.2.2.1,(q4 X).1,(q4 X).2.1,(q4 X).2.2.1,(q4 X).2.2.2.1,(q8 X).1,V,(q8 X).2)))
def je.cr_ (n:Int)(err:Bool)(Z:(Unit)⊕(Unit)→Option ρ):Option ρ:=
  bnd (je.c15 n err some) fun y=>
  br y
   (Z (.inl ()))
   (Z (.inr ()))
def je.cr_x0:Shape:=⟨[(0,sp4),(2,sp20),(3,sp21),(4,sp8),(5,sp4),(6,sp23),(11,sp6),(12,sp6),(13,sp27),(22,sp8),(23,sp6),(24,sp6)],[(6,sp26),(18,sp2),(900001,sp7),(1000800,sp19),(2000700,sp22)]⟩
def je.cr_r:Ck:=Ck.of (T:=(Unit)⊕(Unit)) je.c15s (fun ρ X Z=>je.cr_ (q4 X).1 (q4 X).2.1 Z) (fun ρ X V Z=>sel V (fun V=>Z 1000000 (Shape.inj je.cr_x0 (X.1,X.2.1,X.2.2.1,X.2.2.2.1,(q4 X).1,(q4 X).2.1,(q4 X).2.2.1,(q4 X).2.2.2.1,(q8 X).1,(q8 X).2.1,(q8 X).2.2.1,(q8 X).2.2.2.1,((2:Int),(0:Int)),(q4 (q8 X))))) (fun V=>Z 0 (Shape.inj je.c15s X)))
def je.cu_ (low:List UInt8)(e:Int)(Z:(Unit)⊕(Int)→Option ρ):Option ρ:=
  br (!low==Array.toList (ByteArray.data (ByteArray.mk #[])))
   (bnd (kV low) fun y=>
    bnd (je.cr_ y.1 y.2 some) fun y1=>
    sel y1
     (fun u=>Z (.inl ()))
     (fun v=>Z (.inr y.1)))
   (Z (.inr e))
def je.cu_s:Shape:=⟨[(0,sp4),(2,sp20),(3,sp21),(4,sp8),(5,sp4),(6,sp23),(11,sp6),(22,sp8),(23,sp6),(24,sp6)],[(6,sp26),(18,sp2),(1000800,sp19),(2000700,sp22)]⟩
def je.cu_x0:Shape:=⟨[(0,sp4),(2,sp20),(3,sp21),(4,sp8),(5,sp4),(6,sp23),(11,sp6),(22,sp8),(23,sp6),(24,sp6)],[(6,sp26),(18,sp2),(900001,sp7),(1000800,sp19),(2000700,sp22)]⟩
def je.cu_r:Ck:=Ck.of (T:=(Unit)⊕(Int)) je.cu_s (fun ρ X Z=>je.cu_ X.2.2.1 X.2.2.2.1 Z) (fun ρ X V Z=>sel V (fun V=>Z 1000000 (Shape.inj je.cu_x0 (X.1,X.2.1,X.2.2.1,X.2.2.2.1,(q4 X).1,(q4 X).2.1,(q4 X).2.2.1,(q4 X).2.2.2.1,(q8 X).1,(q8 X).2.1,((2:Int),(0:Int)),(q8 X).2.2))) (fun V=>Z 0 (Shape.inj je.cu_s (X.1,X.2.1,X.2.2.1,V,(q4 X)))))
def je.cz_ (text:List UInt8)(e:Int)(c:List (Bool×(List Int)))(ug:List YN)(Z:(List YN)⊕(List YN)→Option ρ):Option ρ:=
  bnd (okIf (decide (c.length=8))) fun y=>
  bnd (jC c e) fun y1=>
  bnd (idx ug (0:Int)) fun y2=>
  bnd (idx (List.set ug (0:Nat) y1) (0:Int)) fun y3=>
  bnd (jq y3) fun y4=>
  br (!y4==text)
   (Z (.inl (List.set ug (0:Nat) y1)))
   (Z (.inr (List.set ug (0:Nat) y1)))
def je.cz_r:Ck:=Ck.of (T:=(List YN)⊕(List YN)) je.cu_s (fun ρ X Z=>je.cz_ X.1 X.2.2.2.1 (q4 X).2.2.2.1 (q4 (q8 X)).1 Z) (fun ρ X V Z=>sel V (fun V=>Z 1000000 (Shape.inj je.cu_x0 (X.1,X.2.1,X.2.2.1,X.2.2.2.1,(q4 X).1,(q4 X).2.1,(q4 X).2.2.1,(q4 X).2.2.2.1,(q8 X).1,(q8 X).2.1,((3:Int),(0:Int)),(q8 X).2.2.1,(q8 X).2.2.2.1,V,()))) (fun V=>Z 0 (Shape.inj je.cu_s (X.1,X.2.1,X.2.2.1,X.2.2.2.1,(q4 X).1,(q4 X).2.1,(q4 X).2.2.1,(q4 X).2.2.2.1,(q8 X).1,(q8 X).2.1,(q8 X).2.2.1,(q8 X).2.2.2.1,V,()))))
def je.c21 (ug:List YN)(Z:List YN→Option ρ):Option ρ:=
  bnd (idx ug (0:Int)) fun y=>
  bnd (idx ug (0:Int)) fun y1=>
  Z (List.set ug (0:Nat) y)
def je.c21r:Ck:=Ck.of (T:=List YN) je.cu_s (fun ρ X Z=>je.c21 (q4 (q8 X)).1 Z) (fun ρ X V Z=>Z 0 (Shape.inj je.cu_s (X.1,X.2.1,X.2.2.1,X.2.2.2.1,(q4 X).1,(q4 X).2.1,(q4 X).2.2.1,(q4 X).2.2.2.1,(q8 X).1,(q8 X).2.1,(q8 X).2.2.1,(q8 X).2.2.2.1,V,())))
def je (text:List UInt8) (uc:Int) (ud:Int) (ug:List YN):Option ((YN×((Int)×(Int)))⊕((Int)×(Int))):=
  bnd (ji text (0:Int)) fun y=>
  sel y
   (fun u=>bnd (iter (fun s↦je.cd_ u.1 (↑(List.length u.1):Int) s.1 s.2 some) ((0:Int),List.replicate (8:Nat) (false,[]))) fun y1=>
    sel y1
     (fun u_1=>some (Sum.inr u_1.2.2))
     (fun v_1=>bnd (je.cu_ u.2.1 (0:Int) some) fun y2=>
      sel y2
       (fun u_2=>some (Sum.inr ((2:Int),(0:Int))))
       (fun v_2=>bnd (je.cz_ text v_2 v_1.2 ug some) fun y3=>
        sel y3
         (fun u_3=>some (Sum.inr ((3:Int),(0:Int))))
         (fun v_3=>bnd (je.c21 v_3 some) fun y4=>
          bnd (idx y4 (0:Int)) fun y5=>
          some (Sum.inl (y5,uc,ud))))))
   (fun v=>some (Sum.inr v.1))
def je.F (X:densU je.pre.tys):Option (dens [(.st (.pair (.ar 8 (.st (.pair .bool (.sl (.int .u32))))) (.int .i64))),(.st (.pair (.int .i64) (.int .i64)))]⊕((.st (.st (.pair (.int .i64) (.int .i64)))):Ty).den):=je X.1 X.2.1 X.2.2.1 X.2.2.2.1
def je.G:Env:=⟨73,tab,[(88,whole_Parse.ce),(89,kV.ce),(90,jC.ce),(26,jq.ce)],[0,2,3,4,5,6,7,8,9,10,11,12,13,22,23,24,25,36,45,56,67],[2,6,2000700],[(21,[⟨[],[],[72],[]⟩,⟨[],[],[71],[2000700]⟩,⟨[0],[2000700],[72],[]⟩,⟨[1,2,0],[1000800],[],[]⟩])],[(21,je.c21r),(273735,je.cz_r),(253261,je.cu_r),(261445,je.cr_r),(15,je.c15r),(100005,je.cd_r),(232773,je.ck_r)],[],VL,[(87,ji.ma)]⟩
theorem je.p0:ky je.G (kC (Jh je.G.cks (Ji (segF Tryz.f58))) 0).1 (kC (Jh je.G.cks (Ji (segF Tryz.f58))) 0).2:=
  HP (s:=je.cd_r) (by kernel_rfl) (by kernel_rfl) (VD (sh:=je.cd_s) (I:=fun X Q=>(X.1,X.2.1,X.2.2.1,X.2.2.2.1,(q4 X).1,Q.1,Q.2,(q4 X).2.2.2)) (fun X=>rfl) (fun ρ X Q Z=>(jf (ja fun _=>(ja fun _=>(ja fun _=>(Yp (fun _=>jb) (fun _=>(ja fun _=>(ja fun _=>(ja fun _=>jb)))))))) jb)) (fun ρ X t k=>(Yp (fun _=>(by kernel_rfl)) (fun _=>(by kernel_rfl)))) (fun X s=>by kernel_rfl))
theorem je.p1:ky je.G (kC (Jh je.G.cks (Ji (segF Tryz.f58))) 1).1 (kC (Jh je.G.cks (Ji (segF Tryz.f58))) 1).2:=
  Hp (s:=je.ck_r) (by kernel_rfl) (by kernel_rfl) (kb (sh:=je.ck_s) (fun ρ X Z=>(jf jb jb)) (fun ρ X t k=>(Yp (fun _=>(by kernel_rfl)) (fun _=>(by kernel_rfl)))) (fun X=>by kernel_rfl))
theorem je.p2:ky je.G (kC (Jh je.G.cks (Ji (segF Tryz.f58))) 2).1 (kC (Jh je.G.cks (Ji (segF Tryz.f58))) 2).2:=
  Hp (s:=je.cu_r) (by kernel_rfl) (by kernel_rfl) (kb (sh:=je.cu_s) (fun ρ X Z=>(jf (ja fun _=>(ja fun _=>(Yp (fun _=>jb) (fun _=>jb)))) jb)) (fun ρ X t k=>(Yp (fun _=>(by kernel_rfl)) (fun _=>(by kernel_rfl)))) (fun X=>by kernel_rfl))
theorem je.p3:ky je.G (kC (Jh je.G.cks (Ji (segF Tryz.f58))) 3).1 (kC (Jh je.G.cks (Ji (segF Tryz.f58))) 3).2:=
  Hp (s:=je.cr_r) (by kernel_rfl) (by kernel_rfl) (kb (sh:=je.c15s) (fun ρ X Z=>(ja fun _=>(jf jb jb))) (fun ρ X t k=>(Yp (fun _=>(by kernel_rfl)) (fun _=>(by kernel_rfl)))) (fun X=>by kernel_rfl))
theorem je.p4:ky je.G (kC (Jh je.G.cks (Ji (segF Tryz.f58))) 4).1 (kC (Jh je.G.cks (Ji (segF Tryz.f58))) 4).2:=
  kr (s:=je.c15r) (by kernel_rfl) (by kernel_rfl) (kb (sh:=je.c15s) (fun ρ X Z=>(jf jb jb)) (fun ρ X t k=>(by kernel_rfl)) (fun X=>by kernel_rfl))
theorem je.p5:ky je.G (kC (Jh je.G.cks (Ji (segF Tryz.f58))) 5).1 (kC (Jh je.G.cks (Ji (segF Tryz.f58))) 5).2:=
  Hp (s:=je.cz_r) (by kernel_rfl) (by kernel_rfl) (kb (sh:=je.cu_s) (fun ρ X Z=>(ja fun _=>(ja fun _=>(ja fun _=>(ja fun _=>(ja fun _=>(jf jb jb))))))) (fun ρ X t k=>(Yp (fun _=>(by kernel_rfl)) (fun _=>(by kernel_rfl)))) (fun X=>by kernel_rfl))
theorem je.p6:ky je.G (kC (Jh je.G.cks (Ji (segF Tryz.f58))) 6).1 (kC (Jh je.G.cks (Ji (segF Tryz.f58))) 6).2:=
  kr (s:=je.c21r) (by kernel_rfl) (by kernel_rfl) (kb (sh:=je.cu_s) (fun ρ X Z=>(ja fun _=>(ja fun _=>jb))) (fun ρ X t k=>(by kernel_rfl)) (fun X=>by kernel_rfl))
theorem je.ok:SegOk je.G (segF Tryz.f58) je.pre je.chk [(.st (.pair (.ar 8 (.st (.pair .bool (.sl (.int .u32))))) (.int .i64))),(.st (.pair (.int .i64) (.int .i64)))] 130 (.st (.st (.pair (.int .i64) (.int .i64)))) je.F:=segOk (m:=7) ⟨⟨⟨⟨⟨⟨⟨trivial,je.p0⟩,je.p1⟩,je.p2⟩,je.p3⟩,je.p4⟩,je.p5⟩,je.p6⟩ (by kernel_rfl)
abbrev sp28:SD:=.one (.ref 1000900 0)
def jI.pre:Shape:=⟨[(0,sp20),(1,sp21),(2,sp28),(9,sp3)],[(1000800,sp19),(1000900,sp19),(2000700,sp22)]⟩
def jI.chk:St→Bool:=fun _=>true
def jI.c2 (ug:List YN)(Z:Unit→Option ρ):Option ρ:=
  bnd (idx ug (0:Int)) fun y=>
  Z ()
def jI.c2s:Shape:=⟨[(0,sp20),(1,sp21),(2,sp28)],[(1000800,sp19),(1000900,sp19),(2000700,sp22)]⟩
def jI.c2r:Ck:=Ck.of (T:=Unit) jI.c2s (fun ρ X Z=>jI.c2 (q4 X).1 Z) (fun ρ X V Z=>Z 0 (Shape.inj jI.c2s (X.2.2.1,X.2.2.2.1,X.2.2.1,X.2.2.2.1,(List.set (q4 X).1 (0:Nat) (List.replicate (8:Nat) (false,[]),(0:Int))),())))
def jI (t9:Bool) (uc:Int) (ud:Int) (ue:Int) (uf:Int) (ug:List YN):Option ((Unit)⊕((List (List UInt8))×((List Int)×(Int)))):=
  br t9
   (bnd (jI.c2 ug some) fun y=>
    some (Sum.inl ()))
   (some (Sum.inl ()))
def jI.F (X:densU jI.pre.tys):Option (dens []⊕((.st (.pair (.sl .str) (.pair (.sl (.int .i64)) (.int .i64)))):Ty).den):=jI X.1 X.2.1 X.2.2.1 X.2.2.2.1 (q4 X).1 (q4 X).2.1
def jI.G:Env:=⟨13,tab,[],[0,1,2,3,9],[2000700],[(2,[⟨[],[],[11,12],[]⟩,⟨[],[],[10],[2000700]⟩,⟨[1],[],[10],[2000700]⟩,⟨[0],[2000700],[11,12],[]⟩,⟨[2,1,3,0],[1000800],[],[]⟩])],[(2,jI.c2r)],[],VL,[]⟩
theorem jI.p0:ky jI.G (kC (Jh jI.G.cks (Ji (segF Tryz.f86))) 0).1 (kC (Jh jI.G.cks (Ji (segF Tryz.f86))) 0).2:=
  kr (s:=jI.c2r) (by kernel_rfl) (by kernel_rfl) (kb (sh:=jI.c2s) (fun ρ X Z=>(ja fun _=>jb)) (fun ρ X t k=>(by kernel_rfl)) (fun X=>by kernel_rfl))
theorem jI.ok:SegOk jI.G (segF Tryz.f86) jI.pre jI.chk [] 29 (.st (.pair (.sl .str) (.pair (.sl (.int .i64)) (.int .i64)))) jI.F:=segOk (m:=1) ⟨trivial,jI.p0⟩ (by kernel_rfl)
def jF.c6 (text:List UInt8)(i:Int)(Z:Bool→Option ρ):Option ρ:=
  bnd (idx text i) fun y=>
  br (decide ((↑(UInt8.toNat y):Int)<48))
   (Z true)
   (bnd (idx text i) fun y1=>
    Z (decide ((↑(UInt8.toNat y1):Int)>57)))
def jF.c6s:Shape:=⟨[(0,sp4),(2,sp3),(3,sp6),(4,sp6)],[]⟩
def jF.c6x0:Shape:=⟨[(0,sp4),(2,sp3),(3,sp6),(4,sp6),(22,sp3)],[]⟩
def jF.c6r:Ck:=Ck.of (T:=Bool) jF.c6s (fun ρ X Z=>jF.c6 X.1 X.2.2.2.1 Z) (fun ρ X V Z=>Z 0 (Shape.inj jF.c6x0 (X.1,X.2.1,X.2.2.1,X.2.2.2.1,V,())))
def jF.cm_ (text:List UInt8)(n:Int)(i:Int)(Z:Int→Option ρ):Option ρ:=
  bnd (jF.c6 text i some) fun y=>
  br y
   (Z (0:Int))
   (Z n)
def jF.cm_r:Ck:=Ck.of (T:=Int) jF.c6s (fun ρ X Z=>jF.cm_ X.1 X.2.2.1 X.2.2.2.1 Z) (fun ρ X V Z=>Z 0 (Shape.inj jF.c6s (X.1,X.2.1,V,X.2.2.2)))
def jF.ca_ (text:List UInt8)(n:Int)(i:Int)(Z:((Int)×(Int))⊕(((Int)×(Int))⊕((Int)×(Int)))→Option ρ):Option ρ:=
  br (decide (i<(text.length:Int)))
   (bnd (jF.cm_ text (i64.wrap (n+1)) i some) fun y=>
    br (decide (y>1000))
     (Z (.inr (.inl (y,i))))
     (Z (.inl (y,(i64.wrap (i+1))))))
   (Z (.inr (.inr (n,i))))
def jF.ca_r:Ck:=Ck.ofLoop (S:=(Int)×(Int)) (T:=((Int)×(Int))⊕((Int)×(Int))) jF.c6s (fun X=>(X.2.2.1,X.2.2.2.1)) (fun ρ X Q Z=>jF.ca_ X.1 Q.1 Q.2 Z) (fun ρ X V Z=>sel V (fun V=>Z 1 (Shape.inj jF.c6s (X.1,true,V.1,V.2,()))) (fun V=>Z 2 (Shape.inj jF.c6s (X.1,X.2.1,V.1,V.2,()))))
def jF (text:List UInt8):Option Bool:=
  bnd (iter (fun s↦jF.ca_ text s.1 s.2 some) ((0:Int),(0:Int))) fun y=>
  sel y
   (fun u=>some true)
   (fun v=>some false)
def jF.ce:Go.Ql.Callee:=⟨[.str],[.bool],fun X=>jF X⟩
def jF.G:Env:=⟨25,tab,[],[0,2,3,4,8,22,24],[],[],[(100003,jF.ca_r),(224581,jF.cm_r),(6,jF.c6r)],[],VL,[]⟩
theorem jF.p0:PcA jF.G Tryz.f24 0:=
  HP (s:=jF.ca_r) (by kernel_rfl) (by kernel_rfl) (VD (sh:=jF.c6s) (I:=fun X Q=>(X.1,X.2.1,Q.1,Q.2,())) (fun X=>rfl) (fun ρ X Q Z=>(jf (ja fun _=>(jf jb jb)) jb)) (fun ρ X t k=>(Yp (fun _=>(by kernel_rfl)) (fun _=>(by kernel_rfl)))) (fun X s=>by kernel_rfl))
theorem jF.p1:PcA jF.G Tryz.f24 1:=
  Hp (s:=jF.cm_r) (by kernel_rfl) (by kernel_rfl) (kb (sh:=jF.c6s) (fun ρ X Z=>(ja fun _=>(jf jb jb))) (fun ρ X t k=>(by kernel_rfl)) (fun X=>by kernel_rfl))
theorem jF.p2:PcA jF.G Tryz.f24 2:=
  kr (s:=jF.c6r) (by kernel_rfl) (by kernel_rfl) (kb (sh:=jF.c6s) (fun ρ X Z=>(ja fun _=>(jf jb (ja fun _=>jb)))) (fun ρ X t k=>(by kernel_rfl)) (fun X=>by kernel_rfl))
theorem jF.ok:CalleeOk Tryz.prog 24 jF.ce:=fn_ok (G:=jF.G) VI mixed Tryz.func24 ⟨Ud,VE,YW,VA⟩ (m:=3) (by kernel_rfl) ⟨⟨⟨trivial,jF.p0⟩,jF.p1⟩,jF.p2⟩ (by kernel_rfl) (fun _=>by kernel_rfl)
end
end W
end

section
set_option maxHeartbeats 800000
set_option maxRecDepth 100000
namespace W
open Go Go.Ql Go.Proofs
theorem as_nil (w:World):(Instr.typeAssert .nilIface 20 130 true).run Tryz.prog w=.ok (.tuple #[.agg #[.int .i64 0,.int .i64 0],.bool false]) w:=by kernel_rfl
theorem as_yes (v:Value) (w:World):(Instr.typeAssert (.iface 130 v) 20 130 true).run Tryz.prog w=.ok (.tuple #[v,.bool true]) w:=by kernel_rfl
theorem catch_idle (p q:Value) (w:World):CallsD Tryz.prog 86 #[p,q] .returning w fun e u' w'=>e=.returned (.tuple #[])∧u'=.returning∧Same w w':=by
 refine callsD_of_wpS Tryz.func86 rfl fun c₀ cs hu=>?_
 apply wpS_seq
 apply wpS_region
 simp [wpOpsS,go_sem,recoverD,hu,Tryz.ntmps86,Exit.thenS,as_nil]
 apply wpS_seq
 apply wpS_region
 simp [wpOpsS,go_sem,Exit.thenS]
 refine wpS_cond (t:=false) (by simp [Act.eval,Array.replicate]) ?_
 simp only [Bool.false_eq_true,if_false]
 refine wpS_of_wp (wp_skip ?_)
 cases c₀
 simp_all [bodyPostS,results,Tryz.results86]
 exact Same.alloc _ _
abbrev numT:Ty:=.st (.pair (.ar 8 (.st (.pair .bool (.sl (.int .u32))))) (.int .i64))
abbrev fauT:Ty:=.st (.pair (.int .i64) (.int .i64))
noncomputable def kfin (e:Ex) (st:St):Option (dens [numT,fauT]):=bif Nat.blt e 2 then resK je.G ⟨[(2,.one (.aptr 2000700 0)),(3,.one (.ref 1000800 0))],st.objs⟩ Tryz.f58.results.toList (finK (Ql.look st.objs) [numT,fauT] fun x=>x) else none
theorem tail_eq (x:numT.den) (f0 f1 c at_:Int):execK jI.G (Ji (segF Tryz.f86)) _ (jI.pre.inj (true,f0,f1,c,at_,[x],())) kfin=some ((List.replicate 8 (false,[]),(0:Int)),((c,at_):Int×Int)):=by kernel_rfl
theorem Hy {A B:Ob} {id:Nat} {ob:Ob} (h:look [(1000800,A),(2000700,B)] id=some ob):(id=1000800∧ob=A)∨(id=2000700∧ob=B):=by
 simp only [Ql.look] at h
 cases h1:Nat.beq 1000800 id with
 | true=>rw [h1] at h;exact .inl ⟨(beqN.1 h1).symm,(Option.some.inj h).symm⟩
 | false=>
   rw [h1] at h
   cases h2:Nat.beq 2000700 id with
   | true=>rw [h2] at h;exact .inr ⟨(beqN.1 h2).symm,(Option.some.inj h).symm⟩
   | false=>rw [h2] at h;cases h
theorem clo_all:AllOk Tryz.prog jI.G:=⟨Ud,VE,YW,VA⟩
theorem rd_ints {w:World} {c d:Int} (Z:Nat→Prop) (nm:Names) (objs:List (Nat×Ob)):rdAs w Z nm objs [.val (.int .i64) c,.val (.int .i64) d] [.int .i64 c,.int .i64 d]:=
 ⟨rfl,fun i a v h1 h2=>by
  match i,h1,h2 with
  | 0,h1,h2=>cases h1;cases h2;rfl
  | 1,h1,h2=>cases h1;cases h2;rfl
  | i+2,h1,_=>cases h1⟩
theorem ints_cells {c d:Int}:∀x∈[At.val (.int .i64) c,At.val (.int .i64) d],∃t d,x=At.val t d:=by
 intro x hx
 simp only [List.mem_cons,List.not_mem_nil,or_false] at hx
 rcases hx with rfl | rfl<;>exact ⟨_,_,rfl⟩
theorem catch_thrown {n:Nat} {w0 w:World} {Z:Nat→Prop} {nm0:Names} {df:List Deferred} {cm:Bool} {st:St} {a:Act} {nm:Names} (hR:Rel n w0 ⟨Z,fun _=>False,nm0,df,cm⟩ st a w nm) {x:numT.den} {f0 f1:Int}
 (h2:look st.objs 2000700=some (.arr 0 false 71 numT [x])) (h3:look st.objs 1000800=some (.box [.val (.int .i64) f0,.val (.int .i64) f1])) {b2 b3 m c:Nat}
 (e2:nm 2000700=.slice (some ⟨b2,0,none⟩) m c) (e3:nm 1000800=.pointer (some ⟨b3,0,none⟩)) (code at_:Int) (older:List PanicEntry)
 {a2:Act} (s2:a2.tmps.size=73) (t2:a2.tmps[2]?=some (.pointer (some ⟨b2,0,none⟩))) (t3:a2.tmps[3]?=some (.pointer (some ⟨b3,0,none⟩))) :
 CallsD Tryz.prog 86 #[.pointer (some ⟨b2,0,none⟩),.pointer (some ⟨b3,0,none⟩)] (.panicking ({ v:=.iface 130 (.agg #[.int .i64 code,.int .i64 at_]),recovered:=false }::older)) w
 fun e u' w'=>e=.returned (.tuple #[])∧u'=.panicking ({ v:=.iface 130 (.agg #[.int .i64 code,.int .i64 at_]),recovered:=true }::older) ∧
  ∃v,(results Tryz.f58 a2.tmps).run Tryz.prog w'=.ok v w'∧Same w0 w'∧rdRes w' (VN w0 w' Z) [numT,fauT] ((List.replicate 8 (false,[]),(0:Int)),((code,at_):Int×Int)) v:=by
 refine callsD_of_wpS Tryz.func86 rfl fun c₀ cs hu=>?_
 apply wpS_seq
 apply wpS_region
 simp [wpOpsS,go_sem,recoverD,hu,Tryz.ntmps86,Exit.thenS,as_yes]
 apply wpS_seq
 apply wpS_region
 simp [wpOpsS,go_sem,Exit.thenS]
 refine wpS_of_wp ?_
 have r1:Rel n w0 ⟨Z,fun _=>False,nm0,df,cm⟩ ⟨[],[(1000800,.box [.val (.int .i64) f0,.val (.int .i64) f1]),(2000700,.arr 0 false 71 numT [x])]⟩ a w nm:=hR.only (by
  intro id ob hl
  rcases Hy hl with ⟨rfl,rfl⟩ | ⟨rfl,rfl⟩
  ·exact ⟨h3,ints_cells⟩
  ·exact ⟨h2,trivial⟩)
 have r2:=r1.newBox (w1:=w.alloc (.cells #[.int .i64 code,.int .i64 at_] 130)) (id:=1000900) (b:=w.heap.size) (cs:=[.val (.int .i64) code,.val (.int .i64) at_]) (vs:=#[.int .i64 code,.int .i64 at_]) (T:=130)
  (by intro id ob hl;rcases Hy hl with ⟨rfl,rfl⟩ | ⟨rfl,rfl⟩;exact ints_cells;trivial) (Same.alloc _ _) rfl ⟨Nat.le_refl _,by simp⟩ (heap_alloc_new _ _) rd_ints (by intro u hu;simp at hu;rcases hu with rfl | rfl<;>rfl) ints_cells
 refine wpIn_wide.1 (VK VI clo_all mixed (Ji (segF Tryz.f86)) jI.ok.draws jI.ok.ps (w0:=w0) (Z0:=⟨Z,fun _=>False,setN nm 1000900 (.pointer (some ⟨w.heap.size,0,none⟩)),[],true⟩) none (.inr (by kernel_rfl)) (st:=jI.pre.inj (true,f0,f1,code,at_,[x],())) (nm:=setN nm 1000900 (.pointer (some ⟨w.heap.size,0,none⟩))) (r:=((List.replicate 8 (false,[]),(0:Int)),((code,at_):Int×Int))) (k:=kfin) ?_ (tail_eq x f0 f1 code at_) ?_)
 ·refine r2.frame rfl (by simp;rfl) ?_
  intro t d hl
  have hl:=kQ hl
  replace hl:(t,d)∈[(0,Dv.one (.aptr 2000700 0)),(1,.one (.ref 1000800 0)),(2,.one (.ref 1000900 0)),(9,.one (.val .bool true))]:=hl
  simp only [List.mem_cons,Prod.mk.injEq,List.not_mem_nil,or_false] at hl
  rcases hl with ⟨rfl,rfl⟩ | ⟨rfl,rfl⟩ | ⟨rfl,rfl⟩ | ⟨rfl,rfl⟩
  ·exact ⟨.pointer (some ⟨b2,0,none⟩),by simp,rfl,fun fz e t xs hl=>⟨b2,m,c,e2,rfl⟩⟩
  ·exact ⟨.pointer (some ⟨b3,0,none⟩),by simp,rfl,fun cs hl=>⟨b3,e3,rfl⟩⟩
  ·exact ⟨.pointer (some ⟨w.heap.size,0,none⟩),by simp,rfl,fun cs hl=>⟨w.heap.size,rfl,rfl⟩⟩
  ·exact ⟨.bool true,by simp,rfl⟩
 ·intro e st' a' w' nm' h' hk _
  unfold kfin at hk
  cases hlt:Nat.blt e 2 with
  | false=>rw [hlt] at hk;cases hk
  | true=>
    rw [hlt] at hk
    simp only [cond_true] at hk
    have hF:=h'.frame (cm:=false) (n':=73) (a':=a2) (df:=a2.defers) (sl:=[(2,.one (.aptr 2000700 0)),(3,.one (.ref 1000800 0))]) rfl s2 (by
     intro t d hl
     have hl:=kQ hl
     simp only [List.mem_cons,Prod.mk.injEq,List.not_mem_nil,or_false] at hl
     rcases hl with ⟨rfl,rfl⟩ | ⟨rfl,rfl⟩
     ·refine ⟨_,t2,rfl,fun fz e t xs hl=>?_⟩
      have hg:=h'.given 2000700 _ (by decide) hl ⟨by decide,rfl⟩
      exact ⟨b2,m,c,hg.trans e2,rfl⟩
     ·refine ⟨_,t3,rfl,fun cs hl=>?_⟩
      have hg:=h'.given 1000800 _ (by decide) hl trivial
      exact ⟨b3,hg.trans e3,rfl⟩)
    obtain ⟨x',v,hx,hv,hs,hr⟩:=res_fin (G:=je.G) (fn:=Tryz.f58) (rs:=[numT,fauT]) (f:=fun x=>x) VI hF hk
    subst hx
    match e,hlt with
    | 0,_=>exact ⟨h'.calm rfl,_,rfl,_,by simp [results,Tryz.results86],rfl,rfl,v,hv,hs,hr⟩
    | 1,_=>exact ⟨h'.calm rfl,_,rfl,_,by simp [results,Tryz.results86],rfl,rfl,v,hv,hs,hr⟩
    | n+2,h=>rw [Nat.blt_eq] at h;omega
abbrev zeroN:numT.den:=(List.replicate 8 (false,[]),(0:Int))
noncomputable def kM (text:List UInt8):Option ((List (Bool×List Int)×Int)×(Int×Int)):=
 bnd (je text 0 0 [zeroN]) fun y=>sel y (fun u=>some u) (fun v=>some (zeroN,v))
noncomputable def kM.ce:Go.Ql.Callee:=⟨[.str],[numT,fauT],fun x_=>kM x_⟩
noncomputable def r0:Code:=match Tryz.f58.body with
 | some (.seq a _)=>a
 | _=>.skip
noncomputable def r1:Code:=match Tryz.f58.body with
 | some (.seq _ (.seq a _))=>a
 | _=>.skip
theorem body_eq:Tryz.f58.body=some (.seq r0 (.seq r1 (Ji (segF Tryz.f58)))):=by kernel_rfl
noncomputable def kM.st0 (s:List UInt8):St:=⟨[(0,.one (.val .str s)),(2,.one (.aptr 2 0)),(3,.one (.ref 3 0))],[(2,.arr 0 false 71 numT [zeroN]),(3,.box [.val (.int .i64) 0,.val (.int .i64) 0])]⟩
theorem r0_eq (s:List UInt8):execK je.G r0 (Ex×St) ⟨[(0,.one (.val .str s))],[]⟩ (fun e st=>some (e,st))=some (0,kM.st0 s):=by kernel_rfl
theorem parse_all:AllOk Tryz.prog je.G:=⟨Yk whole_Parse.ok (Yk kV.ok (Yk jC.ok (Yk jq.ok Ud))),VE,YW,Uw ji.ok VA⟩
theorem r0_draws:kz je.G r0=true:=by kernel_rfl
theorem r0_pieces:Jh je.G.cks r0=[]:=by kernel_rfl
theorem mkf (fn:Fn) (first cap:Array Value) (w:World):(Instr.makeFunc fn first cap).run Tryz.prog w=.ok (.func fn first cap) w:=rfl
def dfd (p q:Addr):Deferred:=⟨.fn (.func 86) #[.pointer (some p),.pointer (some q)],#[]⟩
theorem r1_wp {Q:Exit→Act→World→Prop} {a:Act} {w:World} {p q:Addr} (hsz:a.tmps.size=73) (h2:a.tmps[2]?=some (.pointer (some p))) (h3:a.tmps[3]?=some (.pointer (some q))) (hd:a.defers=[])
 (h:Q .normal ⟨a.tmps.setIfInBounds 14 (.func (.func 86) #[] #[.pointer (some p),.pointer (some q)]),[dfd p q]⟩ w):r1.wp Tryz.prog Q a w:=by
 unfold r1 Tryz.f58
 apply wp_region
 have e2:a.tmps.getD 2 undef=.pointer (some p):=by simp [h2]
 have e3:a.tmps.getD 3 undef=.pointer (some q):=by simp [h3]
 simp [wpOps,go_sem,mkf,h2,h3,hd,hsz]
 rw [(Array.getElem?_eq_some_iff.1 h2).2,(Array.getElem?_eq_some_iff.1 h3).2]
 exact .inl (.inl h)
theorem ins_args (w:World) (p q:Addr):(invoke (.fn (.func 86) #[.pointer (some p),.pointer (some q)]) #[]).run Tryz.prog w=.ok (.enter 86 #[.pointer (some p),.pointer (some q)]) w:=by
 simp [go_sem]
theorem frame_slots {s:List UInt8} {w:World} {Z0:Bs} {nm:Names} {objs:List (Nat×Ob)} {w0:World} {a:Act} {b2 b3 m c:Nat} (h0:a.tmps[0]?=some (.string ⟨s.toArray⟩)) (h2:a.tmps[2]?=some (.pointer (some ⟨b2,0,none⟩))) (h3:a.tmps[3]?=some (.pointer (some ⟨b3,0,none⟩)))
 (e2:nm 2000700=.slice (some ⟨b2,0,none⟩) m c) (e3:nm 1000800=.pointer (some ⟨b3,0,none⟩)) :
 ∀t d,Ql.look [(0,Dv.one (.val .str s)),(2,.one (.aptr 2000700 0)),(3,.one (.ref 1000800 0))] t=some d → ∃v,a.tmps[t]?=some v∧rdD w (Zc w0 Z0 nm objs w) nm objs d v:=by
 intro t d hl
 have hl:=kQ hl
 simp only [List.mem_cons,Prod.mk.injEq,List.not_mem_nil,or_false] at hl
 rcases hl with ⟨rfl,rfl⟩ | ⟨rfl,rfl⟩ | ⟨rfl,rfl⟩
 ·exact ⟨_,h0,rfl⟩
 ·exact ⟨_,h2,rfl,fun fz e t xs hl=>⟨b2,m,c,e2,rfl⟩⟩
 ·exact ⟨_,h3,rfl,fun cs hl=>⟨b3,e3,rfl⟩⟩
def oldN (i:Nat):Nat:=if i=2000700 then 2 else 3
theorem row_one {w:World} {Z:Nat→Prop} {v:Value} {xs:List numT.den} (h:rdArr w Z v 71 numT xs) (hne:xs≠[]):∃b c,v=.slice (some ⟨b,0,none⟩) xs.length c:=by
 obtain ⟨cells,⟨_,hc⟩,_⟩:=h.sl rfl
 rcases hc with ⟨_,h0⟩ | ⟨g,cap,cur,e,_⟩
 ·exact absurd (List.length_eq_zero_iff.1 h0) hne
 ·exact ⟨g,cap,e⟩
theorem row_len {w:World} {Z:Nat→Prop} {b m c:Nat} {xs:List numT.den} (h:rdArr w Z (.slice (some ⟨b,0,none⟩) m c) 71 numT xs):xs.length=m:=by
 obtain ⟨cells,⟨_,hc⟩,_⟩:=h.sl rfl
 rcases hc with ⟨e,_⟩ | ⟨g,cap,cur,e,_⟩
 ·cases e
 ·cases e;rfl
theorem chk_inv {st:St} (h:je.chk st=true):Ql.look st.slots 2=some (.one (.aptr 2000700 0))∧Ql.look st.slots 3=some (.one (.ref 1000800 0)) ∧
 (∃xs,Ql.look st.objs 2000700=some (.arr 0 false 71 numT xs)) ∧ ∃f0 f1,Ql.look st.objs 1000800=some (.box [.val (.int .i64) f0,.val (.int .i64) f1]):=by
 unfold je.chk at h
 split at h
 ·rename_i h1 h2 h3 h4
  exact ⟨h1,h2,⟨_,h3⟩,_,_,h4⟩
 ·cases h
theorem kM.ok:CalleeOk Tryz.prog 58 kM.ce:=by
 refine ⟨⟨Tryz.f58,Tryz.func58,by kernel_rfl,by kernel_rfl⟩,fun w Z vs s r hg hZ ha hr=>?_⟩
 obtain ⟨v,rfl,hv⟩:=ha
 change [v]=[Value.string ⟨List.toArray s⟩] at hv
 obtain rfl:=List.cons.inj hv |>.1
 have hr:kM s=some r:=hr
 unfold kM at hr
 obtain ⟨y,hy,hr⟩:=js hr
 refine calls_of_wp_defers Tryz.func58 body_eq ?_
 apply wp_seq
 have hrel:Rel 73 w ⟨Z,fun _=>False,fun _=>undef,[],true⟩ ⟨[(0,.one (.val .str s))],[]⟩ { tmps:=[Value.string ⟨List.toArray s⟩].toArray++Array.replicate (Tryz.f58.ntmps-[Value.string ⟨List.toArray s⟩].toArray.size) undef,defers:=[] } w (fun _=>undef):=by
  refine ⟨⟨[],rfl,Marks.nil _ _ _⟩,by simp,fun t d hl=>?_,fun id ob hl=>by simp [Ql.look] at hl,fun id ob b hl=>by simp [Ql.look] at hl,fun id id' ob ob' b hl=>by simp [Ql.look] at hl,SameBut.refl _ w,fun id ob _ hl=>by simp [Ql.look] at hl,⟨hg,fun b hb=>hb.elim⟩,fun _=>rfl⟩
  have hl:=kQ hl
  simp only [List.mem_cons,Prod.mk.injEq,List.not_mem_nil,or_false] at hl
  obtain ⟨rfl,rfl⟩:=hl
  exact ⟨.string ⟨List.toArray s⟩,by simp,rfl⟩
 refine wpIn_wide.1 (VK VI parse_all mixed r0 r0_draws (by rw [r0_pieces];intro p hp;cases hp) none (.inr (by kernel_rfl)) hrel (r0_eq s) ?_)
 intro e st1 a1 w1 nm1 h1 hk1 _
 cases hk1
 show Code.wp Tryz.prog _ _ a1 w1
 apply wp_seq
 obtain ⟨v0,t0,d0⟩:=h1.slots 0 _ rfl
 obtain ⟨v2,t2,d2⟩:=h1.slots 2 _ rfl
 obtain ⟨v3,t3,d3⟩:=h1.slots 3 _ rfl
 have d0:[v0]=[Value.string ⟨List.toArray s⟩]:=d0
 obtain rfl:=(List.cons.inj d0).1
 obtain ⟨b2,_,_,n2,rfl⟩:=d2.2 _ _ _ _ rfl
 obtain ⟨b3,n3,rfl⟩:=d3.2 _ rfl
 obtain ⟨b2',c2,n2'⟩:=row_one (h1.objs 2 _ rfl) (by simp)
 have hn2:=n2.symm.trans n2'
 obtain ⟨rfl,-,-⟩:b2=b2'∧True∧True:=by cases hn2;exact ⟨rfl,trivial,trivial⟩
 refine r1_wp h1.size t2 t3 (h1.calm rfl) ?_
 have q1:=h1.renum (objs:=[(1000800,.box [.val (.int .i64) 0,.val (.int .i64) 0]),(2000700,.arr 0 false 71 numT [zeroN])]) (nm':=fun i=>nm1 (oldN i)) (old:=oldN) (by
  intro i j hij hi hj
  obtain ⟨o,ho⟩:=Option.isSome_iff_exists.1 hi
  obtain ⟨o',ho'⟩:=Option.isSome_iff_exists.1 hj
  rcases Hy ho with ⟨rfl,_⟩ | ⟨rfl,_⟩<;>rcases Hy ho' with ⟨rfl,_⟩ | ⟨rfl,_⟩<;>first | rfl | (exact absurd hij (by decide))) (by
  intro id ob hl
  rcases Hy hl with ⟨rfl,rfl⟩ | ⟨rfl,rfl⟩
  ·exact ⟨rfl,ints_cells,rfl⟩
  ·exact ⟨rfl,trivial,rfl⟩)
 have m2:(fun i=>nm1 (oldN i)) 2000700=.slice (some ⟨b2,0,none⟩) 1 c2:=n2'
 have m3:(fun i=>nm1 (oldN i)) 1000800=.pointer (some ⟨b3,0,none⟩):=n3
 have q2:=q1.frame (cm:=true) (n':=73) (a':=⟨a1.tmps.setIfInBounds 14 (.func (.func 86) #[] #[.pointer (some ⟨b2,0,none⟩),.pointer (some ⟨b3,0,none⟩)]),[dfd ⟨b2,0,none⟩ ⟨b3,0,none⟩]⟩) (df:=[dfd ⟨b2,0,none⟩ ⟨b3,0,none⟩]) rfl (by rw [Array.size_setIfInBounds];exact h1.size)
  (frame_slots (s:=s) (by simpa using t0) (by simpa using t2) (by simpa using t3) m2 m3)
 have key:execK je.G (Ji (segF Tryz.f58)) _ (je.pre.inj (s,(0:Int),(0:Int),[zeroN],())) (Ho je.G (segF Tryz.f58).results.toList [numT,fauT] 130 (.st fauT) je.chk)=some y:=(je.ok.eq (s,(0:Int),(0:Int),[zeroN],())).trans hy
 refine wpIn_wide.1 (VK VI parse_all mixed (Ji (segF Tryz.f58)) je.ok.draws je.ok.ps none (.inr (by kernel_rfl)) (st:=je.pre.inj (s,(0:Int),(0:Int),[zeroN],())) q2 key ?_)
 intro e st a w2 nm h hk _
 unfold Ho at hk
 cases hlt:Nat.blt e 2 with
 | true=>
   rw [hlt] at hk
   simp only [cond_true] at hk
   have fin:Leaves Tryz.prog Tryz.f58 a.tmps (fun e w'=>∃v,e=.returned v∧Same w w'∧rdRes w' (VN w w' Z) [numT,fauT] r v) a.defers .returning w2:=by
    rw [h.calm rfl]
    refine leaves_cons (by simp) (ins_args _ _ _) ?_
    refine (catch_idle _ _ w2).mono ?_
    rintro e u' w3 ⟨rfl,rfl,hs⟩
    obtain ⟨x',v,hx,hv,hsm,hrd⟩:=res_fin (G:=je.G) (fn:=Tryz.f58) (rs:=[numT,fauT]) (ρ:=dens [numT,fauT]⊕(Ty.st fauT).den) (f:=Sum.inl) VI (h.grow hs) hk
    subst hx
    cases hr
    exact ⟨v,hv,v,rfl,hsm,hrd⟩
   match e,hlt with
   | 0,_=>exact fin
   | 1,_=>exact fin
   | n+2,h=>rw [Nat.blt_eq] at h;omega
 | false=>
   rw [hlt] at hk
   simp only [cond_false] at hk
   cases hp:Nat.beq e pEx&&je.chk st with
   | false=>rw [hp] at hk;cases hk
   | true=>
     rw [hp] at hk
     simp only [cond_true] at hk
     rw [Bool.and_eq_true] at hp
     obtain ⟨hpe,hch⟩:=hp
     have:=beqN.1 hpe
     subst this
     split at hk
     ·rename_i s' d' ho
      split at hk
      ·rename_i hs'
       subst hs'
       cases hk
       obtain ⟨vx,vy,g1,g2,g3⟩:=h.objs payId _ ho
       have e1:vx=#[]:=by
        have:=g2.1
        simp at this
        exact this
       obtain ⟨v,e2⟩:∃v,vy=#[v]:=by
        have:=g3.1
        match hv:vy.toList,this with
        | [v],_=>exact ⟨v,by rw [←Array.toArray_toList (xs:=vy),hv]⟩
       subst e1;subst e2
       have hv:=g3.2 0 _ _ rfl rfl
       obtain ⟨u,us,eu,hu,hc⟩:=hv
       have eu:=(List.cons.inj eu).1
       obtain rfl:v=.iface 130 u:=eu
       have hu:u=.agg us:=by
        rcases hu with ⟨_,e⟩ | ⟨hu,_⟩
        ·exact e
        ·cases hu
       subst hu
       obtain ⟨c1,c3,ec,ec1,ec3⟩:=hc
       have ec1:c1=[.int .i64 d'.1]:=ec1
       have ec3:c3=[.int .i64 d'.2]:=ec3
       have eus:us=#[.int .i64 d'.1,.int .i64 d'.2]:=by rw [←Array.toArray_toList (xs:=us),ec,ec1,ec3];rfl
       subst eus
       obtain ⟨s2,s3,⟨xs,o2⟩,f0,f1,o3⟩:=chk_inv hch
       have k2:nm 2000700=_:=h.given 2000700 _ (by decide) o2 ⟨by decide,rfl⟩
       have k3:nm 1000800=_:=h.given 1000800 _ (by decide) o3 trivial
       have k2:=k2.trans m2
       have k3:=k3.trans m3
       have hxs:=h.objs 2000700 _ o2
       have hxs:rdArr w2 _ (nm 2000700) 71 numT xs:=hxs
       rw [k2] at hxs
       obtain ⟨x,rfl⟩:=List.length_eq_one_iff.1 (row_len hxs)
       obtain ⟨u2,t2',d2'⟩:=h.slots 2 _ s2
       obtain ⟨u3,t3',d3'⟩:=h.slots 3 _ s3
       obtain ⟨b4,_,_,j2,rfl⟩:=d2'.2 _ _ _ _ o2
       obtain ⟨b5,j3,rfl⟩:=d3'.2 _ o3
       rw [k2] at j2
       rw [k3] at j3
       cases j2
       cases j3
       show qEx _ nm pBad a w2
       unfold qEx
       rw [if_pos rfl]
       refine ⟨_,g1,?_⟩
       show Leaves Tryz.prog Tryz.f58 a.tmps _ a.defers (.panicking [_]) w2
       rw [h.calm rfl]
       refine leaves_cons (by simp) (ins_args _ _ _) ?_
       refine (catch_thrown h o2 o3 k2 k3 d'.1 d'.2 [] (a2:=a) h.size t2' t3').mono ?_
       rintro e u' w3 ⟨rfl,rfl,v',hv',hs,hr'⟩
       cases hr
       exact ⟨v',hv',v',rfl,hs,hr'⟩
      ·cases hk
     ·cases hk
end W
end

section
set_option maxHeartbeats 4000000
set_option maxRecDepth 100000
namespace W
open Go Go.Ql Go.Proofs Go.IntKind
noncomputable section
variable {ρ:Type}
abbrev ss0:SD:=.one (.val (.sl .str))
abbrev ss1:SD:=.one (.aptr 2 0)
abbrev ss2:SD:=.one (.val .bool)
abbrev ss3:SD:=.one (.aptr 4 0)
abbrev ss4:SD:=.one (.val (.int .i64))
abbrev ss5:SO:=.arr 0 false 71 (.st (.pair (.ar 8 (.st (.pair .bool (.sl (.int .u32))))) (.int .i64)))
def JR.ca_ (t9:List (List UInt8))(t10:Int)(t11:Int)(t2:List YN)(sum:List YN)(Z:((Int)×(List YN))⊕(((Int)×(List YN)×(List YN))⊕((Int)×(List YN)))→Option ρ):Option ρ:=
  br (decide (t11<t10))
   (bnd (idx t9 t11) fun y=>
    bnd (kM y) fun y1=>
    br (y1.2.1 !=0)
     (bnd (idx sum (0:Int)) fun y2=>
      bnd (idx t2 (0:Int)) fun y3=>
      Z (.inr (.inl (t11,(List.set t2 (0:Nat) y2),sum))))
     (bnd (idx sum (0:Int)) fun y4=>
      bnd (jz y4 y1.1) fun y5=>
      bnd (idx sum (0:Int)) fun y6=>
      Z (.inl ((i64.wrap (t11+1)),(List.set sum (0:Nat) y5)))))
   (Z (.inr (.inr (t11,sum))))
def JR.ca_s:Shape:=⟨[(0,ss0),(2,ss1),(3,ss2),(4,ss3),(9,ss0),(10,ss4),(11,ss4)],[(2,ss5),(4,ss5)]⟩
def JR.ca_r:LC:=⟨JR.ca_s,[(JR.ca_s,1,[1,400,301,2,203]),(JR.ca_s,2,[4,201,1,201])],fun X=>(false,()),[4,6],[2,3,4,5,6],@JR.ca_,fun _ _ _ _ _ _ _=>jf (ja fun _=>(ja fun _=>(jf (ja fun _=>(ja fun _=>jb)) (ja fun _=>(ja fun _=>(ja fun _=>jb)))))) jb⟩
def JR (texts:List (List UInt8)):Option (YN×Bool):=
  bnd (iter (fun s↦JR.ca_ texts (texts.length:Int) s.1 [(List.replicate (8:Nat) (false,[]),(0:Int))] s.2 some) ((0:Int),[(List.replicate (8:Nat) (false,[]),(0:Int))])) fun y=>
  sel y
   (fun u=>bnd (idx u.2.1 (0:Int)) fun y1=>
    some (y1,false))
   (fun v=>bnd (idx v.2 (0:Int)) fun y2=>
    some (y2,true))
def JR.ce:=ceOf tab Tryz.f25 JR
def JR.G:EB Tryz.prog:=⟨tb,Tryz.f25,[⟨58,kM.ce,kM.ok⟩,⟨59,jz.ce,jz.ok⟩],[0,2,3,4,6,7,8,9,10,11,12,22],[2,4,7],[],[(100003,JR.ca_r.ck)],[],[]⟩
theorem JR.ok:CalleeOk Tryz.prog 25 JR.ce:=fnB JR.G Tryz.func25 (m:=1) ⟨trivial,kL JR.ca_r (by kernel_rfl)⟩ (by kernel_rfl)
abbrev ss6:SD:=.one (.val (.st (.pair (.int .i64) (.pair (.int .i64) (.sl (.st (.pair (.int .i64) (.pair (.int .i64) (.pair (.sl (.int .i64)) (.pair (.int .i64) (.pair (.int .i64) (.sl (.int .i64)))))))))))))
abbrev ss7:SD:=.one (.ref 2 0)
abbrev ss8:SD:=.one (.val (.sl (.st (.pair (.sl (.int .i64)) (.pair (.sl (.int .i64)) .str)))))
abbrev ss9:SD:=.one (.ref 6 0)
abbrev ss10:SD:=.one (.own 7 0)
abbrev ss11:SD:=.one (.ref 9 0)
abbrev ss12:SD:=.one (.val .str)
abbrev ss13:SD:=.one (.ref 11 0)
abbrev ss14:SD:=.one (.ref 12 0)
abbrev ss15:SD:=.one (.ref 13 0)
abbrev ss16:SO:=.box [.val (.int .i64),.val (.int .i64),.val (.sl (.st (.pair (.int .i64) (.pair (.int .i64) (.pair (.sl (.int .i64)) (.pair (.int .i64) (.pair (.int .i64) (.sl (.int .i64)))))))))]
abbrev ss17:SO:=.box [.val (.int .i64),.val (.int .i64)]
abbrev ss18:SO:=.arr 0 false 9 .str
abbrev ss19:SO:=.box [.val (.sl (.int .i64)),.val (.sl (.int .i64)),.val .str]
abbrev ss20:SO:=.box [.val (.sl .str),.val (.sl (.int .i64)),.val (.int .i64)]
abbrev ss21:SD:=.one (.aptr 16 0)
def jr.c13 (chance:List UInt8)(b0:List (Int))(b1:List (Int))(b2:List UInt8)(f0_1:Int)(s1:List (Int))(s2:Int)(g0:Int)(Z:Bool→Option ρ):Option ρ:=
  br (f0_1 !=0)
   (Z true)
   (br (g0 !=0)
     (Z true)
     (br (!chance==b2)
       (Z true)
       (br (s2 !=(b0.length:Int))
         (Z true)
         (bnd (jZ s1 b1) fun y=>
          Z (!y)))))
def jr.c13s:Shape:=⟨[(0,ss6),(1,ss4),(2,ss7),(4,ss2),(5,ss8),(6,ss9),(7,ss10),(9,ss11),(10,ss12),(11,ss13),(12,ss14),(13,ss15),(32,ss8),(33,ss4),(34,ss4)],[(2,ss16),(6,ss17),(7,ss18),(9,ss19),(11,ss17),(12,ss20),(13,ss17)]⟩
def jr.c13x0:Shape:=(jr.c13s.s 88 ss2)
def jr.c13r:RC:=⟨jr.c13s,[(jr.c13x0,0,[8,101])],no,[4,14,15,16,17,20,21,22],@jr.c13,fun _ _ _ _ _ _ _ _ _ _=>jf jb (jf jb (jf jb (jf jb (ja fun _=>jb))))⟩
def jr.cf_ (t1:Int)(t32:List ((List Int)×((List Int)×(List UInt8))))(t33:Int)(t34:Int)(c0:Int)(c1:Int)(c2:List YO)(all:List (List UInt8))(Z:((Int)×(List (List UInt8)))⊕(((Int)×(List (List UInt8)))⊕((Int)×(List (List UInt8))))→Option ρ):Option ρ:=
  br (decide (t34<t33))
   (bnd (idx t32 t34) fun y=>
    bnd (okIf (decide ((all.length+1)*16≤140737488355328)&&decide (all.length+1≤140737488355328))) fun y1=>
    bnd (jG (c0,c1,c2) t1 y.1) fun y2=>
    bnd (jv (c0,c1,c2) t1 y.1) fun y3=>
    bnd (jr.c13 y2.1 y.1 y.2.1 y.2.2 y2.2.1 y3.1.2.1 y3.1.2.2 y3.2.1 some) fun y4=>
    br y4
     (Z (.inr (.inl (t34,(all++[Prod.snd (y.2)])))))
     (Z (.inl ((i64.wrap (t34+1)),(all++[Prod.snd (y.2)])))))
   (Z (.inr (.inr (t34,all))))
def jr.cf_s:Shape:=(((((((((jr.c13s.d 9).d 10).d 11).d 12).d 13).g 9).g 11).g 12).g 13)
def jr.cf_r:LC:=⟨jr.cf_s,[(jr.cf_s,1,[2,400,301,3,201,5,201]),(jr.cf_s,2,[6,201,5,201])],fun X=>(false,()),[6,12],[1,4,5,6,7,8,9,12],@jr.cf_,fun _ _ _ _ _ _ _ _ _ _=>jf (ja fun _=>(ja fun _=>(ja fun _=>(ja fun _=>(ja fun _=>(jf jb jb)))))) jb⟩
def jr.cx_ (t91:Int)(t92:Int)(all:List (List UInt8))(Z:(Int)⊕((Int)⊕(Int))→Option ρ):Option ρ:=
  br (decide (t92<t91))
   (bnd (inR (all.length) t92) fun y=>
    bnd (idx all t92) fun y1=>
    bnd (jF y1) fun y2=>
    br y2
     (Z (.inr (.inl t92)))
     (Z (.inl (i64.wrap (t92+1)))))
   (Z (.inr (.inr t92)))
def jr.cx_s:Shape:=(((jr.cf_s.s 90 ss10).s 91 ss4).s 92 ss4)
def jr.cx_r:LC:=⟨jr.cx_s,[(jr.cx_s,1,[2,400,301,5,201]),(jr.cx_s,4,[8,201])],fun X=>(true,()),[8],[7,8,14],@jr.cx_,fun _ _ _ _ _=>jf (ja fun _=>(ja fun _=>(ja fun _=>(jf jb jb)))) jb⟩
def jr.c23 (ok:Bool)(sum:List YN)(Z:Bool→Option ρ):Option ρ:=
  br ok
   (bnd (idx sum (0:Int)) fun y=>
    bnd (jq y) fun y1=>
    Z (y1==Array.toList (ByteArray.data (ByteArray.mk #[49]))))
   (Z false)
def jr.c23s:Shape:=((((((jr.cx_s.s 7 ss0).s 16 ss21).s 17 ss2).s 90 ss0).g 7).o 16 ss5)
def jr.c23r:RC:=⟨jr.c23s,[(jr.c23s,0,[2,201])],no,[5,17],@jr.c23,fun _ _ _ _=>jf (ja fun _=>(ja fun _=>jb)) jb⟩
def jr (c:(Int)×((Int)×(List YO))) (t1:Int):Option Bool:=
  bnd (jy (c.1,c.2.1,c.2.2) t1) fun y=>
  bnd Js fun y1=>
  br (!y1)
   (some false)
   (br (y.2.1 !=0)
     (some ((↑(List.length y.1):Int)==0))
     (bnd (iter (fun s↦jr.cf_ t1 y.1 (↑(List.length y.1):Int) s.1 c.1 c.2.1 c.2.2 s.2 some) ((0:Int),[])) fun y2=>
      sel y2
       (fun u=>some false)
       (fun v=>bnd (iter (fun s↦jr.cx_ (↑(List.length v.2):Int) s v.2 some) (0:Int)) fun y3=>
        sel y3
         (fun u_1=>some true)
         (fun v_1=>bnd (JR v.2) fun y4=>
          bnd (jr.c23 y4.2 [y4.1] some) fun y5=>
          some y5))))
def jr.ce:=ceOf tab Tryz.f6 jr
def jr.G:EB Tryz.prog:=⟨tb,Tryz.f6,[⟨18,jy.ce,jy.ok⟩,⟨10,Js.ce,Js.ok⟩,⟨14,jG.ce,jG.ok⟩,⟨8,jv.ce,jv.ok⟩,⟨13,jZ.ce,jZ.ok⟩,⟨24,jF.ce,jF.ok⟩,⟨25,JR.ce,JR.ok⟩,⟨26,jq.ce,jq.ok⟩],[0,1,2,4,5,6,7,9,10,11,12,13,15,16,17,25,28,32,33,34,35,88,90,91,92,93,97],[7,16],[],[(23,jr.c23r.ck),(100017,jr.cx_r.ck),(100008,jr.cf_r.ck),(13,jr.c13r.ck)],[],[]⟩
theorem jr.ok:CalleeOk Tryz.prog 6 jr.ce:=fnB jr.G Tryz.func6 (m:=4) ⟨⟨⟨⟨trivial,kL jr.cf_r (by kernel_rfl)⟩,kR jr.c13r (by kernel_rfl)⟩,kL jr.cx_r (by kernel_rfl)⟩,kR jr.c23r (by kernel_rfl)⟩ (by kernel_rfl)
end
end W
end
