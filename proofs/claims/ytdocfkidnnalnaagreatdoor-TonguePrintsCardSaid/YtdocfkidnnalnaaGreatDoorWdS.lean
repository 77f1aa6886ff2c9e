/- Lifted functions, part 4: each with its contract; a function that recovers; the laws. -/
import Derived.Test.YtdocfkidnnalnaaGreatDoorWcS
import Derived.Test.YtdocfkidnnalnaaGreatDoorLfS
import Derived.Test.YtdocfkidnnalnaaGreatDoorProg
import Derived.Test.YtdocfkidnnalnaaGreatDoorCaS
import Derived.Test.YtdocfkidnnalnaaGreatDoorWbS
import Derived.WalkKit
import Derived.Recover
set_option linter.all false
section
set_option maxHeartbeats 4000000
set_option maxRecDepth 100000
namespace W
open Go Go.Ql Go.Proofs Go.IntKind
noncomputable section
variable {ρ:Type}
abbrev ti5:SD:=.one (.val (.sl (.int .u8)))
def JW.cj_ (text:Za)(a0:Bool)(Z:Za→Option ρ):Option ρ:= br a0 (Z (Z9 [45])) (Z text)
def JW.cj_s:Sj:=⟨[(0,AF),(1,tg45),(2,cL),(3,cL)],[(1,lS)]⟩
def JW.cj_r:RC:=⟨JW.cj_s,[(JW.cj_s,0,[2,201])],no,[2,3],@JW.cj_,fun _ _ _ _=>jt ja ja⟩
def JW.c9 (i:Int)(a1:Zg)(Z:Zg→Option ρ):Option ρ:= jc (idx a1 i) fun y=>jc (idx a1 i) fun y1=>jc (idx a1 i) fun y2=>jc (idx a1 i) fun y3=>Z ([u8.wrap (i64.wrap ((48:Int)+i64.wrap (Int.tdiv y (1000:Int)))),u8.wrap (i64.wrap ((48:Int)+Int.tmod (i64.wrap (Int.tdiv y1 (100:Int))) (10:Int))),u8.wrap (i64.wrap ((48:Int)+Int.tmod (i64.wrap (Int.tdiv y2 (10:Int))) (10:Int))),u8.wrap (i64.wrap ((48:Int)+Int.tmod y3 (10:Int)))])
def JW.c9s:Sj:=(JW.cj_s.s 4 iI)
def JW.c9x0:Sj:=(JW.c9s.s 5 ti5)
def JW.c9r:RC:=⟨JW.c9s,[(JW.c9x0,0,[4,101])],no,[3,5],@JW.c9,fun _ _ _ _=>jb fun _=>(jb fun _=>(jb fun _=>(jb fun _=>ja)))⟩
def JW.c11 (i:Int)(UZ:Zg)(t6:Int)(a1:Zg)(Z:Bool→Option ρ):Option ρ:= br (i==i64.wrap ((a1.length:Int)-1)) (br (decide (t6<3)) (jc (idx UZ t6) fun y=>Z (y==48)) (Z false)) (Z false)
def JW.c11s:Sj:=(JW.c9x0.s 6 iI)
def JW.c11r:RC:=⟨JW.c11s,[((JW.c11s.s 72 Nj),0,[6,101])],no,[3,4,5,7],@JW.c11,fun _ _ _ _ _ _=>jt (jt (jb fun _=>ja) ja) ja⟩
def JW.ci_ (i:Int)(UZ:Zg)(t6:Int)(a1:Zg)(Z:Int⊕Int→Option ρ):Option ρ:= jc (JW.c11 i UZ t6 a1 some) fun y=>br y (Z (.inl (i64.wrap (t6+1)))) (Z (.inr t6))
def JW.ci_r:LC:=⟨JW.c11s,[(JW.c11s,4,[5,201])],no,[5],[3,4,5,7],@JW.ci_,fun _ _ _ _ _ _=>jb fun _=>(jt ja ja)⟩
def JW.cg_ (text:Za)(i:Int)(a1:Zg)(Z:(Za×Int)⊕(Za×Int)→Option ρ):Option ρ:= br (decide (i≥0)) (jc (JW.c9 i a1 some) fun y=>jc (iter (fun s↦JW.ci_ i y s a1 some) (0:Int)) fun y1=>jc (Je (decide ((0:Int)≤y1)&&decide (y1≤(y.length:Int))&&decide ((y.length:Int)≤(y.length:Int)))) fun y2=>jc (Je (decide (text.length+List.length (List.map (fun n↦UInt8.ofNat (Int.toNat n)) (List.drop (Int.toNat y1) (List.take (Int.toNat (y.length:Int)) y)))≤9223372036854775807))) fun y3=>Z (.inl ((text++List.map (fun n↦UInt8.ofNat (Int.toNat n)) (List.drop (Int.toNat y1) (List.take (Int.toNat (y.length:Int)) y))),(i64.wrap (i-1))))) (Z (.inr (text,i)))
def JW.cg_r:LC:=⟨JW.c9s,[(JW.c9s,2,[2,202])],no,[2,3],[2,3,5],@JW.cg_,fun _ _ _ _ _=>jt (jb fun _=>(jb fun _=>(jb fun _=>(jb fun _=>ja)))) ja⟩
def JW (a:Bool×Zg):Option Za:= br ((↑(List.length a.2):Int)==0) (some (Z9 [48])) (jc (JW.cj_ (Z9 []) a.1 some) fun y=>jc (iter (fun s↦JW.cg_ s.1 s.2 a.2 some) (y,i64.wrap ((↑(List.length a.2):Int)-1))) fun y1=>some y1.1)
def JW.ce:=Vt tab Tryz.f120 JW
def JW.G:EB Zh:=⟨tb,Tryz.f120,[],[0,1,2,3,4,5,6,10,12,18,72],[],[(9,[(34,[55])])],[(100007,JW.cg_r.ck),(100011,JW.ci_r.ck),(11,JW.c11r.ck),(9,JW.c9r.ck),(216389,JW.cj_r.ck)],[],[]⟩
def JW.ok:vj Zh 120 JW.ce:=Uj JW.G Tryz.func120 (m:=5) ⟨⟨⟨⟨⟨trivial,kJ JW.cj_r⟩,kL JW.cg_r⟩,kR JW.c9r⟩,kL JW.ci_r⟩,kR JW.c11r⟩
def aT (n:Int):Option Za:= jc (Vr n) fun y=>jc (JW y) fun y1=>some y1
def aT.ce:=Vt tab Tryz.f97 aT
def aT.G:EB Zh:=⟨tb,Tryz.f97,[⟨121,Vr.ce,Vr.ok⟩,⟨120,JW.ce,JW.ok⟩],[0,2],[],[],[],[],[]⟩
def aT.ok:vj Zh 97 aT.ce:=Uj aT.G Tryz.func97 (m:=0) trivial
def Uz (n:Zd):Option Int:= br (n.hQ.1==24) (jc (kA n.hQ.2.2.1) fun y=>some y) (br (n.hQ.1==23) (some (4:Int)) (some (6:Int)))
def Uz.ce:=Vt tab Tryz.f122 Uz
def Uz.G:EB Zh:=⟨tb,Tryz.f122,[⟨77,kA.ce,kA.ok⟩],[0,1,2,5,11],[],[],[],[],[]⟩
def Uz.ok:vj Zh 122 Uz.ce:=Uj Uz.G Tryz.func122 (m:=0) trivial
def jX.qj.pre:Sj:=⟨[(0,VM)],[]⟩
def jX.qj.post:Sj:=⟨[(0,cL)],[]⟩
def kl.qj.pre:Sj:=⟨[(0,VM),(1,iI)],[]⟩
def kl.qj.post:Sj:=⟨[(0,cL)],[]⟩
class VS.Self where
  F_R_exprText_b:jq jX.qj.pre.tys→Option (jq jX.qj.post.tys)
  ok_R_exprText_b:MOk Zh 45 ⟨45,jX.qj.pre,jX.qj.post,F_R_exprText_b⟩
  F_R_atLeast_b:jq kl.qj.pre.tys→Option (jq kl.qj.post.tys)
  ok_R_atLeast_b:MOk Zh 98 ⟨98,kl.qj.pre,kl.qj.post,F_R_atLeast_b⟩
section
variable [VS.Self]
def jX.qj (X:jq jX.qj.pre.tys):Option (jq jX.qj.post.tys):=VS.Self.F_R_exprText_b X
def jX.qj.mc:xj:=⟨45,jX.qj.pre,jX.qj.post,fun X=>jX.qj X⟩
def jX.qj.ok:MOk Zh 45 jX.qj.mc:=VS.Self.ok_R_exprText_b
def kl.qj (X:jq kl.qj.pre.tys):Option (jq kl.qj.post.tys):=VS.Self.F_R_atLeast_b X
def kl.qj.mc:xj:=⟨98,kl.qj.pre,kl.qj.post,fun X=>kl.qj X⟩
def kl.qj.ok:MOk Zh 98 kl.qj.mc:=VS.Self.ok_R_atLeast_b
def jX.c10 {ρ:Type} (n2:Za)(n4:Ze)(Z:Za→Option ρ):Option ρ:= jc (idx n4 (0:Int)) fun y=>jc (kl.qj (y,(2:Int),())) fun y1=>jc (Je (decide (List.length y1.1+List.length (Z9 [32])≤9223372036854775807))) fun y2=>jc (Je (decide (List.length (y1.1++Z9 [32])+n2.length≤9223372036854775807))) fun y3=>jc (Je (decide (List.length (y1.1++Z9 [32]++n2)+List.length (Z9 [32])≤9223372036854775807))) fun y4=>jc (idx n4 (1:Int)) fun y5=>jc (kl.qj (y5,(2:Int),())) fun y6=>jc (Je (decide (List.length (y1.1++Z9 [32]++n2++Z9 [32])+List.length y6.1≤9223372036854775807))) fun y7=>Z (y1.1++Z9 [32]++n2++Z9 [32]++y6.1)
def jX.c10s:Sj:=⟨[(0,VM),(1,tg45),(2,cL),(3,iI)],[(1,VQ)]⟩
def jX.c10r:RC:=⟨jX.c10s,[(jX.c10s,0,[1,201])],no,[5,7],fun _=>jX.c10,fun _ _ _ _=>jb fun _=>(jb fun _=>(jb fun _=>(jb fun _=>(jb fun _=>(jb fun _=>(jb fun _=>(jb fun _=>ja)))))))⟩
def jX.c12 {ρ:Type} (n4:Ze)(Z:Za→Option ρ):Option ρ:= jc (idx n4 (0:Int)) fun y=>jc (kl.qj (y,(6:Int),())) fun y1=>jc (Je (decide (List.length y1.1+List.length (Z9 [32,42,42,32])≤9223372036854775807))) fun y2=>jc (idx n4 (1:Int)) fun y3=>jc (kl.qj (y3,(4:Int),())) fun y4=>jc (Je (decide (List.length (y1.1++Z9 [32,42,42,32])+List.length y4.1≤9223372036854775807))) fun y5=>Z (y1.1++Z9 [32,42,42,32]++y4.1)
def jX.c12r:RC:=⟨jX.c10s,[(jX.c10s,0,[1,201])],no,[7],fun _=>jX.c12,fun _ _ _=>jb fun _=>(jb fun _=>(jb fun _=>(jb fun _=>(jb fun _=>(jb fun _=>ja)))))⟩
def jX.c13 {ρ:Type} (b:Int)(n2:Za)(n4:Ze)(Z:Za→Option ρ):Option ρ:= jc (idx n4 (0:Int)) fun y=>jc (kl.qj (y,b,())) fun y1=>jc (Je (decide (List.length y1.1+List.length (Z9 [32])≤9223372036854775807))) fun y2=>jc (Je (decide (List.length (y1.1++Z9 [32])+n2.length≤9223372036854775807))) fun y3=>jc (Je (decide (List.length (y1.1++Z9 [32]++n2)+List.length (Z9 [32])≤9223372036854775807))) fun y4=>jc (idx n4 (1:Int)) fun y5=>jc (kl.qj (y5,i64.wrap (b+1),())) fun y6=>jc (Je (decide (List.length (y1.1++Z9 [32]++n2++Z9 [32])+List.length y6.1≤9223372036854775807))) fun y7=>Z (y1.1++Z9 [32]++n2++Z9 [32]++y6.1)
def jX.c13r:RC:=⟨jX.c10s,[(jX.c10s,0,[1,201])],no,[2,5,7],fun _=>jX.c13,fun _ _ _ _ _=>jb fun _=>(jb fun _=>(jb fun _=>(jb fun _=>(jb fun _=>(jb fun _=>(jb fun _=>(jb fun _=>ja)))))))⟩
def jX (n:Zd):Option (Za×Unit):= br (n.hQ.1==20) (jc (aT n.hQ.2.2.2) fun y=>some (y,())) (br (n.hQ.1==22) (jc (Je (decide (List.length (Z9 [115,105,122,101,40])+List.length n.hQ.2.2.1≤9223372036854775807))) fun y1=>jc (Je (decide (List.length (Z9 [115,105,122,101,40]++n.hQ.2.2.1)+List.length (Z9 [41])≤9223372036854775807))) fun y2=>some (Z9 [115,105,122,101,40]++n.hQ.2.2.1++Z9 [41],())) (br (n.hQ.1==23) (jc (idx n.kQ (0:Int)) fun y3=>jc (kl.qj (y3,(4:Int),())) fun y4=>jc (Je (decide (List.length (Z9 [45])+List.length y4.1≤9223372036854775807))) fun y5=>some (Z9 [45]++y4.1,())) (br (n.hQ.1==24) (jc (kA n.hQ.2.2.1) fun y6=>br (y6==1) (jc (jX.c10 n.hQ.2.2.1 n.kQ some) fun y7=>some (y7,())) (br (y6==5) (jc (jX.c12 n.kQ some) fun y8=>some (y8,())) (jc (jX.c13 y6 n.hQ.2.2.1 n.kQ some) fun y9=>some (y9,())))) (some (n.hQ.2.2.1,())))))
def jX.mc:xj:=⟨45,⟨[(0,VM)],[]⟩,⟨[(0,cL)],[]⟩,fun X=>jX X.1⟩
def jX.G:EB Zh:=⟨tb,Tryz.f45,[⟨97,aT.ce,aT.ok⟩,⟨77,kA.ce,kA.ok⟩],[0,1,2,3,6,12,19,28,33,51],[],[(13,[]),(12,[]),(10,[])],[(13,jX.c13r.ck),(12,jX.c12r.ck),(10,jX.c10r.ck)],[⟨98,kl.qj.mc,kl.qj.ok⟩],[]⟩
def jX.ok:MOk Zh 45 jX.mc:=Ub jX.G (mc:=jX.mc) Tryz.func45 (m:=3) ⟨⟨⟨trivial,kR jX.c10r⟩,kR jX.c12r⟩,kR jX.c13r⟩
def kl (n:Zd) (level:Int):Option (Za×Unit):= jc (Uz (Rose.mk (n.hQ.1,n.hQ.2.1,n.hQ.2.2.1,n.hQ.2.2.2) n.kQ)) fun y=>br (decide (y<level)) (jc (jX.qj (Rose.mk (n.hQ.1,n.hQ.2.1,n.hQ.2.2.1,n.hQ.2.2.2) n.kQ,())) fun y1=>jc (Je (decide (List.length (Z9 [40])+List.length y1.1≤9223372036854775807))) fun y2=>jc (Je (decide (List.length (Z9 [40]++y1.1)+List.length (Z9 [41])≤9223372036854775807))) fun y3=>some (Z9 [40]++y1.1++Z9 [41],())) (jc (jX.qj (Rose.mk (n.hQ.1,n.hQ.2.1,n.hQ.2.2.1,n.hQ.2.2.2) n.kQ,())) fun y4=>some (y4.1,()))
def kl.mc:xj:=⟨98,⟨[(0,VM),(1,iI)],[]⟩,⟨[(0,cL)],[]⟩,fun X=>kl X.1 X.2.1⟩
def kl.G:EB Zh:=⟨tb,Tryz.f98,[⟨122,Uz.ce,Uz.ok⟩],[0,1,2,4,8],[],[],[],[⟨45,jX.qj.mc,jX.qj.ok⟩],[]⟩
def kl.ok:MOk Zh 98 kl.mc:=Ub kl.G (mc:=kl.mc) Tryz.func98 (m:=0) trivial
end
@[reducible] def VS.fuel:Nat→VS.Self
  | 0=>{ F_R_exprText_b:=fun _=>none,ok_R_exprText_b:=⟨⟨Tryz.f45,Tryz.func45,by kernel_rfl,by kernel_rfl⟩,fun _ _ _ _ _ _ _ hy=>by cases hy⟩,F_R_atLeast_b:=fun _=>none,ok_R_atLeast_b:=⟨⟨Tryz.f98,Tryz.func98,by kernel_rfl,by kernel_rfl⟩,fun _ _ _ _ _ _ _ hy=>by cases hy⟩ }
  | n+1=>{ F_R_exprText_b:=fun X=>(@jX.mc (VS.fuel n)).F X,ok_R_exprText_b:=@jX.ok (VS.fuel n),F_R_atLeast_b:=fun X=>(@kl.mc (VS.fuel n)).F X,ok_R_atLeast_b:=@kl.ok (VS.fuel n) }
def YS (X:jq jX.qj.pre.tys):Option (jq jX.qj.post.tys):=(VS.fuel (1000000)).F_R_exprText_b X
def YS.mc:xj:=⟨45,jX.qj.pre,jX.qj.post,fun X=>YS X⟩
def YS.ok:MOk Zh 45 YS.mc:=(VS.fuel (1000000)).ok_R_exprText_b
def kG.ch_ (t:Za)(i:Int)(Z:Za→Option ρ):Option ρ:= br (decide (i>0)) (jc (Je (decide (t.length+List.length (Z9 [44,32])≤9223372036854775807))) fun y=>Z (t++Z9 [44,32])) (Z t)
def kG.ch_s:Sj:=⟨[(0,G5),(2,cL),(3,cL),(4,iI)],[]⟩
def kG.ch_r:RC:=⟨kG.ch_s,[((kG.ch_s.s 12 Nj),0,[2,201,1,400])],fun X=>((decide (X.2.2.2.1>0)),()),[2,3],@kG.ch_,fun _ _ _ _=>jt (jb fun _=>ja) ja⟩
def kG.cb_ (l:List Za)(t:Za)(i:Int)(Z:(Za×Int)⊕(Za×Int)→Option ρ):Option ρ:= br (decide (i<(l.length:Int))) (jc (kG.ch_ t i some) fun y=>jc (idx l i) fun y1=>jc (Je (decide (y.length+y1.length≤9223372036854775807))) fun y2=>Z (.inl ((y++y1),(i64.wrap (i+1))))) (Z (.inr (t,i)))
def kG.cb_r:LC:=⟨kG.ch_s,[(kG.ch_s,2,[2,202])],no,[2,3],[0,2,3],@kG.cb_,fun _ _ _ _ _=>jt (jb fun _=>(jb fun _=>(jb fun _=>ja))) ja⟩
def kG (l:List Za):Option Za:= jc (iter (fun s↦kG.cb_ l s.1 s.2 some) (Z9 [],(0:Int))) fun y=>some y.1
def kG.ce:=Vt tab Tryz.f99 kG
def kG.G:EB Zh:=⟨tb,Tryz.f99,[],[0,2,3,4,8,12],[1002204850012,2000000000012],[],[(100003,kG.cb_r.ck),(220485,kG.ch_r.ck)],[],[]⟩
def kG.ok:vj Zh 99 kG.ce:=Uj kG.G Tryz.func99 (m:=2) ⟨⟨trivial,kL kG.cb_r⟩,kJ kG.ch_r⟩
abbrev ti10:SD:=.one (.own 3 0)
abbrev D8:SO:=.arr 0 false 9 .str
def Jt.cb_ (i:Int)(n4:Ze)(ints:List Za)(Z:(Int×(List Za))⊕(Int×(List Za))→Option ρ):Option ρ:= jc (idx n4 (0:Int)) fun y=>br (decide (i<(↑(List.length y.kQ):Int))) (jc (idx n4 (0:Int)) fun y1=>jc (idx y1.kQ i) fun y2=>jc (Je (decide ((ints.length+1)*16≤140737488355328)&&decide (ints.length+1≤140737488355328))) fun y3=>Z (.inl ((i64.wrap (i+1)),(ints++[y2.hQ.2.2.1])))) (Z (.inr (i,ints)))
def Jt.cb_s:Sj:=⟨[(0,VM),(1,tg45),(2,cL),(3,ti10),(4,L0),(5,iI)],[(1,VQ),(3,D8),(4,D8)]⟩
def Jt.cb_r:LC:=⟨Jt.cb_s,[(Jt.cb_s,2,[2,201,5,201])],no,[2,8],[2,7,8],@Jt.cb_,fun _ _ _ _ _=>jb fun _=>(jt (jb fun _=>(jb fun _=>(jb fun _=>ja))) ja)⟩
def Jt.cE_ (i_1:Int)(w:Za)(n4:Ze)(Z:Za×Bool→Option ρ):Option ρ:= jc (idx n4 (1:Int)) fun y=>jc (idx y.kQ i_1) fun y1=>br (y1.hQ.2.2.2==1) (jc (Je (decide (w.length+List.length (Z9 [91,93])≤9223372036854775807))) fun y2=>Z ((w++Z9 [91,93]),(y1.hQ.2.2.2==1))) (Z (w,(y1.hQ.2.2.2==1)))
def Jt.cE_s:Sj:=((Jt.cb_s.s 6 iI).s 7 cL)
def Jt.cE_r:RC:=⟨Jt.cE_s,[((Jt.cE_s.s 59 Nj),0,[4,201,101])],no,[3,4,9],@Jt.cE_,fun _ _ _ _ _=>jb fun _=>(jb fun _=>(jt (jb fun _=>ja) ja))⟩
def Jt.cg_ (i_1:Int)(n4:Ze)(wires:List Za)(Z:(Int×(List Za))⊕(Int×(List Za))→Option ρ):Option ρ:= jc (idx n4 (1:Int)) fun y=>br (decide (i_1<(↑(List.length y.kQ):Int))) (jc (idx n4 (1:Int)) fun y1=>jc (idx y1.kQ i_1) fun y2=>jc (Jt.cE_ i_1 y2.hQ.2.2.1 n4 some) fun y3=>jc (Je (decide ((wires.length+1)*16≤140737488355328)&&decide (wires.length+1≤140737488355328))) fun y4=>Z (.inl ((i64.wrap (i_1+1)),(wires++[y3.1])))) (Z (.inr (i_1,wires)))
def Jt.cg_s:Sj:=(Jt.cE_s.d 7)
def Jt.cg_r:LC:=⟨Jt.cg_s,[(Jt.cg_s,4,[3,201,6,201])],no,[3,10],[3,8,10],@Jt.cg_,fun _ _ _ _ _=>jb fun _=>(jt (jb fun _=>(jb fun _=>(jb fun _=>(jb fun _=>ja)))) ja)⟩
def Jt.cs_ (t:Za)(ints:List Za)(Z:Za→Option ρ):Option ρ:= br (decide ((ints.length:Int)>0)) (jc (kG ints) fun y=>jc (Je (decide (List.length (Z9 [40])+y.length≤9223372036854775807))) fun y1=>jc (Je (decide (List.length (Z9 [40]++y)+List.length (Z9 [41])≤9223372036854775807))) fun y2=>jc (Je (decide (t.length+List.length (Z9 [40]++y++Z9 [41])≤9223372036854775807))) fun y3=>Z (t++(Z9 [40]++y++Z9 [41]))) (Z t)
def Jt.cs_s:Sj:=(Jt.cg_s.s 8 cL)
def Jt.cs_r:RC:=⟨Jt.cs_s,[(Jt.cs_s,0,[4,201])],no,[4,10],@Jt.cs_,fun _ _ _ _=>jt (jb fun _=>(jb fun _=>(jb fun _=>(jb fun _=>ja)))) ja⟩
def Jt (n:Zd):Option Za:= jc (iter (fun s↦Jt.cb_ s.1 n.kQ s.2 some) ((0:Int),[])) fun y=>jc (iter (fun s↦Jt.cg_ s.1 n.kQ s.2 some) ((0:Int),[])) fun y1=>jc (Je (decide (List.length (Z9 [103,97,116,101,32])+List.length n.hQ.2.2.1≤9223372036854775807))) fun y2=>jc (Jt.cs_ (Z9 [103,97,116,101,32]++n.hQ.2.2.1) y.2 some) fun y3=>jc (Je (decide (y3.length+List.length (Z9 [32])≤9223372036854775807))) fun y4=>jc (kG y1.2) fun y5=>jc (Je (decide (List.length (y3++Z9 [32])+y5.length≤9223372036854775807))) fun y6=>jc (Je (decide (List.length (y3++Z9 [32]++y5)+List.length (Z9 [32])≤9223372036854775807))) fun y7=>some (y3++Z9 [32]++y5++Z9 [32])
def Jt.ce:=Vt tab Tryz.f46 Jt
def Jt.G:EB Zh:=⟨tb,Tryz.f46,[⟨99,kG.ce,kG.ok⟩],[0,1,2,3,4,5,6,7,8,16,38,59,71],[3,4,1002409650059,2000000000059],[],[(257349,Jt.cs_r.ck),(100007,Jt.cg_r.ck),(240965,Jt.cE_r.ck),(100003,Jt.cb_r.ck)],[],[]⟩
def Jt.ok:vj Zh 46 Jt.ce:=Uj Jt.G Tryz.func46 (m:=4) ⟨⟨⟨⟨trivial,kL Jt.cb_r⟩,kL Jt.cg_r⟩,kJ Jt.cE_r⟩,kJ Jt.cs_r⟩
def kx.c4 (n2:Za)(n4:Ze)(Z:Za→Option ρ):Option ρ:= jc (Je (decide (n2.length+List.length (Z9 [91])≤9223372036854775807))) fun y=>jc (idx n4 (0:Int)) fun y1=>jc (YS (y1,())) fun y2=>jc (Je (decide (List.length (n2++Z9 [91])+List.length y2.1≤9223372036854775807))) fun y3=>jc (Je (decide (List.length (n2++Z9 [91]++y2.1)+List.length (Z9 [93])≤9223372036854775807))) fun y4=>Z (n2++Z9 [91]++y2.1++Z9 [93])
def kx.c4s:Sj:=⟨[(0,VM),(1,tg45),(2,cL)],[(1,VQ)]⟩
def kx.c4r:RC:=⟨kx.c4s,[(kx.c4s,0,[1,201])],no,[4,6],@kx.c4,fun _ _ _ _=>jb fun _=>(jb fun _=>(jb fun _=>(jb fun _=>(jb fun _=>ja))))⟩
def kx.c5 (n2:Za)(n4:Ze)(Z:Za→Option ρ):Option ρ:= jc (Je (decide (n2.length+List.length (Z9 [91])≤9223372036854775807))) fun y=>jc (idx n4 (0:Int)) fun y1=>jc (YS (y1,())) fun y2=>jc (Je (decide (List.length (n2++Z9 [91])+List.length y2.1≤9223372036854775807))) fun y3=>jc (Je (decide (List.length (n2++Z9 [91]++y2.1)+List.length (Z9 [32,46,46,32])≤9223372036854775807))) fun y4=>jc (idx n4 (1:Int)) fun y5=>jc (YS (y5,())) fun y6=>jc (Je (decide (List.length (n2++Z9 [91]++y2.1++Z9 [32,46,46,32])+List.length y6.1≤9223372036854775807))) fun y7=>jc (Je (decide (List.length (n2++Z9 [91]++y2.1++Z9 [32,46,46,32]++y6.1)+List.length (Z9 [93])≤9223372036854775807))) fun y8=>Z (n2++Z9 [91]++y2.1++Z9 [32,46,46,32]++y6.1++Z9 [93])
def kx.c5r:RC:=⟨kx.c4s,[(kx.c4s,0,[1,201])],no,[4,6],@kx.c5,fun _ _ _ _=>jb fun _=>(jb fun _=>(jb fun _=>(jb fun _=>(jb fun _=>(jb fun _=>(jb fun _=>(jb fun _=>(jb fun _=>ja))))))))⟩
def kx (n:Zd):Option Za:= br (n.hQ.2.2.2==0) (some n.hQ.2.2.1) (br (n.hQ.2.2.2==1) (jc (kx.c4 n.hQ.2.2.1 n.kQ some) fun y=>some y) (jc (kx.c5 n.hQ.2.2.1 n.kQ some) fun y1=>some y1))
def kx.ce:=Vt tab Tryz.f49 kx
def kx.G:EB Zh:=⟨tb,Tryz.f49,[],[0,1,2,5,10],[],[(5,[]),(4,[])],[(5,kx.c5r.ck),(4,kx.c4r.ck)],[⟨45,YS.mc,YS.ok⟩],[]⟩
def kx.ok:vj Zh 49 kx.ce:=Uj kx.G Tryz.func49 (m:=2) ⟨⟨trivial,kR kx.c4r⟩,kR kx.c5r⟩
abbrev ti15:SD:=.one (.own 7 0)
def jT.cz_ (t:Za)(i:Int)(n4:Ze)(Z:Za×Bool→Option ρ):Option ρ:= jc (idx n4 (0:Int)) fun y=>jc (idx y.kQ i) fun y1=>br (y1.hQ.1==9) (jc (Je (decide (t.length+List.length (Z9 [105,110,118,32,64,32])≤9223372036854775807))) fun y2=>Z ((t++Z9 [105,110,118,32,64,32]),(y1.hQ.1==9))) (br (y1.hQ.1==10) (jc (Je (decide (t.length+List.length (Z9 [99,116,114,108,32,64,32])≤9223372036854775807))) fun y3=>Z ((t++Z9 [99,116,114,108,32,64,32]),(y1.hQ.1==9))) (jc (idx y1.kQ (0:Int)) fun y4=>jc (YS (y4,())) fun y5=>jc (Je (decide (List.length (Z9 [112,111,119,40])+List.length y5.1≤9223372036854775807))) fun y6=>jc (Je (decide (List.length (Z9 [112,111,119,40]++y5.1)+List.length (Z9 [41,32,64,32])≤9223372036854775807))) fun y7=>jc (Je (decide (t.length+List.length (Z9 [112,111,119,40]++y5.1++Z9 [41,32,64,32])≤9223372036854775807))) fun y8=>Z ((t++(Z9 [112,111,119,40]++y5.1++Z9 [41,32,64,32])),(y1.hQ.1==9))))
def jT.cz_s:Sj:=⟨[(0,VM),(1,tg45),(2,cL),(3,cL),(4,iI)],[(1,VQ)]⟩
def jT.cz_r:RC:=⟨jT.cz_s,[(((jT.cz_s.s 5 uZ).s 30 Nj),0,[2,201,1,101])],no,[2,3,8],@jT.cz_,fun _ _ _ _ _=>jb fun _=>(jb fun _=>(jt (jb fun _=>ja) (jt (jb fun _=>ja) (jb fun _=>(jb fun _=>(jb fun _=>(jb fun _=>(jb fun _=>ja))))))))⟩
def jT.cb_ (t:Za)(i:Int)(n4:Ze)(Z:(Za×Int)⊕(Za×Int)→Option ρ):Option ρ:= jc (idx n4 (0:Int)) fun y=>br (decide (i<(↑(List.length y.kQ):Int))) (jc (jT.cz_ t i n4 some) fun y1=>Z (.inl (y1.1,(i64.wrap (i+1))))) (Z (.inr (t,i)))
def jT.cb_r:LC:=⟨jT.cz_s,[(jT.cz_s,2,[2,202])],no,[2,3],[2,3,8],@jT.cb_,fun _ _ _ _ _=>jb fun _=>(jt (jb fun _=>ja) ja)⟩
def jT.cl_ (i_1:Int)(n4:Ze)(args:List Za)(Z:(Int×(List Za))⊕(Int×(List Za))→Option ρ):Option ρ:= jc (idx n4 (1:Int)) fun y=>br (decide (i_1<(↑(List.length y.kQ):Int))) (jc (idx n4 (1:Int)) fun y1=>jc (idx y1.kQ i_1) fun y2=>jc (YS (y2,())) fun y3=>jc (Je (decide ((args.length+1)*16≤140737488355328)&&decide (args.length+1≤140737488355328))) fun y4=>Z (.inl ((i64.wrap (i_1+1)),(args++[y3.1])))) (Z (.inr (i_1,args)))
def jT.cl_s:Sj:=(((((jT.cz_s.s 6 th6).s 7 ti15).s 8 iI).o 6 D8).o 7 D8)
def jT.cl_r:LC:=⟨jT.cl_s,[(jT.cl_s,4,[4,201,5,201])],no,[4,10],[4,9,10],@jT.cl_,fun _ _ _ _ _=>jb fun _=>(jt (jb fun _=>(jb fun _=>(jb fun _=>(jb fun _=>ja)))) ja)⟩
def jT.cp_ (i_2:Int)(n4:Ze)(refs:List Za)(Z:(Int×(List Za))⊕(Int×(List Za))→Option ρ):Option ρ:= jc (idx n4 (2:Int)) fun y=>br (decide (i_2<(↑(List.length y.kQ):Int))) (jc (idx n4 (2:Int)) fun y1=>jc (idx y1.kQ i_2) fun y2=>jc (kx y2) fun y3=>jc (Je (decide ((refs.length+1)*16≤140737488355328)&&decide (refs.length+1≤140737488355328))) fun y4=>Z (.inl ((i64.wrap (i_2+1)),(refs++[y3])))) (Z (.inr (i_2,refs)))
def jT.cp_s:Sj:=(jT.cl_s.s 9 iI)
def jT.cp_r:LC:=⟨jT.cp_s,[(jT.cp_s,6,[5,201,6,201])],no,[5,12],[5,10,12],@jT.cp_,fun _ _ _ _ _=>jb fun _=>(jt (jb fun _=>(jb fun _=>(jb fun _=>(jb fun _=>ja)))) ja)⟩
def jT.cad_ (t:Za)(args:List Za)(Z:Za→Option ρ):Option ρ:= br (decide ((args.length:Int)>0)) (jc (kG args) fun y=>jc (Je (decide (List.length (Z9 [40])+y.length≤9223372036854775807))) fun y1=>jc (Je (decide (List.length (Z9 [40]++y)+List.length (Z9 [41])≤9223372036854775807))) fun y2=>jc (Je (decide (t.length+List.length (Z9 [40]++y++Z9 [41])≤9223372036854775807))) fun y3=>Z (t++(Z9 [40]++y++Z9 [41]))) (Z t)
def jT.cad_r:RC:=⟨jT.cp_s,[(jT.cp_s,0,[2,201])],no,[2,11],@jT.cad_,fun _ _ _ _=>jt (jb fun _=>(jb fun _=>(jb fun _=>(jb fun _=>ja)))) ja⟩
def jT.cae_ (t:Za)(refs:List Za)(Z:Za→Option ρ):Option ρ:= br (decide ((refs.length:Int)>0)) (jc (kG refs) fun y=>jc (Je (decide (List.length (Z9 [32])+y.length≤9223372036854775807))) fun y1=>jc (Je (decide (t.length+List.length (Z9 [32]++y)≤9223372036854775807))) fun y2=>Z (t++(Z9 [32]++y))) (Z t)
def jT.cae_r:RC:=⟨jT.cp_s,[(jT.cp_s,0,[2,201])],no,[2,12],@jT.cae_,fun _ _ _ _=>jt (jb fun _=>(jb fun _=>(jb fun _=>ja))) ja⟩
def jT (n:Zd):Option Za:= jc (iter (fun s↦jT.cb_ s.1 s.2 n.kQ some) (Z9 [],(0:Int))) fun y=>jc (Je (decide (List.length y.1+List.length n.hQ.2.2.1≤9223372036854775807))) fun y1=>jc (iter (fun s↦jT.cl_ s.1 n.kQ s.2 some) ((0:Int),[])) fun y2=>jc (iter (fun s↦jT.cp_ s.1 n.kQ s.2 some) ((0:Int),[])) fun y3=>jc (jT.cad_ (y.1++n.hQ.2.2.1) y2.2 some) fun y4=>jc (jT.cae_ y4 y3.2 some) fun y5=>jc (Je (decide (y5.length+List.length (Z9 [59])≤9223372036854775807))) fun y6=>some (y5++Z9 [59])
def jT.ce:=Vt tab Tryz.f48 jT
def jT.G:EB Zh:=⟨tb,Tryz.f48,[⟨49,kx.ce,kx.ok⟩,⟨99,kG.ce,kG.ok⟩],[0,1,2,3,4,5,6,7,8,9,17,30,35,58,80,97,106],[6,7,1002204920003,1002204920005,1002204920030,2000000000003,2000000000005,2000000000030],[],[(294213,jT.cae_r.ck),(286021,jT.cad_r.ck),(100018,jT.cp_r.ck),(100014,jT.cl_r.ck),(100003,jT.cb_r.ck),(220492,jT.cz_r.ck)],[⟨45,YS.mc,YS.ok⟩],[]⟩
def jT.ok:vj Zh 48 jT.ce:=Uj jT.G Tryz.func48 (m:=6) ⟨⟨⟨⟨⟨⟨trivial,kL jT.cb_r⟩,kJ jT.cz_r⟩,kL jT.cl_r⟩,kL jT.cp_r⟩,kJ jT.cad_r⟩,kJ jT.cae_r⟩
def VB (n:Zd):Option Int:= br (n.hQ.1==29) (some (1:Int)) (br (n.hQ.1==30) (some (2:Int)) (br (n.hQ.1==28) (some (3:Int)) (some (4:Int))))
def VB.ce:=Vt tab Tryz.f100 VB
def VB.G:EB Zh:=⟨tb,Tryz.f100,[],[0,1,2,5,8,11],[],[],[],[],[]⟩
def VB.ok:vj Zh 100 VB.ce:=Uj VB.G Tryz.func100 (m:=0) trivial
def Jr.qj.pre:Sj:=⟨[(0,VM)],[]⟩
def Jr.qj.post:Sj:=⟨[(0,cL)],[]⟩
def JF.qj.pre:Sj:=⟨[(0,VM),(1,iI)],[]⟩
def JF.qj.post:Sj:=⟨[(0,cL)],[]⟩
class Ui.Self where
  F_R_truthText_b:jq Jr.qj.pre.tys→Option (jq Jr.qj.post.tys)
  ok_R_truthText_b:MOk Zh 50 ⟨50,Jr.qj.pre,Jr.qj.post,F_R_truthText_b⟩
  F_R_truthAtLeast_b:jq JF.qj.pre.tys→Option (jq JF.qj.post.tys)
  ok_R_truthAtLeast_b:MOk Zh 101 ⟨101,JF.qj.pre,JF.qj.post,F_R_truthAtLeast_b⟩
section
variable [Ui.Self]
def Jr.qj (X:jq Jr.qj.pre.tys):Option (jq Jr.qj.post.tys):=Ui.Self.F_R_truthText_b X
def Jr.qj.mc:xj:=⟨50,Jr.qj.pre,Jr.qj.post,fun X=>Jr.qj X⟩
def Jr.qj.ok:MOk Zh 50 Jr.qj.mc:=Ui.Self.ok_R_truthText_b
def JF.qj (X:jq JF.qj.pre.tys):Option (jq JF.qj.post.tys):=Ui.Self.F_R_truthAtLeast_b X
def JF.qj.mc:xj:=⟨101,JF.qj.pre,JF.qj.post,fun X=>JF.qj X⟩
def JF.qj.ok:MOk Zh 101 JF.qj.mc:=Ui.Self.ok_R_truthAtLeast_b
def Jr.c4 {ρ:Type} (words:List Za)(l:Int)(n4:Ze)(Z:Za→Option ρ):Option ρ:= jc (idx n4 (0:Int)) fun y=>jc (JF.qj (y,l,())) fun y1=>jc (idx words l) fun y2=>jc (Je (decide (List.length y1.1+y2.length≤9223372036854775807))) fun y3=>jc (idx n4 (1:Int)) fun y4=>jc (JF.qj (y4,i64.wrap (l+1),())) fun y5=>jc (Je (decide (List.length (y1.1++y2)+List.length y5.1≤9223372036854775807))) fun y6=>Z (y1.1++y2++y5.1)
def Jr.c4s:Sj:=⟨[(0,VM),(1,tg45),(2,cL),(3,G5),(4,iI)],[(1,VQ)]⟩
def Jr.c4r:RC:=⟨Jr.c4s,[(Jr.c4s,0,[1,201])],no,[2,3,8],fun _=>Jr.c4,fun _ _ _ _ _=>jb fun _=>(jb fun _=>(jb fun _=>(jb fun _=>(jb fun _=>(jb fun _=>(jb fun _=>ja))))))⟩
def Jr (n:Zd):Option (Za×Unit):= jc (VB (Rose.mk (n.hQ.1,n.hQ.2.1,n.hQ.2.2.1,n.hQ.2.2.2) n.kQ)) fun y=>br (decide (y<4)) (jc (Jr.c4 [Z9 [],Z9 [32,124,32],Z9 [32,94,32],Z9 [32,38,32]] y n.kQ some) fun y1=>some (y1,())) (br (n.hQ.1==27) (jc (idx n.kQ (0:Int)) fun y2=>jc (JF.qj (y2,(4:Int),())) fun y3=>jc (Je (decide (List.length (Z9 [33])+List.length y3.1≤9223372036854775807))) fun y4=>some (Z9 [33]++y3.1,())) (br (n.hQ.1==26) (jc (aT n.hQ.2.2.2) fun y5=>some (y5,())) (jc (kx (Rose.mk (n.hQ.1,n.hQ.2.1,n.hQ.2.2.1,n.hQ.2.2.2) n.kQ)) fun y6=>some (y6,()))))
def Jr.mc:xj:=⟨50,⟨[(0,VM)],[]⟩,⟨[(0,cL)],[]⟩,fun X=>Jr X.1⟩
def Jr.G:EB Zh:=⟨tb,Tryz.f50,[⟨100,VB.ce,VB.ok⟩,⟨97,aT.ce,aT.ok⟩,⟨49,kx.ce,kx.ok⟩],[0,1,2,3,4,9,31,40],[],[(4,[])],[(4,Jr.c4r.ck)],[⟨101,JF.qj.mc,JF.qj.ok⟩],[]⟩
def Jr.ok:MOk Zh 50 Jr.mc:=Ub Jr.G (mc:=Jr.mc) Tryz.func50 (m:=1) ⟨trivial,kR Jr.c4r⟩
def JF (n:Zd) (level:Int):Option (Za×Unit):= jc (VB (Rose.mk (n.hQ.1,n.hQ.2.1,n.hQ.2.2.1,n.hQ.2.2.2) n.kQ)) fun y=>br (decide (y<level)) (jc (Jr.qj (Rose.mk (n.hQ.1,n.hQ.2.1,n.hQ.2.2.1,n.hQ.2.2.2) n.kQ,())) fun y1=>jc (Je (decide (List.length (Z9 [40])+List.length y1.1≤9223372036854775807))) fun y2=>jc (Je (decide (List.length (Z9 [40]++y1.1)+List.length (Z9 [41])≤9223372036854775807))) fun y3=>some (Z9 [40]++y1.1++Z9 [41],())) (jc (Jr.qj (Rose.mk (n.hQ.1,n.hQ.2.1,n.hQ.2.2.1,n.hQ.2.2.2) n.kQ,())) fun y4=>some (y4.1,()))
def JF.mc:xj:=⟨101,⟨[(0,VM),(1,iI)],[]⟩,⟨[(0,cL)],[]⟩,fun X=>JF X.1 X.2.1⟩
def JF.G:EB Zh:=⟨tb,Tryz.f101,[⟨100,VB.ce,VB.ok⟩],[0,1,2,4,8],[],[],[],[⟨50,Jr.qj.mc,Jr.qj.ok⟩],[]⟩
def JF.ok:MOk Zh 101 JF.mc:=Ub JF.G (mc:=JF.mc) Tryz.func101 (m:=0) trivial
end
@[reducible] def Ui.fuel:Nat→Ui.Self
  | 0=>{ F_R_truthText_b:=fun _=>none,ok_R_truthText_b:=⟨⟨Tryz.f50,Tryz.func50,by kernel_rfl,by kernel_rfl⟩,fun _ _ _ _ _ _ _ hy=>by cases hy⟩,F_R_truthAtLeast_b:=fun _=>none,ok_R_truthAtLeast_b:=⟨⟨Tryz.f101,Tryz.func101,by kernel_rfl,by kernel_rfl⟩,fun _ _ _ _ _ _ _ hy=>by cases hy⟩ }
  | n+1=>{ F_R_truthText_b:=fun X=>(@Jr.mc (Ui.fuel n)).F X,ok_R_truthText_b:=@Jr.ok (Ui.fuel n),F_R_truthAtLeast_b:=fun X=>(@JF.mc (Ui.fuel n)).F X,ok_R_truthAtLeast_b:=@JF.ok (Ui.fuel n) }
def Ht (X:jq Jr.qj.pre.tys):Option (jq Jr.qj.post.tys):=(Ui.fuel (1000000)).F_R_truthText_b X
def Ht.mc:xj:=⟨50,Jr.qj.pre,Jr.qj.post,fun X=>Ht X⟩
def Ht.ok:MOk Zh 50 Ht.mc:=(Ui.fuel (1000000)).ok_R_truthText_b
def Js.qj.pre:Sj:=⟨[(0,VM),(1,cL)],[]⟩
def Js.qj.post:Sj:=⟨[(0,cL)],[]⟩
def jl.qj.pre:Sj:=⟨[(0,VM),(1,cL)],[]⟩
def jl.qj.post:Sj:=⟨[(0,cL)],[]⟩
class Uh.Self where
  F_R_blockText_b:jq Js.qj.pre.tys→Option (jq Js.qj.post.tys)
  ok_R_blockText_b:MOk Zh 47 ⟨47,Js.qj.pre,Js.qj.post,F_R_blockText_b⟩
  F_R_stmtText_b:jq jl.qj.pre.tys→Option (jq jl.qj.post.tys)
  ok_R_stmtText_b:MOk Zh 23 ⟨23,jl.qj.pre,jl.qj.post,F_R_stmtText_b⟩
section
variable [Uh.Self]
def Js.qj (X:jq Js.qj.pre.tys):Option (jq Js.qj.post.tys):=Uh.Self.F_R_blockText_b X
def Js.qj.mc:xj:=⟨47,Js.qj.pre,Js.qj.post,fun X=>Js.qj X⟩
def Js.qj.ok:MOk Zh 47 Js.qj.mc:=Uh.Self.ok_R_blockText_b
def jl.qj (X:jq jl.qj.pre.tys):Option (jq jl.qj.post.tys):=Uh.Self.F_R_stmtText_b X
def jl.qj.mc:xj:=⟨23,jl.qj.pre,jl.qj.post,fun X=>jl.qj X⟩
def jl.qj.ok:MOk Zh 23 jl.qj.mc:=Uh.Self.ok_R_stmtText_b
def Js.pre:Sj:=⟨[(0,VM),(1,cL)],[]⟩
def Js.cb_ {ρ:Type} (tabs:Za)(t:Za)(i:Int)(n4:Ze)(Z:(Za×Int)⊕(Za×Int)→Option ρ):Option ρ:= br (decide (i<(n4.length:Int))) (jc (idx n4 i) fun y=>jc (Je (decide (tabs.length+List.length (Z9 [9])≤9223372036854775807))) fun y1=>jc (jl.qj (y,tabs++Z9 [9],())) fun y2=>jc (Je (decide (t.length+List.length y2.1≤9223372036854775807))) fun y3=>Z (.inl ((t++y2.1),(i64.wrap (i+1))))) (Z (.inr (t,i)))
def Js.cb_s:Sj:=(((((Js.pre.s 2 rF).s 4 cL).s 5 cL).s 6 iI).o 2 VQ)
def Js.cb_r:LC:=⟨Js.cb_s,[(Js.cb_s,2,[3,202])],no,[3,4],[1,3,4,9],fun _=>Js.cb_,fun _ _ _ _ _ _=>jt (jb fun _=>(jb fun _=>(jb fun _=>(jb fun _=>ja)))) ja⟩
def Js (n:Zd) (tabs:Za):Option (Za×Unit):= jc (iter (fun s↦Js.cb_ tabs s.1 s.2 n.kQ some) (Z9 [123,10],(0:Int))) fun y=>jc (Je (decide (List.length y.1+tabs.length≤9223372036854775807))) fun y1=>jc (Je (decide (List.length (y.1++tabs)+List.length (Z9 [125])≤9223372036854775807))) fun y2=>some (y.1++tabs++Z9 [125],())
def Js.mc:xj:=⟨47,Js.pre,⟨[(0,cL)],[]⟩,fun X=>Js X.1 X.2.1⟩
def Js.G:EB Zh:=⟨tb,Tryz.f47,[],[0,1,2,4,5,6,11],[],[],[(100003,Js.cb_r.ck)],[⟨23,jl.qj.mc,jl.qj.ok⟩],[]⟩
def Js.ok:MOk Zh 47 Js.mc:=Ub Js.G (mc:=Js.mc) Tryz.func47 (m:=1) ⟨trivial,kL Js.cb_r⟩
def jl.pre:Sj:=⟨[(0,VM),(1,cL)],[]⟩
def jl.c2 {ρ:Type} (n0:Int)(Z:Bool→Option ρ):Option ρ:= br (n0==2) (Z true) (Z (n0==3))
def jl.c2s:Sj:=((((jl.pre.s 2 rF).s 4 cL).s 5 cL).o 2 VQ)
def jl.c2r:RC:=⟨jl.c2s,[((jl.c2s.s 14 Nj),0,[4,101])],no,[4],fun _=>jl.c2,fun _ _ _=>jt ja ja⟩
def jl.cn_ {ρ:Type} (t:Za)(n0:Int)(Z:Za→Option ρ):Option ρ:= br (n0==2) (jc (Je (decide (t.length+List.length (Z9 [113,117,98,105,116,32])≤9223372036854775807))) fun y=>Z (t++Z9 [113,117,98,105,116,32])) (jc (Je (decide (t.length+List.length (Z9 [98,105,116,32])≤9223372036854775807))) fun y1=>Z (t++Z9 [98,105,116,32]))
def jl.cn_r:RC:=⟨jl.c2s,[(jl.c2s,0,[3,201])],no,[3,4],fun _=>jl.cn_,fun _ _ _ _=>jt (jb fun _=>ja) (jb fun _=>ja)⟩
def jl.c6 {ρ:Type} (t:Za)(n2:Za)(n4:Ze)(Z:Za→Option ρ):Option ρ:= jc (Je (decide (n2.length+List.length (Z9 [91])≤9223372036854775807))) fun y=>jc (idx n4 (0:Int)) fun y1=>jc (YS (y1,())) fun y2=>jc (Je (decide (List.length (n2++Z9 [91])+List.length y2.1≤9223372036854775807))) fun y3=>jc (Je (decide (List.length (n2++Z9 [91]++y2.1)+List.length (Z9 [93,59])≤9223372036854775807))) fun y4=>jc (Je (decide (t.length+List.length (n2++Z9 [91]++y2.1++Z9 [93,59])≤9223372036854775807))) fun y5=>Z (t++(n2++Z9 [91]++y2.1++Z9 [93,59]))
def jl.c6r:RC:=⟨jl.c2s,[(jl.c2s,0,[3,201])],no,[3,6,8],fun _=>jl.c6,fun _ _ _ _ _=>jb fun _=>(jb fun _=>(jb fun _=>(jb fun _=>(jb fun _=>(jb fun _=>ja)))))⟩
def jl.c8 {ρ:Type} (t:Za)(n2:Za)(n4:Ze)(Z:Za→Option ρ):Option ρ:= jc (Je (decide (List.length (Z9 [99,111,110,115,116,32])+n2.length≤9223372036854775807))) fun y=>jc (Je (decide (List.length (Z9 [99,111,110,115,116,32]++n2)+List.length (Z9 [32,61,32])≤9223372036854775807))) fun y1=>jc (idx n4 (0:Int)) fun y2=>jc (YS (y2,())) fun y3=>jc (Je (decide (List.length (Z9 [99,111,110,115,116,32]++n2++Z9 [32,61,32])+List.length y3.1≤9223372036854775807))) fun y4=>jc (Je (decide (List.length (Z9 [99,111,110,115,116,32]++n2++Z9 [32,61,32]++y3.1)+List.length (Z9 [59])≤9223372036854775807))) fun y5=>jc (Je (decide (t.length+List.length (Z9 [99,111,110,115,116,32]++n2++Z9 [32,61,32]++y3.1++Z9 [59])≤9223372036854775807))) fun y6=>Z (t++(Z9 [99,111,110,115,116,32]++n2++Z9 [32,61,32]++y3.1++Z9 [59]))
def jl.c8r:RC:=⟨jl.c2s,[(jl.c2s,0,[3,201])],no,[3,6,8],fun _=>jl.c8,fun _ _ _ _ _=>jb fun _=>(jb fun _=>(jb fun _=>(jb fun _=>(jb fun _=>(jb fun _=>(jb fun _=>ja))))))⟩
def jl.c10 {ρ:Type} (tabs:Za)(t:Za)(n0:Int)(n1:Int)(n2:Za)(n3:Int)(n4:Ze)(Z:Za→Option ρ):Option ρ:= jc (Jt (Rose.mk (n0,n1,n2,n3) n4)) fun y=>jc (idx n4 (2:Int)) fun y1=>jc (Js.qj (y1,tabs,())) fun y2=>jc (Je (decide (y.length+List.length y2.1≤9223372036854775807))) fun y3=>jc (Je (decide (t.length+List.length (y++y2.1)≤9223372036854775807))) fun y4=>Z (t++(y++y2.1))
def jl.c10r:RC:=⟨jl.c2s,[(jl.c2s,0,[3,201])],no,[1,3,4,5,6,7,8],fun _=>jl.c10,fun _ _ _ _ _ _ _ _ _=>jb fun _=>(jb fun _=>(jb fun _=>(jb fun _=>(jb fun _=>ja))))⟩
def jl.c14 {ρ:Type} (tabs:Za)(t:Za)(n2:Za)(n4:Ze)(Z:Za→Option ρ):Option ρ:= jc (Je (decide (List.length (Z9 [102,111,114,32])+n2.length≤9223372036854775807))) fun y=>jc (Je (decide (List.length (Z9 [102,111,114,32]++n2)+List.length (Z9 [32,105,110,32])≤9223372036854775807))) fun y1=>jc (idx n4 (0:Int)) fun y2=>jc (YS (y2,())) fun y3=>jc (Je (decide (List.length (Z9 [102,111,114,32]++n2++Z9 [32,105,110,32])+List.length y3.1≤9223372036854775807))) fun y4=>jc (Je (decide (List.length (Z9 [102,111,114,32]++n2++Z9 [32,105,110,32]++y3.1)+List.length (Z9 [32,46,46,32])≤9223372036854775807))) fun y5=>jc (idx n4 (1:Int)) fun y6=>jc (YS (y6,())) fun y7=>jc (Je (decide (List.length (Z9 [102,111,114,32]++n2++Z9 [32,105,110,32]++y3.1++Z9 [32,46,46,32])+List.length y7.1≤9223372036854775807))) fun y8=>jc (Je (decide (List.length (Z9 [102,111,114,32]++n2++Z9 [32,105,110,32]++y3.1++Z9 [32,46,46,32]++y7.1)+List.length (Z9 [32])≤9223372036854775807))) fun y9=>jc (idx n4 (2:Int)) fun y10=>jc (Js.qj (y10,tabs,())) fun y11=>jc (Je (decide (List.length (Z9 [102,111,114,32]++n2++Z9 [32,105,110,32]++y3.1++Z9 [32,46,46,32]++y7.1++Z9 [32])+List.length y11.1≤9223372036854775807))) fun y12=>jc (Je (decide (t.length+List.length (Z9 [102,111,114,32]++n2++Z9 [32,105,110,32]++y3.1++Z9 [32,46,46,32]++y7.1++Z9 [32]++y11.1)≤9223372036854775807))) fun y13=>Z (t++(Z9 [102,111,114,32]++n2++Z9 [32,105,110,32]++y3.1++Z9 [32,46,46,32]++y7.1++Z9 [32]++y11.1))
def jl.c14r:RC:=⟨jl.c2s,[(jl.c2s,0,[3,201])],no,[1,3,6,8],fun _=>jl.c14,fun _ _ _ _ _ _=>jb fun _=>(jb fun _=>(jb fun _=>(jb fun _=>(jb fun _=>(jb fun _=>(jb fun _=>(jb fun _=>(jb fun _=>(jb fun _=>(jb fun _=>(jb fun _=>(jb fun _=>(jb fun _=>ja)))))))))))))⟩
def jl.c16 {ρ:Type} (tabs:Za)(t:Za)(n4:Ze)(Z:Za→Option ρ):Option ρ:= jc (idx n4 (0:Int)) fun y=>jc (YS (y,())) fun y1=>jc (Je (decide (List.length (Z9 [119,104,101,110,32])+List.length y1.1≤9223372036854775807))) fun y2=>jc (Je (decide (List.length (Z9 [119,104,101,110,32]++y1.1)+List.length (Z9 [32])≤9223372036854775807))) fun y3=>jc (idx n4 (1:Int)) fun y4=>jc (Js.qj (y4,tabs,())) fun y5=>jc (Je (decide (List.length (Z9 [119,104,101,110,32]++y1.1++Z9 [32])+List.length y5.1≤9223372036854775807))) fun y6=>jc (Je (decide (t.length+List.length (Z9 [119,104,101,110,32]++y1.1++Z9 [32]++y5.1)≤9223372036854775807))) fun y7=>Z (t++(Z9 [119,104,101,110,32]++y1.1++Z9 [32]++y5.1))
def jl.c16r:RC:=⟨jl.c2s,[(jl.c2s,0,[3,201])],no,[1,3,8],fun _=>jl.c16,fun _ _ _ _ _=>jb fun _=>(jb fun _=>(jb fun _=>(jb fun _=>(jb fun _=>(jb fun _=>(jb fun _=>(jb fun _=>ja)))))))⟩
def jl.cU_ {ρ:Type} (t:Za)(n3:Int)(Z:Za→Option ρ):Option ρ:= br (n3==1) (jc (Je (decide (t.length+List.length (Z9 [33])≤9223372036854775807))) fun y=>Z (t++Z9 [33])) (Z t)
def jl.cU_r:RC:=⟨jl.c2s,[(jl.c2s,0,[3,201])],no,[3,7],fun _=>jl.cU_,fun _ _ _ _=>jt (jb fun _=>ja) ja⟩
def jl.c21 {ρ:Type} (tabs:Za)(t:Za)(n4:Ze)(Z:Za→Option ρ):Option ρ:= jc (idx n4 (0:Int)) fun y=>jc (kx y) fun y1=>jc (Je (decide (y1.length+List.length (Z9 [32])≤9223372036854775807))) fun y2=>jc (idx n4 (1:Int)) fun y3=>jc (Js.qj (y3,tabs,())) fun y4=>jc (Je (decide (List.length (y1++Z9 [32])+List.length y4.1≤9223372036854775807))) fun y5=>jc (Je (decide (t.length+List.length (y1++Z9 [32]++y4.1)≤9223372036854775807))) fun y6=>Z (t++(y1++Z9 [32]++y4.1))
def jl.c21r:RC:=⟨jl.c2s,[(jl.c2s,0,[3,201])],no,[1,3,8],fun _=>jl.c21,fun _ _ _ _ _=>jb fun _=>(jb fun _=>(jb fun _=>(jb fun _=>(jb fun _=>(jb fun _=>(jb fun _=>ja))))))⟩
def jl.c25 {ρ:Type} (t:Za)(n4:Ze)(Z:Za→Option ρ):Option ρ:= jc (idx n4 (0:Int)) fun y=>jc (kx y) fun y1=>jc (Je (decide (List.length (Z9 [109,101,97,115,117,114,101,32])+y1.length≤9223372036854775807))) fun y2=>jc (Je (decide (List.length (Z9 [109,101,97,115,117,114,101,32]++y1)+List.length (Z9 [32,45,62,32])≤9223372036854775807))) fun y3=>jc (idx n4 (1:Int)) fun y4=>jc (kx y4) fun y5=>jc (Je (decide (List.length (Z9 [109,101,97,115,117,114,101,32]++y1++Z9 [32,45,62,32])+y5.length≤9223372036854775807))) fun y6=>jc (Je (decide (List.length (Z9 [109,101,97,115,117,114,101,32]++y1++Z9 [32,45,62,32]++y5)+List.length (Z9 [59])≤9223372036854775807))) fun y7=>jc (Je (decide (t.length+List.length (Z9 [109,101,97,115,117,114,101,32]++y1++Z9 [32,45,62,32]++y5++Z9 [59])≤9223372036854775807))) fun y8=>Z (t++(Z9 [109,101,97,115,117,114,101,32]++y1++Z9 [32,45,62,32]++y5++Z9 [59]))
def jl.c25r:RC:=⟨jl.c2s,[(jl.c2s,0,[3,201])],no,[3,8],fun _=>jl.c25,fun _ _ _ _=>jb fun _=>(jb fun _=>(jb fun _=>(jb fun _=>(jb fun _=>(jb fun _=>(jb fun _=>(jb fun _=>(jb fun _=>ja))))))))⟩
def jl.c29 {ρ:Type} (tabs:Za)(t:Za)(n4:Ze)(Z:Za→Option ρ):Option ρ:= jc (idx n4 (0:Int)) fun y=>jc (Js.qj (y,tabs,())) fun y1=>jc (Je (decide (List.length (Z9 [119,105,116,104,105,110,32])+List.length y1.1≤9223372036854775807))) fun y2=>jc (Je (decide (List.length (Z9 [119,105,116,104,105,110,32]++y1.1)+List.length (Z9 [32,97,112,112,108,121,32])≤9223372036854775807))) fun y3=>jc (idx n4 (1:Int)) fun y4=>jc (Js.qj (y4,tabs,())) fun y5=>jc (Je (decide (List.length (Z9 [119,105,116,104,105,110,32]++y1.1++Z9 [32,97,112,112,108,121,32])+List.length y5.1≤9223372036854775807))) fun y6=>jc (Je (decide (t.length+List.length (Z9 [119,105,116,104,105,110,32]++y1.1++Z9 [32,97,112,112,108,121,32]++y5.1)≤9223372036854775807))) fun y7=>Z (t++(Z9 [119,105,116,104,105,110,32]++y1.1++Z9 [32,97,112,112,108,121,32]++y5.1))
def jl.c29r:RC:=⟨jl.c2s,[(jl.c2s,0,[3,201])],no,[1,3,8],fun _=>jl.c29,fun _ _ _ _ _=>jb fun _=>(jb fun _=>(jb fun _=>(jb fun _=>(jb fun _=>(jb fun _=>(jb fun _=>(jb fun _=>ja)))))))⟩
def jl.c30 {ρ:Type} (t:Za)(n4:Ze)(Z:Za→Option ρ):Option ρ:= jc (idx n4 (0:Int)) fun y=>jc (kx y) fun y1=>jc (Je (decide (y1.length+List.length (Z9 [32,94,61,32])≤9223372036854775807))) fun y2=>jc (idx n4 (1:Int)) fun y3=>jc (Ht (y3,())) fun y4=>jc (Je (decide (List.length (y1++Z9 [32,94,61,32])+List.length y4.1≤9223372036854775807))) fun y5=>jc (Je (decide (List.length (y1++Z9 [32,94,61,32]++y4.1)+List.length (Z9 [59])≤9223372036854775807))) fun y6=>jc (Je (decide (t.length+List.length (y1++Z9 [32,94,61,32]++y4.1++Z9 [59])≤9223372036854775807))) fun y7=>Z (t++(y1++Z9 [32,94,61,32]++y4.1++Z9 [59]))
def jl.c30r:RC:=⟨jl.c2s,[(jl.c2s,0,[3,201])],no,[3,8],fun _=>jl.c30,fun _ _ _ _=>jb fun _=>(jb fun _=>(jb fun _=>(jb fun _=>(jb fun _=>(jb fun _=>(jb fun _=>(jb fun _=>ja)))))))⟩
def jl.cq_ {ρ:Type} (tabs:Za)(t:Za)(n0:Int)(n1:Int)(n2:Za)(n3:Int)(n4:Ze)(Z:Za→Option ρ):Option ρ:= jc (jl.c2 n0 some) fun y=>br y (jc (jl.cn_ t n0 some) fun y1=>jc (jl.c6 y1 n2 n4 some) fun y2=>Z y2) (br (n0==4) (jc (jl.c8 t n2 n4 some) fun y3=>Z y3) (br (n0==5) (jc (jl.c10 tabs t n0 n1 n2 n3 n4 some) fun y4=>Z y4) (br (n0==8) (jc (jT (Rose.mk (n0,n1,n2,n3) n4)) fun y5=>jc (Je (decide (t.length+y5.length≤9223372036854775807))) fun y6=>Z (t++y5)) (br (n0==12) (jc (jl.c14 tabs t n2 n4 some) fun y7=>Z y7) (br (n0==13) (jc (jl.c16 tabs t n4 some) fun y8=>Z y8) (br (n0==14) (jc (Je (decide (t.length+List.length (Z9 [105,102,32])≤9223372036854775807))) fun y9=>jc (jl.cU_ (t++Z9 [105,102,32]) n3 some) fun y10=>jc (jl.c21 tabs y10 n4 some) fun y11=>br ((n4.length:Int)==3) (jc (idx n4 (2:Int)) fun y12=>jc (Js.qj (y12,tabs,())) fun y13=>jc (Je (decide (List.length (Z9 [32,101,108,115,101,32])+List.length y13.1≤9223372036854775807))) fun y14=>jc (Je (decide (y11.length+List.length (Z9 [32,101,108,115,101,32]++y13.1)≤9223372036854775807))) fun y15=>Z (y11++(Z9 [32,101,108,115,101,32]++y13.1))) (Z y11)) (br (n0==15) (jc (jl.c25 t n4 some) fun y16=>Z y16) (br (n0==16) (jc (idx n4 (0:Int)) fun y17=>jc (kx y17) fun y18=>jc (Je (decide (List.length (Z9 [114,101,115,101,116,32])+y18.length≤9223372036854775807))) fun y19=>jc (Je (decide (List.length (Z9 [114,101,115,101,116,32]++y18)+List.length (Z9 [59])≤9223372036854775807))) fun y20=>jc (Je (decide (t.length+List.length (Z9 [114,101,115,101,116,32]++y18++Z9 [59])≤9223372036854775807))) fun y21=>Z (t++(Z9 [114,101,115,101,116,32]++y18++Z9 [59]))) (br (n0==17) (jc (jl.c29 tabs t n4 some) fun y22=>Z y22) (jc (jl.c30 t n4 some) fun y23=>Z y23))))))))))
def jl.cq_r:RC:=⟨jl.c2s,[(jl.c2s,0,[3,201])],no,[1,3,4,5,6,7,8],fun _=>jl.cq_,fun _ _ _ _ _ _ _ _ _=>jb fun _=>(jt (jb fun _=>(jb fun _=>ja)) (jt (jb fun _=>ja) (jt (jb fun _=>ja) (jt (jb fun _=>(jb fun _=>ja)) (jt (jb fun _=>ja) (jt (jb fun _=>ja) (jt (jb fun _=>(jb fun _=>(jb fun _=>(jt (jb fun _=>(jb fun _=>(jb fun _=>(jb fun _=>ja)))) ja)))) (jt (jb fun _=>ja) (jt (jb fun _=>(jb fun _=>(jb fun _=>(jb fun _=>(jb fun _=>ja))))) (jt (jb fun _=>ja) (jb fun _=>ja)))))))))))⟩
def jl (n:Zd) (tabs:Za):Option (Za×Unit):= jc (jl.cq_ tabs tabs n.hQ.1 n.hQ.2.1 n.hQ.2.2.1 n.hQ.2.2.2 n.kQ some) fun y=>jc (Je (decide (y.length+List.length (Z9 [10])≤9223372036854775807))) fun y1=>some (y++Z9 [10],())
def jl.mc:xj:=⟨23,jl.pre,⟨[(0,cL)],[]⟩,fun X=>jl X.1 X.2.1⟩
def jl.G:EB Zh:=⟨tb,Tryz.f23,[⟨46,Jt.ce,Jt.ok⟩,⟨48,jT.ce,jT.ok⟩,⟨49,kx.ce,kx.ok⟩],[0,1,2,4,5,14,17,36,52,66,73,103,122,127,148,160,179,191],[1002082530005,1002122930005,2000000000005],[(30,[]),(29,[]),(25,[]),(21,[]),(16,[]),(14,[]),(10,[]),(8,[]),(6,[])],[(208253,jl.cq_r.ck),(30,jl.c30r.ck),(29,jl.c29r.ck),(25,jl.c25r.ck),(21,jl.c21r.ck),(277829,jl.cU_r.ck),(16,jl.c16r.ck),(14,jl.c14r.ck),(10,jl.c10r.ck),(8,jl.c8r.ck),(6,jl.c6r.ck),(212293,jl.cn_r.ck),(2,jl.c2r.ck)],[⟨45,YS.mc,YS.ok⟩,⟨47,Js.qj.mc,Js.qj.ok⟩,⟨50,Ht.mc,Ht.ok⟩],[]⟩
def jl.ok:MOk Zh 23 jl.mc:=Ub jl.G (mc:=jl.mc) Tryz.func23 (m:=13) ⟨⟨⟨⟨⟨⟨⟨⟨⟨⟨⟨⟨⟨trivial,kJ jl.cq_r⟩,kR jl.c2r⟩,kJ jl.cn_r⟩,kR jl.c6r⟩,kR jl.c8r⟩,kR jl.c10r⟩,kR jl.c14r⟩,kR jl.c16r⟩,kJ jl.cU_r⟩,kR jl.c21r⟩,kR jl.c25r⟩,kR jl.c29r⟩,kR jl.c30r⟩
end
@[reducible] def Uh.fuel:Nat→Uh.Self
  | 0=>{ F_R_blockText_b:=fun _=>none,ok_R_blockText_b:=⟨⟨Tryz.f47,Tryz.func47,by kernel_rfl,by kernel_rfl⟩,fun _ _ _ _ _ _ _ hy=>by cases hy⟩,F_R_stmtText_b:=fun _=>none,ok_R_stmtText_b:=⟨⟨Tryz.f23,Tryz.func23,by kernel_rfl,by kernel_rfl⟩,fun _ _ _ _ _ _ _ hy=>by cases hy⟩ }
  | n+1=>{ F_R_blockText_b:=fun X=>(@Js.mc (Uh.fuel n)).F X,ok_R_blockText_b:=@Js.ok (Uh.fuel n),F_R_stmtText_b:=fun X=>(@jl.mc (Uh.fuel n)).F X,ok_R_stmtText_b:=@jl.ok (Uh.fuel n) }
def HX (X:jq jl.qj.pre.tys):Option (jq jl.qj.post.tys):=(Uh.fuel (1000000)).F_R_stmtText_b X
def HX.mc:xj:=⟨23,jl.qj.pre,jl.qj.post,fun X=>HX X⟩
def HX.ok:MOk Zh 23 HX.mc:=(Uh.fuel (1000000)).ok_R_stmtText_b
def Yl.cb_ (t:Za)(i:Int)(n4:Ze)(Z:(Za×Int)⊕(Za×Int)→Option ρ):Option ρ:= br (decide (i<(n4.length:Int))) (jc (idx n4 i) fun y=>jc (HX (y,Z9 [],())) fun y1=>jc (Je (decide (t.length+List.length y1.1≤9223372036854775807))) fun y2=>Z (.inl ((t++y1.1),(i64.wrap (i+1))))) (Z (.inr (t,i)))
def Yl.cb_s:Sj:=⟨[(0,VM),(1,tg45),(2,cL),(3,cL),(4,iI)],[(1,VQ)]⟩
def Yl.cb_r:LC:=⟨Yl.cb_s,[(Yl.cb_s,2,[2,202])],no,[2,3],[2,3,8],@Yl.cb_,fun _ _ _ _ _=>jt (jb fun _=>(jb fun _=>(jb fun _=>ja))) ja⟩
def Yl (n:Zd):Option Za:= jc (iter (fun s↦Yl.cb_ s.1 s.2 n.kQ some) (Z9 [],(0:Int))) fun y=>some y.1
def Yl.ce:=Vt tab Tryz.f11 Yl
def Yl.G:EB Zh:=⟨tb,Tryz.f11,[],[0,1,2,3,4,9],[],[],[(100003,Yl.cb_r.ck)],[⟨23,HX.mc,HX.ok⟩],[]⟩
def Yl.ok:vj Zh 11 Yl.ce:=Uj Yl.G Tryz.func11 (m:=1) ⟨trivial,kL Yl.cb_r⟩
def JM (n:Zd) (i:Int):Option Zd:= br (decide (i<(↑(List.length n.kQ):Int))) (jc (idx n.kQ i) fun y=>some (Rose.mk (y.hQ.1,y.hQ.2.1,y.hQ.2.2.1,y.hQ.2.2.2) y.kQ)) (some (Rose.mk ((0:Int),(0:Int),[],(0:Int)) []))
def JM.ce:=Vt tab Tryz.f89 JM
def JM.G:EB Zh:=⟨tb,Tryz.f89,[],[0,1,2,4,9],[],[],[],[],[]⟩
def JM.ok:vj Zh 89 JM.ce:=Uj JM.G Tryz.func89 (m:=0) trivial
def Vj (text:Za) (has:Int) (must:Int):Option Za:= br (decide (has<must)) (jc (Je (decide (List.length (Z9 [40])+text.length≤9223372036854775807))) fun y=>jc (Je (decide (List.length (Z9 [40]++text)+List.length (Z9 [41])≤9223372036854775807))) fun y1=>some (Z9 [40]++text++Z9 [41])) (some text)
def Vj.ce:=Vt tab Tryz.f114 Vj
def Vj.G:EB Zh:=⟨tb,Tryz.f114,[],[0,1,2,6,9],[],[],[],[],[]⟩
def Vj.ok:vj Zh 114 Vj.ce:=Uj Vj.G Tryz.func114 (m:=0) trivial
def jC.qj.pre:Sj:=⟨[(0,VM),(1,iI)],[]⟩
def jC.qj.post:Sj:=⟨[(0,cL)],[]⟩
class jC.Self where
  F:jq jC.qj.pre.tys→Option (jq jC.qj.post.tys)
  ok:MOk Zh 90 ⟨90,jC.qj.pre,jC.qj.post,F⟩
section
variable [jC.Self]
def jC.qj (X:jq jC.qj.pre.tys):Option (jq jC.qj.post.tys):=jC.Self.F X
def jC.qj.mc:xj:=⟨90,jC.qj.pre,jC.qj.post,fun X=>jC.qj X⟩
def jC.qj.ok:MOk Zh 90 jC.qj.mc:=jC.Self.ok
def jC.pre:Sj:=⟨[(0,VM),(1,iI)],[]⟩
def jC.cM_ {ρ:Type} (r:Int)(left:Int)(right:Int)(Z:Int×Int→Option ρ):Option ρ:= br (r==1) (Z ((2:Int),right)) (br (r==5) (Z ((6:Int),(4:Int))) (Z (left,right)))
def jC.cM_s:Sj:=(((((((jC.pre.s 2 rF).s 4 cL).s 5 iI).s 6 iI).s 7 iI).s 9 iI).o 2 VQ)
def jC.cM_r:RC:=⟨jC.cM_s,[(jC.cM_s,0,[4,202])],no,[3,4,5],fun _=>jC.cM_,fun _ _ _ _ _=>jt ja (jt ja ja)⟩
def jC.c18 {ρ:Type} (must:Int)(r:Int)(left:Int)(right:Int)(n0:Int)(n1:Int)(n2:Za)(n3:Int)(n4:Ze)(Z:Za→Option ρ):Option ρ:= jc (JM (Rose.mk (n0,n1,n2,n3) n4) (0:Int)) fun y=>jc (jC.qj (y,left,())) fun y1=>jc (Je (decide (List.length y1.1+List.length (Z9 [32])≤9223372036854775807))) fun y2=>jc (Je (decide (List.length (y1.1++Z9 [32])+n2.length≤9223372036854775807))) fun y3=>jc (Je (decide (List.length (y1.1++Z9 [32]++n2)+List.length (Z9 [32])≤9223372036854775807))) fun y4=>jc (JM (Rose.mk (n0,n1,n2,n3) n4) (1:Int)) fun y5=>jc (jC.qj (y5,right,())) fun y6=>jc (Je (decide (List.length (y1.1++Z9 [32]++n2++Z9 [32])+List.length y6.1≤9223372036854775807))) fun y7=>jc (Vj (y1.1++Z9 [32]++n2++Z9 [32]++y6.1) r must) fun y8=>Z y8
def jC.c18r:RC:=⟨jC.cM_s,[(jC.cM_s,0,[2,201])],no,[1,3,4,5,7,8,9,10,11],fun _=>jC.c18,fun _ _ _ _ _ _ _ _ _ _ _=>jb fun _=>(jb fun _=>(jb fun _=>(jb fun _=>(jb fun _=>(jb fun _=>(jb fun _=>(jb fun _=>(jb fun _=>ja))))))))⟩
def jC (n:Zd) (must:Int):Option (Za×Unit):= br (n.hQ.1==20) (jc (strconv_Itoa n.hQ.2.2.2) fun y=>some (y,())) (br (n.hQ.1==21) (some (n.hQ.2.2.1,())) (br (n.hQ.1==22) (jc (Je (decide (List.length (Z9 [115,105,122,101,40])+List.length n.hQ.2.2.1≤9223372036854775807))) fun y1=>jc (Je (decide (List.length (Z9 [115,105,122,101,40]++n.hQ.2.2.1)+List.length (Z9 [41])≤9223372036854775807))) fun y2=>some (Z9 [115,105,122,101,40]++n.hQ.2.2.1++Z9 [41],())) (br (n.hQ.1==23) (jc (JM (Rose.mk (n.hQ.1,n.hQ.2.1,n.hQ.2.2.1,n.hQ.2.2.2) n.kQ) (0:Int)) fun y3=>jc (jC.qj (y3,(4:Int),())) fun y4=>jc (Je (decide (List.length (Z9 [45])+List.length y4.1≤9223372036854775807))) fun y5=>jc (Vj (Z9 [45]++y4.1) (4:Int) must) fun y6=>some (y6,())) (br (n.hQ.1==24) (jc (Jz n.hQ.2.2.1) fun y7=>jc (jC.cM_ y7 y7 (i64.wrap (y7+1)) some) fun y8=>jc (jC.c18 must y7 y8.1 y8.2 n.hQ.1 n.hQ.2.1 n.hQ.2.2.1 n.hQ.2.2.2 n.kQ some) fun y9=>some (y9,())) (some (Z9 [],()))))))
def jC.mc:xj:=⟨90,jC.pre,⟨[(0,cL)],[]⟩,fun X=>jC X.1 X.2.1⟩
def jC.G:EB Zh:=⟨tb,Tryz.f90,[⟨113,strconv_Itoa.ce,strconv_Itoa.ok⟩,⟨89,JM.ce,JM.ok⟩,⟨114,Vj.ce,Vj.ok⟩,⟨61,Jz.ce,Jz.ok⟩],[0,1,2,4,5,6,7,9,10,15,19,25,33,41,42,44],[],[(18,[])],[(18,jC.c18r.ck),(253260,jC.cM_r.ck)],[⟨90,jC.qj.mc,jC.qj.ok⟩],[]⟩
def jC.ok:MOk Zh 90 jC.mc:=Ub jC.G (mc:=jC.mc) Tryz.func90 (m:=2) ⟨⟨trivial,kJ jC.cM_r⟩,kR jC.c18r⟩
end
@[reducible] def jC.fuel:Nat→jC.Self
  | 0=>⟨fun _=>none,⟨⟨Tryz.f90,Tryz.func90,by kernel_rfl,by kernel_rfl⟩,fun _ _ _ _ _ _ _ hy=>by cases hy⟩⟩
  | n+1=>⟨fun X=>(@jC.mc (jC.fuel n)).F X,@jC.ok (jC.fuel n)⟩
def kN (X:jq jC.qj.pre.tys):Option (jq jC.qj.post.tys):=(jC.fuel (1000000)).F X
def kN.mc:xj:=⟨90,jC.qj.pre,jC.qj.post,fun X=>kN X⟩
def kN.ok:MOk Zh 90 kN.mc:=rR (F:=fun n=>(jC.fuel n).F) (fun n=>(jC.fuel n).ok) (fun X=>1000000)
def kf.c3 (n0:Int)(n1:Int)(n2:Za)(n3:Int)(n4:Ze)(Z:Za→Option ρ):Option ρ:= jc (Je (decide (n2.length+List.length (Z9 [91])≤9223372036854775807))) fun y=>jc (JM (Rose.mk (n0,n1,n2,n3) n4) (0:Int)) fun y1=>jc (kN (y1,(1:Int),())) fun y2=>jc (Je (decide (List.length (n2++Z9 [91])+List.length y2.1≤9223372036854775807))) fun y3=>jc (Je (decide (List.length (n2++Z9 [91]++y2.1)+List.length (Z9 [93])≤9223372036854775807))) fun y4=>Z (n2++Z9 [91]++y2.1++Z9 [93])
def kf.c3s:Sj:=⟨[(0,VM),(1,tg45),(2,cL),(4,iI)],[(1,VQ)]⟩
def kf.c3r:RC:=⟨kf.c3s,[(kf.c3s,0,[1,201])],no,[3,4,5,6,7],@kf.c3,fun _ _ _ _ _ _ _=>jb fun _=>(jb fun _=>(jb fun _=>(jb fun _=>(jb fun _=>ja))))⟩
def kf.c5 (n0:Int)(n1:Int)(n2:Za)(n3:Int)(n4:Ze)(Z:Za→Option ρ):Option ρ:= jc (Je (decide (n2.length+List.length (Z9 [91])≤9223372036854775807))) fun y=>jc (JM (Rose.mk (n0,n1,n2,n3) n4) (0:Int)) fun y1=>jc (kN (y1,(1:Int),())) fun y2=>jc (Je (decide (List.length (n2++Z9 [91])+List.length y2.1≤9223372036854775807))) fun y3=>jc (Je (decide (List.length (n2++Z9 [91]++y2.1)+List.length (Z9 [32,46,46,32])≤9223372036854775807))) fun y4=>jc (JM (Rose.mk (n0,n1,n2,n3) n4) (1:Int)) fun y5=>jc (kN (y5,(1:Int),())) fun y6=>jc (Je (decide (List.length (n2++Z9 [91]++y2.1++Z9 [32,46,46,32])+List.length y6.1≤9223372036854775807))) fun y7=>jc (Je (decide (List.length (n2++Z9 [91]++y2.1++Z9 [32,46,46,32]++y6.1)+List.length (Z9 [93])≤9223372036854775807))) fun y8=>Z (n2++Z9 [91]++y2.1++Z9 [32,46,46,32]++y6.1++Z9 [93])
def kf.c5r:RC:=⟨kf.c3s,[(kf.c3s,0,[1,201])],no,[3,4,5,6,7],@kf.c5,fun _ _ _ _ _ _ _=>jb fun _=>(jb fun _=>(jb fun _=>(jb fun _=>(jb fun _=>(jb fun _=>(jb fun _=>(jb fun _=>(jb fun _=>ja))))))))⟩
def kf (n:Zd):Option Za:= br (n.hQ.2.2.2==1) (jc (kf.c3 n.hQ.1 n.hQ.2.1 n.hQ.2.2.1 n.hQ.2.2.2 n.kQ some) fun y=>some y) (br (n.hQ.2.2.2==2) (jc (kf.c5 n.hQ.1 n.hQ.2.1 n.hQ.2.2.1 n.hQ.2.2.2 n.kQ some) fun y1=>some y1) (some n.hQ.2.2.1))
def kf.ce:=Vt tab Tryz.f95 kf
def kf.G:EB Zh:=⟨tb,Tryz.f95,[⟨89,JM.ce,JM.ok⟩],[0,1,2,4,5,15],[],[(5,[]),(3,[])],[(5,kf.c5r.ck),(3,kf.c3r.ck)],[⟨90,kN.mc,kN.ok⟩],[]⟩
def kf.ok:vj Zh 95 kf.ce:=Uj kf.G Tryz.func95 (m:=2) ⟨⟨trivial,kR kf.c3r⟩,kR kf.c5r⟩
abbrev RB:SD:=.one (.ref 1000110 0)
abbrev RD:SD:=.one (.ref 1000120 0)
abbrev D9:SO:=.box [.val (.int .i64)]
def Jw.qj.pre:Sj:=⟨[(0,VM),(1,iI)],[]⟩
def Jw.qj.post:Sj:=⟨[(0,cL)],[]⟩
def Jp.qj.pre:Sj:=⟨[(0,cL),(1,iI),(2,RB),(3,RD)],[(1000110,VQ),(1000120,D9)]⟩
def Jp.qj.post:Sj:=⟨[(0,cL)],[(1000110,VQ),(1000120,D9)]⟩
class Vp.Self where
  F_tongue_truth_b:jq Jw.qj.pre.tys→Option (jq Jw.qj.post.tys)
  ok_tongue_truth_b:MOk Zh 96 ⟨96,Jw.qj.pre,Jw.qj.post,F_tongue_truth_b⟩
  F_tongue_truth_1_b:jq Jp.qj.pre.tys→Option (jq Jp.qj.post.tys)
  ok_tongue_truth_1_b:MOk Zh 119 ⟨119,Jp.qj.pre,Jp.qj.post,F_tongue_truth_1_b⟩
section
variable [Vp.Self]
def Jw.qj (X:jq Jw.qj.pre.tys):Option (jq Jw.qj.post.tys):=Vp.Self.F_tongue_truth_b X
def Jw.qj.mc:xj:=⟨96,Jw.qj.pre,Jw.qj.post,fun X=>Jw.qj X⟩
def Jw.qj.ok:MOk Zh 96 Jw.qj.mc:=Vp.Self.ok_tongue_truth_b
def Jp.qj (X:jq Jp.qj.pre.tys):Option (jq Jp.qj.post.tys):=Vp.Self.F_tongue_truth_1_b X
def Jp.qj.mc:xj:=⟨119,Jp.qj.pre,Jp.qj.post,fun X=>Jp.qj X⟩
def Jp.qj.ok:MOk Zh 119 Jp.qj.mc:=Vp.Self.ok_tongue_truth_1_b
def Jw (n:Zd) (must:Int):Option (Za×Unit):= br (n.hQ.1==29) (jc (Jp.qj (Z9 [124],(1:Int),n.hQ.1,n.hQ.2.1,n.hQ.2.2.1,n.hQ.2.2.2,Rose.kQ n,must,())) fun y=>some (y.1,())) (br (n.hQ.1==30) (jc (Jp.qj (Z9 [94],(2:Int),n.hQ.1,n.hQ.2.1,n.hQ.2.2.1,n.hQ.2.2.2,Rose.kQ n,must,())) fun y1=>some (y1.1,())) (br (n.hQ.1==28) (jc (Jp.qj (Z9 [38],(3:Int),n.hQ.1,n.hQ.2.1,n.hQ.2.2.1,n.hQ.2.2.2,Rose.kQ n,must,())) fun y2=>some (y2.1,())) (br (n.hQ.1==27) (jc (JM (Rose.mk (n.hQ.1,n.hQ.2.1,n.hQ.2.2.1,n.hQ.2.2.2) n.kQ) (0:Int)) fun y3=>jc (Jw.qj (y3,(4:Int),())) fun y4=>jc (Je (decide (List.length (Z9 [33])+List.length y4.1≤9223372036854775807))) fun y5=>some (Z9 [33]++y4.1,())) (br (n.hQ.1==26) (jc (strconv_Itoa n.hQ.2.2.2) fun y6=>some (y6,())) (jc (kf (Rose.mk (n.hQ.1,n.hQ.2.1,n.hQ.2.2.1,n.hQ.2.2.2) n.kQ)) fun y7=>some (y7,()))))))
def Jw.mc:xj:=⟨96,⟨[(0,VM),(1,iI)],[]⟩,⟨[(0,cL)],[]⟩,fun X=>Jw X.1 X.2.1⟩
def Jw.G:EB Zh:=⟨tb,Tryz.f96,[⟨89,JM.ce,JM.ok⟩,⟨113,strconv_Itoa.ce,strconv_Itoa.ok⟩,⟨95,kf.ce,kf.ok⟩],[0,1,2,3,4,5,8,9,13,17,21,27],[],[],[],[⟨96,Jw.qj.mc,Jw.qj.ok⟩,⟨119,Jp.qj.mc,Jp.qj.ok⟩],[]⟩
def Jw.ok:MOk Zh 96 Jw.mc:=Ub Jw.G (mc:=Jw.mc) Tryz.func96 (m:=0) trivial
def Jp.pre:Sj:=⟨[(0,cL),(1,iI),(2,RB),(3,RD)],[(1000110,VQ),(1000120,D9)]⟩
def Jp.c1 {ρ:Type} (word:Za)(r:Int)(ua:Int)(ub:Int)(uc:Za)(ud:Int)(ue:Ze)(uf:Int)(Z:Za→Option ρ):Option ρ:= jc (JM (Rose.mk (ua,ub,uc,ud) ue) (0:Int)) fun y=>jc (Jw.qj (y,r,())) fun y1=>jc (Je (decide (List.length y1.1+List.length (Z9 [32])≤9223372036854775807))) fun y2=>jc (Je (decide (List.length (y1.1++Z9 [32])+word.length≤9223372036854775807))) fun y3=>jc (Je (decide (List.length (y1.1++Z9 [32]++word)+List.length (Z9 [32])≤9223372036854775807))) fun y4=>jc (JM (Rose.mk (ua,ub,uc,ud) ue) (1:Int)) fun y5=>jc (Jw.qj (y5,i64.wrap (r+1),())) fun y6=>jc (Je (decide (List.length (y1.1++Z9 [32]++word++Z9 [32])+List.length y6.1≤9223372036854775807))) fun y7=>jc (Vj (y1.1++Z9 [32]++word++Z9 [32]++y6.1) r uf) fun y8=>Z y8
def Jp.c1s:Sj:=(Jp.pre.s 6 cL)
def Jp.c1r:RC:=⟨Jp.c1s,[(Jp.c1s,0,[2,201])],no,[0,1,3,4,5,6,7,8],fun _=>Jp.c1,fun _ _ _ _ _ _ _ _ _ _=>jb fun _=>(jb fun _=>(jb fun _=>(jb fun _=>(jb fun _=>(jb fun _=>(jb fun _=>(jb fun _=>(jb fun _=>ja))))))))⟩
def Jp (word:Za) (r:Int) (ua:Int) (ub:Int) (uc:Za) (ud:Int) (ue:Ze) (uf:Int):Option (Za×Int×Int×Za×Int×Ze×Int×Unit):= jc (Jp.c1 word r ua ub uc ud ue uf some) fun y=>some (y,ua,ub,uc,ud,ue,uf,())
def Jp.mc:xj:=⟨119,Jp.pre,⟨[(0,cL)],[(1000110,VQ),(1000120,D9)]⟩,fun X=>Jp X.1 X.2.1 X.2.2.1 X.2.2.2.1 (q4 X).1 (q4 X).2.1 (q4 X).2.2.1 (q4 X).2.2.2.1⟩
def Jp.G:EB Zh:=⟨tb,Tryz.f119,[⟨89,JM.ce,JM.ok⟩,⟨114,Vj.ce,Vj.ok⟩],[0,1,2,3,6],[],[(1,[])],[(1,Jp.c1r.ck)],[⟨96,Jw.qj.mc,Jw.qj.ok⟩],[]⟩
def Jp.ok:MOk Zh 119 Jp.mc:=Ub Jp.G (mc:=Jp.mc) Tryz.func119 (m:=1) ⟨trivial,kR Jp.c1r⟩
end
@[reducible] def Vp.fuel:Nat→Vp.Self
  | 0=>{ F_tongue_truth_b:=fun _=>none,ok_tongue_truth_b:=⟨⟨Tryz.f96,Tryz.func96,by kernel_rfl,by kernel_rfl⟩,fun _ _ _ _ _ _ _ hy=>by cases hy⟩,F_tongue_truth_1_b:=fun _=>none,ok_tongue_truth_1_b:=⟨⟨Tryz.f119,Tryz.func119,by kernel_rfl,by kernel_rfl⟩,fun _ _ _ _ _ _ _ hy=>by cases hy⟩ }
  | n+1=>{ F_tongue_truth_b:=fun X=>(@Jw.mc (Vp.fuel n)).F X,ok_tongue_truth_b:=@Jw.ok (Vp.fuel n),F_tongue_truth_1_b:=fun X=>(@Jp.mc (Vp.fuel n)).F X,ok_tongue_truth_1_b:=@Jp.ok (Vp.fuel n) }
def UN (X:jq Jw.qj.pre.tys):Option (jq Jw.qj.post.tys):=(Vp.fuel (1000000)).F_tongue_truth_b X
def UN.mc:xj:=⟨96,Jw.qj.pre,Jw.qj.post,fun X=>UN X⟩
def UN.ok:MOk Zh 96 UN.mc:=(Vp.fuel (1000000)).ok_tongue_truth_b
end
end W
end

section
set_option maxHeartbeats 4000000
set_option maxRecDepth 100000
namespace W
open Go Go.Ql Go.Proofs Go.IntKind
noncomputable section
variable {ρ:Type}
abbrev NS:SO:=.box [.selfp 1000100 61,.own 1000101 0,.val (.int .i64)]
abbrev NL:SO:=.arr 0 false 5 (.int .u8)
abbrev tj5:SD:=.one (.val (.nilv 1))
def kh (s:Za) (ua:Int) (ub:Zg):Option (Int×Unit×Zg×Int×Unit):= jc (kU ua ub) fun y=>jc (Je (decide (List.length y.1+s.length≤140737488355328))) fun y1=>some ((s.length:Int),(),y.1++List.map (fun b↦(↑(UInt8.toNat b):Int)) s,y.2.1,())
def kh.mc:xj:=⟨84,⟨[(0,VP),(1,cL)],[(1000100,NS),(1000101,NL)]⟩,⟨[(0,iI),(1,tj5)],[(1000101,NL),(1000100,NS)]⟩,fun X=>kh X.1 X.2.1 X.2.2.1⟩
def kh.G:EB Zh:=⟨tb,Tryz.f84,[],[0,1,4,5],[1000100,1000101],[],[],[⟨108,kU.mc,kU.ok⟩],[]⟩
def kh.ok:MOk Zh 84 kh.mc:=Ub kh.G (mc:=kh.mc) Tryz.func84 (m:=0) trivial
def jF.pre:Sj:=⟨[(0,VP),(1,G5)],[(1000100,NS),(1000101,NL)]⟩
def jF.cD_ (t6:List Za)(t7:Int)(t8:Int)(ua:Int)(ub:Zg)(Z:(Int×Int×Zg)⊕(Int×Int×Zg)→Option ρ):Option ρ:= br (decide (t8<t7)) (jc (idx t6 t8) fun y=>jc (kh y ua ub) fun y1=>Z (.inl ((i64.wrap (t8+1)),y1.2.2.2.1,y1.2.2.1))) (Z (.inr (t8,ua,ub)))
def jF.cD_s:Sj:=(((jF.pre.s 6 G5).s 7 iI).s 8 iI)
def jF.cD_r:LC:=⟨jF.cD_s,[(jF.cD_s,2,[3,203])],no,[3,4,5],[1,2,3,4,5],@jF.cD_,fun _ _ _ _ _ _ _=>jt (jb fun _=>(jb fun _=>ja)) ja⟩
def jF (ws:List Za) (ua:Int) (ub:Zg):Option (Zg×Int×Unit):= jc (iter (fun s↦jF.cD_ ws (ws.length:Int) s.1 s.2.1 s.2.2 some) ((0:Int),ua,ub)) fun y=>some (y.2.2,y.2.1,())
def jF.mc:xj:=⟨42,jF.pre,⟨[],[(1000101,NL),(1000100,NS)]⟩,fun X=>jF X.1 X.2.1 X.2.2.1⟩
def jF.G:EB Zh:=⟨tb,Tryz.f42,[],[0,1,5,6,7,8,9],[1000100,1000101],[],[(100001,jF.cD_r.ck)],[⟨84,kh.mc,kh.ok⟩],[]⟩
def jF.ok:MOk Zh 42 jF.mc:=Ub jF.G (mc:=jF.mc) Tryz.func42 (m:=1) ⟨trivial,kL jF.cD_r⟩
def Vz (n:Zd):Option Za:= jc (kN (Rose.mk (n.hQ.1,n.hQ.2.1,n.hQ.2.2.1,n.hQ.2.2.2) n.kQ,(1:Int),())) fun y=>some y.1
def Vz.ce:=Vt tab Tryz.f118 Vz
def Vz.G:EB Zh:=⟨tb,Tryz.f118,[],[0,1,2],[],[],[],[⟨90,kN.mc,kN.ok⟩],[]⟩
def Vz.ok:vj Zh 118 Vz.ce:=Uj Vz.G Tryz.func118 (m:=0) trivial
abbrev tj8:SD:=.one (.fn 118)
def JH.pre:Sj:=⟨[(0,VM),(1,tj8)],[]⟩
def JH.cb_ (t9:Ze)(t10:Int)(t11:Int)(l:List Za)(Z:(Int×(List Za))⊕(Int×(List Za))→Option ρ):Option ρ:= br (decide (t11<t10)) (jc (idx t9 t11) fun y=>jc (Vz (Rose.mk (y.hQ.1,y.hQ.2.1,y.hQ.2.2.1,y.hQ.2.2.2) y.kQ)) fun y1=>jc (Je (decide ((l.length+1)*16≤140737488355328)&&decide (l.length+1≤140737488355328))) fun y2=>Z (.inl ((i64.wrap (t11+1)),(l++[y1])))) (Z (.inr (t11,l)))
def JH.cb_s:Sj:=((((((((JH.pre.s 2 rF).s 4 cL).s 5 tg35).s 9 dX).s 10 iI).s 11 iI).o 2 VQ).o 5 D8)
def JH.cb_r:LC:=⟨JH.cb_s,[(JH.cb_s,2,[4,201,5,201])],no,[4,10],[2,3,4,10],@JH.cb_,fun _ _ _ _ _ _=>jt (jb fun _=>(jb fun _=>(jb fun _=>ja))) ja⟩
def JH (n:Zd):Option (Za×Unit):= jc (iter (fun s↦JH.cb_ n.kQ (↑(List.length n.kQ):Int) s.1 s.2 some) ((0:Int),[])) fun y=>jc (strings_Join y.2 (Z9 [44,32])) fun y1=>some (y1,())
def JH.mc:xj:=⟨115,JH.pre,⟨[(0,cL)],[]⟩,fun X=>JH X.1⟩
def JH.G:EB Zh:=⟨tb,Tryz.f115,[⟨130,strings_Join.ce,strings_Join.ok⟩,⟨118,Vz.ce,Vz.ok⟩],[0,1,2,4,5,7,9,10,11,12],[5],[],[(100003,JH.cb_r.ck)],[],[]⟩
def JH.ok:MOk Zh 115 JH.mc:=Ub JH.G (mc:=JH.mc) Tryz.func115 (m:=1) ⟨trivial,kL JH.cb_r⟩
abbrev tj14:SD:=.one (.fn 95)
def JI.pre:Sj:=⟨[(0,VM),(1,tj14)],[]⟩
def JI.cb_ (t9:Ze)(t10:Int)(t11:Int)(l:List Za)(Z:(Int×(List Za))⊕(Int×(List Za))→Option ρ):Option ρ:= br (decide (t11<t10)) (jc (idx t9 t11) fun y=>jc (kf (Rose.mk (y.hQ.1,y.hQ.2.1,y.hQ.2.2.1,y.hQ.2.2.2) y.kQ)) fun y1=>jc (Je (decide ((l.length+1)*16≤140737488355328)&&decide (l.length+1≤140737488355328))) fun y2=>Z (.inl ((i64.wrap (t11+1)),(l++[y1])))) (Z (.inr (t11,l)))
def JI.cb_s:Sj:=((((((((JI.pre.s 2 rF).s 4 cL).s 5 tg35).s 9 dX).s 10 iI).s 11 iI).o 2 VQ).o 5 D8)
def JI.cb_r:LC:=⟨JI.cb_s,[(JI.cb_s,2,[4,201,5,201])],no,[4,10],[2,3,4,10],@JI.cb_,fun _ _ _ _ _ _=>jt (jb fun _=>(jb fun _=>(jb fun _=>ja))) ja⟩
def JI (n:Zd):Option (Za×Unit):= jc (iter (fun s↦JI.cb_ n.kQ (↑(List.length n.kQ):Int) s.1 s.2 some) ((0:Int),[])) fun y=>jc (strings_Join y.2 (Z9 [44,32])) fun y1=>some (y1,())
def JI.mc:xj:=⟨115,JI.pre,⟨[(0,cL)],[]⟩,fun X=>JI X.1⟩
def JI.G:EB Zh:=⟨tb,Tryz.f115,[⟨130,strings_Join.ce,strings_Join.ok⟩,⟨95,kf.ce,kf.ok⟩],[0,1,2,4,5,7,9,10,11,12],[5],[],[(100003,JI.cb_r.ck)],[],[]⟩
def JI.ok:MOk Zh 115 JI.mc:=Ub JI.G (mc:=JI.mc) Tryz.func115 (m:=1) ⟨trivial,kL JI.cb_r⟩
def jJ.pre:Sj:=⟨[(0,VP),(1,VM)],[(1000100,NS),(1000101,NL)]⟩
def jJ.cr_ (t8:Ze)(t10:Int)(ua:Int)(ub:Zg)(Z:Int×Bool×Int×Zg→Option ρ):Option ρ:= jc (idx t8 t10) fun y=>br (y.hQ.1==9) (jc (jF [Z9 [105,110,118,32,64,32]] ua ub) fun y1=>Z (y.hQ.1,(y.hQ.1==9),y1.2.1,y1.1)) (br (y.hQ.1==10) (jc (jF [Z9 [99,116,114,108,32,64,32]] ua ub) fun y2=>Z (y.hQ.1,(y.hQ.1==9),y2.2.1,y2.1)) (jc (JM (Rose.mk (y.hQ.1,y.hQ.2.1,y.hQ.2.2.1,y.hQ.2.2.2) y.kQ) (0:Int)) fun y3=>jc (kN (y3,(1:Int),())) fun y4=>jc (jF [Z9 [112,111,119,40],y4.1,Z9 [41,32,64,32]] ua ub) fun y5=>Z (y.hQ.1,(y.hQ.1==9),y5.2.1,y5.1)))
def jJ.cr_s:Sj:=(((((jJ.pre.s 3 fV).s 8 dX).s 9 iI).s 10 iI).o 3 VQ)
def jJ.cr_r:RC:=⟨jJ.cr_s,[((((jJ.cr_s.s 5 uZ).s 15 iI).s 22 Nj),0,[4,102,5,202])],no,[1,3,9,10],@jJ.cr_,fun _ _ _ _ _ _=>jb fun _=>(jt (jb fun _=>ja) (jt (jb fun _=>ja) (jb fun _=>(jb fun _=>(jb fun _=>ja)))))⟩
def jJ.ca_ (t8:Ze)(t9:Int)(t10:Int)(ua:Int)(ub:Zg)(Z:(Int×Int×Zg)⊕(Int×Int×Zg)→Option ρ):Option ρ:= br (decide (t10<t9)) (jc (jJ.cr_ t8 t10 ua ub some) fun y=>Z (.inl ((i64.wrap (t10+1)),y.2.2.1,y.2.2.2))) (Z (.inr (t10,ua,ub)))
def jJ.ca_r:LC:=⟨jJ.cr_s,[(jJ.cr_s,2,[3,201,5,202])],no,[3,9,10],[1,2,3,9,10],@jJ.ca_,fun _ _ _ _ _ _ _=>jt (jb fun _=>ja) ja⟩
def jJ.cab_ (n0:Int)(n1:Int)(n2:Za)(n3:Int)(n4:Ze)(ua:Int)(ub:Zg)(Z:Int×Zg→Option ρ):Option ρ:= jc (JM (Rose.mk (n0,n1,n2,n3) n4) (1:Int)) fun y=>br (decide ((↑(List.length y.kQ):Int)>0)) (jc (JM (Rose.mk (n0,n1,n2,n3) n4) (1:Int)) fun y1=>jc (JH y1) fun y2=>jc (jF [Z9 [40],y2.1,Z9 [41]] ua ub) fun y3=>Z (y3.2.1,y3.1)) (Z (ua,ub))
def jJ.cab_r:RC:=⟨jJ.cr_s,[(jJ.cr_s,0,[9,202])],no,[4,5,6,7,8,9,10],@jJ.cab_,fun _ _ _ _ _ _ _ _ _=>jb fun _=>(jt (jb fun _=>(jb fun _=>(jb fun _=>ja))) ja)⟩
def jJ.cs_ (n0:Int)(n1:Int)(n2:Za)(n3:Int)(n4:Ze)(ua:Int)(ub:Zg)(Z:Int×Zg→Option ρ):Option ρ:= jc (JM (Rose.mk (n0,n1,n2,n3) n4) (2:Int)) fun y=>br (decide ((↑(List.length y.kQ):Int)>0)) (jc (JM (Rose.mk (n0,n1,n2,n3) n4) (2:Int)) fun y1=>jc (JI y1) fun y2=>jc (jF [Z9 [32],y2.1] ua ub) fun y3=>Z (y3.2.1,y3.1)) (Z (ua,ub))
def jJ.cs_r:RC:=⟨jJ.cr_s,[(jJ.cr_s,0,[9,202])],no,[4,5,6,7,8,9,10],@jJ.cs_,fun _ _ _ _ _ _ _ _ _=>jb fun _=>(jt (jb fun _=>(jb fun _=>(jb fun _=>ja))) ja)⟩
def jJ (n:Zd) (ua:Int) (ub:Zg):Option (Zg×Int×Unit):= jc (JM (Rose.mk (n.hQ.1,n.hQ.2.1,n.hQ.2.2.1,n.hQ.2.2.2) n.kQ) (0:Int)) fun y=>jc (iter (fun s↦jJ.ca_ y.kQ (↑(List.length y.kQ):Int) s.1 s.2.1 s.2.2 some) ((0:Int),ua,ub)) fun y1=>jc (jF [n.hQ.2.2.1] y1.2.1 y1.2.2) fun y2=>jc (jJ.cab_ n.hQ.1 n.hQ.2.1 n.hQ.2.2.1 n.hQ.2.2.2 n.kQ y2.2.1 y2.1 some) fun y3=>jc (jJ.cs_ n.hQ.1 n.hQ.2.1 n.hQ.2.2.1 n.hQ.2.2.2 n.kQ y3.1 y3.2 some) fun y4=>jc (jF [Z9 [59]] y4.1 y4.2) fun y5=>some (y5.1,y5.2.1,())
def jJ.mc:xj:=⟨92,jJ.pre,⟨[],[(1000101,NL),(1000100,NS)]⟩,fun X=>jJ X.1 X.2.1 X.2.2.1⟩
def jJ.G:EB Zh:=⟨tb,Tryz.f92,[⟨89,JM.ce,JM.ok⟩],[0,1,3,5,8,9,10,11,15,22,27,42,53],[1000100,1000101,1002123030005,1002123030015,1002123030022,2000000000005,2000000000015,2000000000022],[],[(257349,jJ.cs_r.ck),(249157,jJ.cab_r.ck),(100002,jJ.ca_r.ck),(212303,jJ.cr_r.ck)],[⟨42,jF.mc,jF.ok⟩,⟨90,kN.mc,kN.ok⟩,⟨115,JH.mc,JH.ok⟩,⟨1000057,JI.mc,JI.ok⟩],[]⟩
def jJ.ok:MOk Zh 92 jJ.mc:=Ub jJ.G (mc:=jJ.mc) Tryz.func92 (m:=4) ⟨⟨⟨⟨trivial,kL jJ.ca_r⟩,kJ jJ.cr_r⟩,kJ jJ.cab_r⟩,kJ jJ.cs_r⟩
def YK (t0:Zd):Option Za:= some t0.hQ.2.2.1
def YK.ce:=Vt tab Tryz.f116 YK
def YK.G:EB Zh:=⟨tb,Tryz.f116,[],[0,1,2],[],[],[],[],[]⟩
def YK.ok:vj Zh 116 YK.ce:=Uj YK.G Tryz.func116 (m:=0) trivial
abbrev tj18:SD:=.one (.fn 116)
def JP.pre:Sj:=⟨[(0,VM),(1,tj18)],[]⟩
def JP.cb_ (t9:Ze)(t10:Int)(t11:Int)(l:List Za)(Z:(Int×(List Za))⊕(Int×(List Za))→Option ρ):Option ρ:= br (decide (t11<t10)) (jc (idx t9 t11) fun y=>jc (YK (Rose.mk (y.hQ.1,y.hQ.2.1,y.hQ.2.2.1,y.hQ.2.2.2) y.kQ)) fun y1=>jc (Je (decide ((l.length+1)*16≤140737488355328)&&decide (l.length+1≤140737488355328))) fun y2=>Z (.inl ((i64.wrap (t11+1)),(l++[y1])))) (Z (.inr (t11,l)))
def JP.cb_s:Sj:=((((((((JP.pre.s 2 rF).s 4 cL).s 5 tg35).s 9 dX).s 10 iI).s 11 iI).o 2 VQ).o 5 D8)
def JP.cb_r:LC:=⟨JP.cb_s,[(JP.cb_s,2,[4,201,5,201])],no,[4,10],[2,3,4,10],@JP.cb_,fun _ _ _ _ _ _=>jt (jb fun _=>(jb fun _=>(jb fun _=>ja))) ja⟩
def JP (n:Zd):Option (Za×Unit):= jc (iter (fun s↦JP.cb_ n.kQ (↑(List.length n.kQ):Int) s.1 s.2 some) ((0:Int),[])) fun y=>jc (strings_Join y.2 (Z9 [44,32])) fun y1=>some (y1,())
def JP.mc:xj:=⟨115,JP.pre,⟨[(0,cL)],[]⟩,fun X=>JP X.1⟩
def JP.G:EB Zh:=⟨tb,Tryz.f115,[⟨130,strings_Join.ce,strings_Join.ok⟩,⟨116,YK.ce,YK.ok⟩],[0,1,2,4,5,7,9,10,11,12],[5],[],[(100003,JP.cb_r.ck)],[],[]⟩
def JP.ok:MOk Zh 115 JP.mc:=Ub JP.G (mc:=JP.mc) Tryz.func115 (m:=1) ⟨trivial,kL JP.cb_r⟩
def YB (t0:Zd):Option Za:= br (t0.hQ.2.2.2==1) (jc (Je (decide (List.length t0.hQ.2.2.1+List.length (Z9 [91,93])≤9223372036854775807))) fun y=>some (t0.hQ.2.2.1++Z9 [91,93])) (some t0.hQ.2.2.1)
def YB.ce:=Vt tab Tryz.f117 YB
def YB.G:EB Zh:=⟨tb,Tryz.f117,[],[0,1,2,5],[],[],[],[],[]⟩
def YB.ok:vj Zh 117 YB.ce:=Uj YB.G Tryz.func117 (m:=0) trivial
abbrev tj19:SD:=.one (.fn 117)
def JQ.pre:Sj:=⟨[(0,VM),(1,tj19)],[]⟩
def JQ.cb_ (t9:Ze)(t10:Int)(t11:Int)(l:List Za)(Z:(Int×(List Za))⊕(Int×(List Za))→Option ρ):Option ρ:= br (decide (t11<t10)) (jc (idx t9 t11) fun y=>jc (YB (Rose.mk (y.hQ.1,y.hQ.2.1,y.hQ.2.2.1,y.hQ.2.2.2) y.kQ)) fun y1=>jc (Je (decide ((l.length+1)*16≤140737488355328)&&decide (l.length+1≤140737488355328))) fun y2=>Z (.inl ((i64.wrap (t11+1)),(l++[y1])))) (Z (.inr (t11,l)))
def JQ.cb_s:Sj:=((((((((JQ.pre.s 2 rF).s 4 cL).s 5 tg35).s 9 dX).s 10 iI).s 11 iI).o 2 VQ).o 5 D8)
def JQ.cb_r:LC:=⟨JQ.cb_s,[(JQ.cb_s,2,[4,201,5,201])],no,[4,10],[2,3,4,10],@JQ.cb_,fun _ _ _ _ _ _=>jt (jb fun _=>(jb fun _=>(jb fun _=>ja))) ja⟩
def JQ (n:Zd):Option (Za×Unit):= jc (iter (fun s↦JQ.cb_ n.kQ (↑(List.length n.kQ):Int) s.1 s.2 some) ((0:Int),[])) fun y=>jc (strings_Join y.2 (Z9 [44,32])) fun y1=>some (y1,())
def JQ.mc:xj:=⟨115,JQ.pre,⟨[(0,cL)],[]⟩,fun X=>JQ X.1⟩
def JQ.G:EB Zh:=⟨tb,Tryz.f115,[⟨130,strings_Join.ce,strings_Join.ok⟩,⟨117,YB.ce,YB.ok⟩],[0,1,2,4,5,7,9,10,11,12],[5],[],[(100003,JQ.cb_r.ck)],[],[]⟩
def JQ.ok:MOk Zh 115 JQ.mc:=Ub JQ.G (mc:=JQ.mc) Tryz.func115 (m:=1) ⟨trivial,kL JQ.cb_r⟩
def Jm.qj.pre:Sj:=⟨[(0,VP),(1,VM)],[(1000100,NS),(1000101,NL)]⟩
def Jm.qj.post:Sj:=⟨[],[(1000101,NL),(1000100,NS)]⟩
def jd.qj.pre:Sj:=⟨[(0,VP),(1,VM)],[(1000100,NS),(1000101,NL)]⟩
def jd.qj.post:Sj:=⟨[],[(1000101,NL),(1000100,NS)]⟩
def jI.qj.pre:Sj:=⟨[(0,VP),(1,VM)],[(1000100,NS),(1000101,NL)]⟩
def jI.qj.post:Sj:=⟨[],[(1000101,NL),(1000100,NS)]⟩
def jP.qj.pre:Sj:=⟨[(0,VP),(1,VM)],[(1000100,NS),(1000101,NL)]⟩
def jP.qj.post:Sj:=⟨[],[(1000101,NL),(1000100,NS)]⟩
def jV.qj.pre:Sj:=⟨[(0,VP),(1,VM)],[(1000100,NS),(1000101,NL)]⟩
def jV.qj.post:Sj:=⟨[],[(1000101,NL),(1000100,NS)]⟩
class ko.Self where
  F_tongue_printer_line_b:jq Jm.qj.pre.tys→Option (jq Jm.qj.post.tys)
  ok_tongue_printer_line_b:MOk Zh 21 ⟨21,Jm.qj.pre,Jm.qj.post,F_tongue_printer_line_b⟩
  F_tongue_printer_statement_b:jq jd.qj.pre.tys→Option (jq jd.qj.post.tys)
  ok_tongue_printer_statement_b:MOk Zh 44 ⟨44,jd.qj.pre,jd.qj.post,F_tongue_printer_statement_b⟩
  F_tongue_printer_block_b:jq jI.qj.pre.tys→Option (jq jI.qj.post.tys)
  ok_tongue_printer_block_b:MOk Zh 93 ⟨93,jI.qj.pre,jI.qj.post,F_tongue_printer_block_b⟩
  F_tongue_printer_choice_b:jq jP.qj.pre.tys→Option (jq jP.qj.post.tys)
  ok_tongue_printer_choice_b:MOk Zh 94 ⟨94,jP.qj.pre,jP.qj.post,F_tongue_printer_choice_b⟩
  F_tongue_printer_gate_b:jq jV.qj.pre.tys→Option (jq jV.qj.post.tys)
  ok_tongue_printer_gate_b:MOk Zh 91 ⟨91,jV.qj.pre,jV.qj.post,F_tongue_printer_gate_b⟩
section
variable [ko.Self]
def Jm.qj (X:jq Jm.qj.pre.tys):Option (jq Jm.qj.post.tys):=ko.Self.F_tongue_printer_line_b X
def Jm.qj.mc:xj:=⟨21,Jm.qj.pre,Jm.qj.post,fun X=>Jm.qj X⟩
def Jm.qj.ok:MOk Zh 21 Jm.qj.mc:=ko.Self.ok_tongue_printer_line_b
def jd.qj (X:jq jd.qj.pre.tys):Option (jq jd.qj.post.tys):=ko.Self.F_tongue_printer_statement_b X
def jd.qj.mc:xj:=⟨44,jd.qj.pre,jd.qj.post,fun X=>jd.qj X⟩
def jd.qj.ok:MOk Zh 44 jd.qj.mc:=ko.Self.ok_tongue_printer_statement_b
def jI.qj (X:jq jI.qj.pre.tys):Option (jq jI.qj.post.tys):=ko.Self.F_tongue_printer_block_b X
def jI.qj.mc:xj:=⟨93,jI.qj.pre,jI.qj.post,fun X=>jI.qj X⟩
def jI.qj.ok:MOk Zh 93 jI.qj.mc:=ko.Self.ok_tongue_printer_block_b
def jP.qj (X:jq jP.qj.pre.tys):Option (jq jP.qj.post.tys):=ko.Self.F_tongue_printer_choice_b X
def jP.qj.mc:xj:=⟨94,jP.qj.pre,jP.qj.post,fun X=>jP.qj X⟩
def jP.qj.ok:MOk Zh 94 jP.qj.mc:=ko.Self.ok_tongue_printer_choice_b
def jV.qj (X:jq jV.qj.pre.tys):Option (jq jV.qj.post.tys):=ko.Self.F_tongue_printer_gate_b X
def jV.qj.mc:xj:=⟨91,jV.qj.pre,jV.qj.post,fun X=>jV.qj X⟩
def jV.qj.ok:MOk Zh 91 jV.qj.mc:=ko.Self.ok_tongue_printer_gate_b
def Jm (n:Zd) (ua:Int) (ub:Zg):Option (Zg×Int×Unit):= jc (strings_Repeat (Z9 [9]) ua) fun y=>jc (jF [y] ua ub) fun y1=>jc (jd.qj (Rose.mk (n.hQ.1,n.hQ.2.1,n.hQ.2.2.1,n.hQ.2.2.2) n.kQ,y1.2.1,y1.1,())) fun y2=>jc (jF [Z9 [10]] y2.2.1 y2.1) fun y3=>some (y3.1,y3.2.1,())
def Jm.mc:xj:=⟨21,⟨[(0,VP),(1,VM)],[(1000100,NS),(1000101,NL)]⟩,⟨[],[(1000101,NL),(1000100,NS)]⟩,fun X=>Jm X.1 X.2.1 X.2.2.1⟩
def Jm.G:EB Zh:=⟨tb,Tryz.f21,[⟨43,strings_Repeat.ce,strings_Repeat.ok⟩],[0,1,3],[1000100,1000101],[],[],[⟨42,jF.mc,jF.ok⟩,⟨44,jd.qj.mc,jd.qj.ok⟩],[]⟩
def Jm.ok:MOk Zh 21 Jm.mc:=Ub Jm.G (mc:=Jm.mc) Tryz.func21 (m:=0) trivial
def jd.pre:Sj:=⟨[(0,VP),(1,VM)],[(1000100,NS),(1000101,NL)]⟩
def jd.c1 {ρ:Type} (n0:Int)(n1:Int)(n2:Za)(n3:Int)(n4:Ze)(Z:Int×Int×Za×Int×Ze×Int×Int×Za×Int×Ze→Option ρ):Option ρ:= jc (JM (Rose.mk (n0,n1,n2,n3) n4) (0:Int)) fun y=>jc (JM (Rose.mk (n0,n1,n2,n3) n4) (1:Int)) fun y1=>Z (y.hQ.1,y.hQ.2.1,y.hQ.2.2.1,y.hQ.2.2.2,y.kQ,y1.hQ.1,y1.hQ.2.1,y1.hQ.2.2.1,y1.hQ.2.2.2,y1.kQ)
def jd.c1s:Sj:=((jd.pre.s 3 fV).o 3 VQ)
def jd.c1x0:Sj:=((((jd.c1s.s 4 pD).s 5 uZ).o 4 VQ).o 5 VQ)
def jd.c1r:RC:=⟨jd.c1s,[(jd.c1x0,0,[6,110])],no,[1,2,3,4,5],fun _=>jd.c1,fun _ _ _ _ _ _ _=>jb fun _=>(jb fun _=>ja)⟩
def jd.cn_ {ρ:Type} (t12:Int)(Z:Bool→Option ρ):Option ρ:= br (t12==2) (Z (t12==2)) (Z (t12==3))
def jd.cn_s:Sj:=(jd.c1x0.s 12 iI)
def jd.cn_x0:Sj:=(jd.cn_s.s 13 Nj)
def jd.cn_r:RC:=⟨jd.cn_s,[(jd.cn_x0,0,[2,101])],no,[1],fun _=>jd.cn_,fun _ _ _=>jt ja ja⟩
def jd.co_ {ρ:Type} (word:Za)(n0:Int)(Z:Za→Option ρ):Option ρ:= br (n0==3) (Z (Z9 [98,105,116,32])) (Z word)
def jd.co_s:Sj:=(jd.cn_x0.s 6 cL)
def jd.co_r:RC:=⟨jd.co_s,[(jd.co_s,0,[1,201])],no,[1,4],fun _=>jd.co_,fun _ _ _ _=>jt ja ja⟩
def jd.c8 {ρ:Type} (word:Za)(n2:Za)(a0:Int)(a1:Int)(a2:Za)(a3:Int)(a4:Ze)(ua:Int)(ub:Zg)(Z:Int×Zg→Option ρ):Option ρ:= jc (kN (Rose.mk (a0,a1,a2,a3) a4,(1:Int),())) fun y=>jc (jF [word,n2,Z9 [91],y.1,Z9 [93,59]] ua ub) fun y1=>Z (y1.2.1,y1.1)
def jd.c8r:RC:=⟨jd.co_s,[(jd.co_s,0,[19,202])],no,[1,6,9,10,11,12,13,19,20],fun _=>jd.c8,fun _ _ _ _ _ _ _ _ _ _ _=>jb fun _=>(jb fun _=>ja)⟩
def jd.c10 {ρ:Type} (n2:Za)(a0:Int)(a1:Int)(a2:Za)(a3:Int)(a4:Ze)(ua:Int)(ub:Zg)(Z:Int×Zg→Option ρ):Option ρ:= jc (kN (Rose.mk (a0,a1,a2,a3) a4,(1:Int),())) fun y=>jc (jF [Z9 [99,111,110,115,116,32],n2,Z9 [32,61,32],y.1,Z9 [59]] ua ub) fun y1=>Z (y1.2.1,y1.1)
def jd.c10r:RC:=⟨jd.cn_x0,[(jd.cn_x0,0,[18,202])],no,[5,8,9,10,11,12,18,19],fun _=>jd.c10,fun _ _ _ _ _ _ _ _ _ _=>jb fun _=>(jb fun _=>ja)⟩
def jd.c16 {ρ:Type} (n2:Za)(a0:Int)(a1:Int)(a2:Za)(a3:Int)(a4:Ze)(b0:Int)(b1:Int)(b2:Za)(b3:Int)(b4:Ze)(ua:Int)(ub:Zg)(Z:Int×Zg→Option ρ):Option ρ:= jc (kN (Rose.mk (a0,a1,a2,a3) a4,(1:Int),())) fun y=>jc (kN (Rose.mk (b0,b1,b2,b3) b4,(1:Int),())) fun y1=>jc (jF [Z9 [102,111,114,32],n2,Z9 [32,105,110,32],y.1,Z9 [32,46,46,32],y1.1,Z9 [32]] ua ub) fun y2=>Z (y2.2.1,y2.1)
def jd.c16r:RC:=⟨jd.cn_x0,[(jd.cn_x0,0,[18,202])],no,[5,8,9,10,11,12,13,14,15,16,17,18,19],fun _=>jd.c16,fun _ _ _ _ _ _ _ _ _ _ _ _ _ _ _=>jb fun _=>(jb fun _=>(jb fun _=>ja))⟩
def jd.c24 {ρ:Type} (a0:Int)(a1:Int)(a2:Za)(a3:Int)(a4:Ze)(b0:Int)(b1:Int)(b2:Za)(b3:Int)(b4:Ze)(ua:Int)(ub:Zg)(Z:Int×Zg→Option ρ):Option ρ:= jc (kf (Rose.mk (a0,a1,a2,a3) a4)) fun y=>jc (kf (Rose.mk (b0,b1,b2,b3) b4)) fun y1=>jc (jF [Z9 [109,101,97,115,117,114,101,32],y,Z9 [32,45,62,32],y1,Z9 [59]] ua ub) fun y2=>Z (y2.2.1,y2.1)
def jd.c24r:RC:=⟨jd.cn_x0,[(jd.cn_x0,0,[18,202])],no,[8,9,10,11,12,13,14,15,16,17,18,19],fun _=>jd.c24,fun _ _ _ _ _ _ _ _ _ _ _ _ _ _=>jb fun _=>(jb fun _=>(jb fun _=>ja))⟩
def jd.c33 {ρ:Type} (a0:Int)(a1:Int)(a2:Za)(a3:Int)(a4:Ze)(b0:Int)(b1:Int)(b2:Za)(b3:Int)(b4:Ze)(ua:Int)(ub:Zg)(Z:Int×Zg→Option ρ):Option ρ:= jc (kf (Rose.mk (a0,a1,a2,a3) a4)) fun y=>jc (UN (Rose.mk (b0,b1,b2,b3) b4,(1:Int),())) fun y1=>jc (jF [y,Z9 [32,94,61,32],y1.1,Z9 [59]] ua ub) fun y2=>Z (y2.2.1,y2.1)
def jd.c33r:RC:=⟨jd.cn_x0,[(jd.cn_x0,0,[18,202])],no,[8,9,10,11,12,13,14,15,16,17,18,19],fun _=>jd.c33,fun _ _ _ _ _ _ _ _ _ _ _ _ _ _=>jb fun _=>(jb fun _=>(jb fun _=>ja))⟩
def jd (n:Zd) (ua:Int) (ub:Zg):Option (Zg×Int×Unit):= jc (jd.c1 n.hQ.1 n.hQ.2.1 n.hQ.2.2.1 n.hQ.2.2.2 n.kQ some) fun y=>jc (jd.cn_ n.hQ.1 some) fun y1=>br y1 (jc (jd.co_ (Z9 [113,117,98,105,116,32]) n.hQ.1 some) fun y2=>jc (jd.c8 y2 n.hQ.2.2.1 y.1 y.2.1 y.2.2.1 y.2.2.2.1 y.2.2.2.2.1 ua ub some) fun y3=>some (y3.2,y3.1,())) (br (n.hQ.1==4) (jc (jd.c10 n.hQ.2.2.1 y.1 y.2.1 y.2.2.1 y.2.2.2.1 y.2.2.2.2.1 ua ub some) fun y4=>some (y4.2,y4.1,())) (br (n.hQ.1==5) (jc (jV.qj (Rose.mk (n.hQ.1,n.hQ.2.1,n.hQ.2.2.1,n.hQ.2.2.2) n.kQ,ua,ub,())) fun y5=>some (y5.1,y5.2.1,())) (br (n.hQ.1==8) (jc (jJ (Rose.mk (n.hQ.1,n.hQ.2.1,n.hQ.2.2.1,n.hQ.2.2.2) n.kQ) ua ub) fun y6=>some (y6.1,y6.2.1,())) (br (n.hQ.1==12) (jc (jd.c16 n.hQ.2.2.1 y.1 y.2.1 y.2.2.1 y.2.2.2.1 y.2.2.2.2.1 y.2.2.2.2.2.1 y.2.2.2.2.2.2.1 y.2.2.2.2.2.2.2.1 y.2.2.2.2.2.2.2.2.1 y.2.2.2.2.2.2.2.2.2 ua ub some) fun y7=>jc (JM (Rose.mk (n.hQ.1,n.hQ.2.1,n.hQ.2.2.1,n.hQ.2.2.2) n.kQ) (2:Int)) fun y8=>jc (jI.qj (y8,y7.1,y7.2,())) fun y9=>some (y9.1,y9.2.1,())) (br (n.hQ.1==13) (jc (kN (Rose.mk (y.1,y.2.1,y.2.2.1,y.2.2.2.1) y.2.2.2.2.1,(1:Int),())) fun y10=>jc (jF [Z9 [119,104,101,110,32],y10.1,Z9 [32]] ua ub) fun y11=>jc (jI.qj (Rose.mk (y.2.2.2.2.2.1,y.2.2.2.2.2.2.1,y.2.2.2.2.2.2.2.1,y.2.2.2.2.2.2.2.2.1) y.2.2.2.2.2.2.2.2.2,y11.2.1,y11.1,())) fun y12=>some (y12.1,y12.2.1,())) (br (n.hQ.1==14) (jc (jP.qj (Rose.mk (n.hQ.1,n.hQ.2.1,n.hQ.2.2.1,n.hQ.2.2.2) n.kQ,ua,ub,())) fun y13=>some (y13.1,y13.2.1,())) (br (n.hQ.1==15) (jc (jd.c24 y.1 y.2.1 y.2.2.1 y.2.2.2.1 y.2.2.2.2.1 y.2.2.2.2.2.1 y.2.2.2.2.2.2.1 y.2.2.2.2.2.2.2.1 y.2.2.2.2.2.2.2.2.1 y.2.2.2.2.2.2.2.2.2 ua ub some) fun y14=>some (y14.2,y14.1,())) (br (n.hQ.1==16) (jc (kf (Rose.mk (y.1,y.2.1,y.2.2.1,y.2.2.2.1) y.2.2.2.2.1)) fun y15=>jc (jF [Z9 [114,101,115,101,116,32],y15,Z9 [59]] ua ub) fun y16=>some (y16.1,y16.2.1,())) (br (n.hQ.1==17) (jc (jF [Z9 [119,105,116,104,105,110,32]] ua ub) fun y17=>jc (jI.qj (Rose.mk (y.1,y.2.1,y.2.2.1,y.2.2.2.1) y.2.2.2.2.1,y17.2.1,y17.1,())) fun y18=>jc (jF [Z9 [32,97,112,112,108,121,32]] y18.2.1 y18.1) fun y19=>jc (jI.qj (Rose.mk (y.2.2.2.2.2.1,y.2.2.2.2.2.2.1,y.2.2.2.2.2.2.2.1,y.2.2.2.2.2.2.2.2.1) y.2.2.2.2.2.2.2.2.2,y19.2.1,y19.1,())) fun y20=>some (y20.1,y20.2.1,())) (br (n.hQ.1==18) (jc (jd.c33 y.1 y.2.1 y.2.2.1 y.2.2.2.1 y.2.2.2.2.1 y.2.2.2.2.2.1 y.2.2.2.2.2.2.1 y.2.2.2.2.2.2.2.1 y.2.2.2.2.2.2.2.2.1 y.2.2.2.2.2.2.2.2.2 ua ub some) fun y21=>some (y21.2,y21.1,())) (some (ub,ua,()))))))))))))
def jd.mc:xj:=⟨44,jd.pre,⟨[],[(1000101,NL),(1000100,NS)]⟩,fun X=>jd X.1 X.2.1 X.2.2.1⟩
def jd.G:EB Zh:=⟨tb,Tryz.f44,[⟨89,JM.ce,JM.ok⟩,⟨95,kf.ce,kf.ok⟩],[0,1,3,4,5,6,12,13,18,27,36,41,46,61,71,76,85,92,106],[1000100,1000101,1002122930013,2000000000013],[(33,[(5,[113]),(6,[113,1000101,1000100])]),(24,[(5,[83]),(6,[83,1000101,1000100])]),(16,[(7,[55]),(8,[55,1000101,1000100])]),(10,[(5,[34]),(6,[34,1000101,1000100])]),(8,[(6,[25]),(7,[25,1000101,1000100])]),(1,[(4,[4]),(5,[5]),(6,[4]),(7,[5])])],[(33,jd.c33r.ck),(24,jd.c24r.ck),(16,jd.c16r.ck),(10,jd.c10r.ck),(8,jd.c8r.ck),(224581,jd.co_r.ck),(212293,jd.cn_r.ck),(1,jd.c1r.ck)],[⟨90,kN.mc,kN.ok⟩,⟨42,jF.mc,jF.ok⟩,⟨91,jV.qj.mc,jV.qj.ok⟩,⟨92,jJ.mc,jJ.ok⟩,⟨93,jI.qj.mc,jI.qj.ok⟩,⟨94,jP.qj.mc,jP.qj.ok⟩,⟨96,UN.mc,UN.ok⟩],[]⟩
def jd.ok:MOk Zh 44 jd.mc:=Ub jd.G (mc:=jd.mc) Tryz.func44 (m:=8) ⟨⟨⟨⟨⟨⟨⟨⟨trivial,kR jd.c1r⟩,kJ jd.cn_r⟩,kJ jd.co_r⟩,kR jd.c8r⟩,kR jd.c10r⟩,kR jd.c16r⟩,kR jd.c24r⟩,kR jd.c33r⟩
def jI.pre:Sj:=⟨[(0,VP),(1,VM)],[(1000100,NS),(1000101,NL)]⟩
def jI.ce_ {ρ:Type} (t17:Ze)(t18:Int)(t19:Int)(ua:Int)(ub:Zg)(Z:(Int×Int×Zg)⊕(Int×Int×Zg)→Option ρ):Option ρ:= br (decide (t19<t18)) (jc (idx t17 t19) fun y=>jc (Jm.qj (Rose.mk (y.hQ.1,y.hQ.2.1,y.hQ.2.2.1,y.hQ.2.2.2) y.kQ,ua,ub,())) fun y1=>Z (.inl ((i64.wrap (t19+1)),y1.2.1,y1.1))) (Z (.inr (t19,ua,ub)))
def jI.ce_s:Sj:=(((((jI.pre.s 3 fV).s 17 dX).s 18 iI).s 19 iI).o 3 VQ)
def jI.ce_r:LC:=⟨jI.ce_s,[(jI.ce_s,2,[3,201,5,202])],no,[3,9,10],[1,2,3,9,10],fun _=>jI.ce_,fun _ _ _ _ _ _ _=>jt (jb fun _=>(jb fun _=>ja)) ja⟩
def jI (n:Zd) (ua:Int) (ub:Zg):Option (Zg×Int×Unit):= jc (jF [Z9 [123,10]] ua ub) fun y=>jc (iter (fun s↦jI.ce_ n.kQ (↑(List.length n.kQ):Int) s.1 s.2.1 s.2.2 some) ((0:Int),i64.wrap (y.2.1+1),y.1)) fun y1=>jc (strings_Repeat (Z9 [9]) (i64.wrap (y1.2.1-1))) fun y2=>jc (jF [y2,Z9 [125]] (i64.wrap (y1.2.1-1)) y1.2.2) fun y3=>some (y3.1,y3.2.1,())
def jI.mc:xj:=⟨93,jI.pre,⟨[],[(1000101,NL),(1000100,NS)]⟩,fun X=>jI X.1 X.2.1 X.2.2.1⟩
def jI.G:EB Zh:=⟨tb,Tryz.f93,[⟨43,strings_Repeat.ce,strings_Repeat.ok⟩],[0,1,3,5,17,18,19,20],[1000100,1000101],[],[(100004,jI.ce_r.ck)],[⟨42,jF.mc,jF.ok⟩,⟨21,Jm.qj.mc,Jm.qj.ok⟩],[]⟩
def jI.ok:MOk Zh 93 jI.mc:=Ub jI.G (mc:=jI.mc) Tryz.func93 (m:=1) ⟨trivial,kL jI.ce_r⟩
def jP.pre:Sj:=⟨[(0,VP),(1,VM)],[(1000100,NS),(1000101,NL)]⟩
def jP.cc_ {ρ:Type} (n3:Int)(ua:Int)(ub:Zg)(Z:Int×Zg→Option ρ):Option ρ:= br (n3==1) (jc (jF [Z9 [33]] ua ub) fun y=>Z (y.2.1,y.1)) (Z (ua,ub))
def jP.cc_s:Sj:=((jP.pre.s 3 fV).o 3 VQ)
def jP.cc_r:RC:=⟨jP.cc_s,[(jP.cc_s,0,[6,202])],no,[4,6,7],fun _=>jP.cc_,fun _ _ _ _ _=>jt (jb fun _=>ja) ja⟩
def jP (n:Zd) (ua:Int) (ub:Zg):Option (Zg×Int×Unit):= jc (jF [Z9 [105,102,32]] ua ub) fun y=>jc (jP.cc_ n.hQ.2.2.2 y.2.1 y.1 some) fun y1=>jc (JM (Rose.mk (n.hQ.1,n.hQ.2.1,n.hQ.2.2.1,n.hQ.2.2.2) n.kQ) (0:Int)) fun y2=>jc (kf y2) fun y3=>jc (jF [y3,Z9 [32]] y1.1 y1.2) fun y4=>jc (JM (Rose.mk (n.hQ.1,n.hQ.2.1,n.hQ.2.2.1,n.hQ.2.2.2) n.kQ) (1:Int)) fun y5=>jc (jI.qj (y5,y4.2.1,y4.1,())) fun y6=>br (decide ((↑(List.length n.kQ):Int)>2)) (jc (jF [Z9 [32,101,108,115,101,32]] y6.2.1 y6.1) fun y7=>jc (idx n.kQ (2:Int)) fun y8=>jc (jI.qj (y8,y7.2.1,y7.1,())) fun y9=>some (y9.1,y9.2.1,())) (some (y6.1,y6.2.1,()))
def jP.mc:xj:=⟨94,jP.pre,⟨[],[(1000101,NL),(1000100,NS)]⟩,fun X=>jP X.1 X.2.1 X.2.2.1⟩
def jP.G:EB Zh:=⟨tb,Tryz.f94,[⟨89,JM.ce,JM.ok⟩,⟨95,kf.ce,kf.ok⟩],[0,1,3,9,26],[1000100,1000101],[],[(208197,jP.cc_r.ck)],[⟨42,jF.mc,jF.ok⟩,⟨93,jI.qj.mc,jI.qj.ok⟩],[]⟩
def jP.ok:MOk Zh 94 jP.mc:=Ub jP.G (mc:=jP.mc) Tryz.func94 (m:=1) ⟨trivial,kJ jP.cc_r⟩
def jV.pre:Sj:=⟨[(0,VP),(1,VM)],[(1000100,NS),(1000101,NL)]⟩
def jV.cc_ {ρ:Type} (n0:Int)(n1:Int)(n2:Za)(n3:Int)(n4:Ze)(ua:Int)(ub:Zg)(Z:Int×Zg→Option ρ):Option ρ:= jc (JM (Rose.mk (n0,n1,n2,n3) n4) (0:Int)) fun y=>br (decide ((↑(List.length y.kQ):Int)>0)) (jc (JM (Rose.mk (n0,n1,n2,n3) n4) (0:Int)) fun y1=>jc (JP y1) fun y2=>jc (jF [Z9 [40],y2.1,Z9 [41]] ua ub) fun y3=>Z (y3.2.1,y3.1)) (Z (ua,ub))
def jV.cc_s:Sj:=((jV.pre.s 3 fV).o 3 VQ)
def jV.cc_r:RC:=⟨jV.cc_s,[(jV.cc_s,0,[6,202])],no,[1,2,3,4,5,6,7],fun _=>jV.cc_,fun _ _ _ _ _ _ _ _ _=>jb fun _=>(jt (jb fun _=>(jb fun _=>(jb fun _=>ja))) ja)⟩
def jV (n:Zd) (ua:Int) (ub:Zg):Option (Zg×Int×Unit):= jc (jF [Z9 [103,97,116,101,32],n.hQ.2.2.1] ua ub) fun y=>jc (jV.cc_ n.hQ.1 n.hQ.2.1 n.hQ.2.2.1 n.hQ.2.2.2 n.kQ y.2.1 y.1 some) fun y1=>jc (JM (Rose.mk (n.hQ.1,n.hQ.2.1,n.hQ.2.2.1,n.hQ.2.2.2) n.kQ) (1:Int)) fun y2=>jc (JQ y2) fun y3=>jc (jF [Z9 [32],y3.1,Z9 [32]] y1.1 y1.2) fun y4=>jc (JM (Rose.mk (n.hQ.1,n.hQ.2.1,n.hQ.2.2.1,n.hQ.2.2.2) n.kQ) (2:Int)) fun y5=>jc (jI.qj (y5,y4.2.1,y4.1,())) fun y6=>some (y6.1,y6.2.1,())
def jV.mc:xj:=⟨91,jV.pre,⟨[],[(1000101,NL),(1000100,NS)]⟩,fun X=>jV X.1 X.2.1 X.2.2.1⟩
def jV.G:EB Zh:=⟨tb,Tryz.f91,[⟨89,JM.ce,JM.ok⟩],[0,1,3,13],[1000100,1000101],[],[(208197,jV.cc_r.ck)],[⟨42,jF.mc,jF.ok⟩,⟨115,JP.mc,JP.ok⟩,⟨93,jI.qj.mc,jI.qj.ok⟩,⟨1000023,JQ.mc,JQ.ok⟩],[]⟩
def jV.ok:MOk Zh 91 jV.mc:=Ub jV.G (mc:=jV.mc) Tryz.func91 (m:=1) ⟨trivial,kJ jV.cc_r⟩
end
@[reducible] def ko.fuel:Nat→ko.Self
  | 0=>{ F_tongue_printer_line_b:=fun _=>none,ok_tongue_printer_line_b:=⟨⟨Tryz.f21,Tryz.func21,by kernel_rfl,by kernel_rfl⟩,fun _ _ _ _ _ _ _ hy=>by cases hy⟩,F_tongue_printer_statement_b:=fun _=>none,ok_tongue_printer_statement_b:=⟨⟨Tryz.f44,Tryz.func44,by kernel_rfl,by kernel_rfl⟩,fun _ _ _ _ _ _ _ hy=>by cases hy⟩,F_tongue_printer_block_b:=fun _=>none,ok_tongue_printer_block_b:=⟨⟨Tryz.f93,Tryz.func93,by kernel_rfl,by kernel_rfl⟩,fun _ _ _ _ _ _ _ hy=>by cases hy⟩,F_tongue_printer_choice_b:=fun _=>none,ok_tongue_printer_choice_b:=⟨⟨Tryz.f94,Tryz.func94,by kernel_rfl,by kernel_rfl⟩,fun _ _ _ _ _ _ _ hy=>by cases hy⟩,F_tongue_printer_gate_b:=fun _=>none,ok_tongue_printer_gate_b:=⟨⟨Tryz.f91,Tryz.func91,by kernel_rfl,by kernel_rfl⟩,fun _ _ _ _ _ _ _ hy=>by cases hy⟩ }
  | n+1=>{ F_tongue_printer_line_b:=fun X=>(@Jm.mc (ko.fuel n)).F X,ok_tongue_printer_line_b:=@Jm.ok (ko.fuel n),F_tongue_printer_statement_b:=fun X=>(@jd.mc (ko.fuel n)).F X,ok_tongue_printer_statement_b:=@jd.ok (ko.fuel n),F_tongue_printer_block_b:=fun X=>(@jI.mc (ko.fuel n)).F X,ok_tongue_printer_block_b:=@jI.ok (ko.fuel n),F_tongue_printer_choice_b:=fun X=>(@jP.mc (ko.fuel n)).F X,ok_tongue_printer_choice_b:=@jP.ok (ko.fuel n),F_tongue_printer_gate_b:=fun X=>(@jV.mc (ko.fuel n)).F X,ok_tongue_printer_gate_b:=@jV.ok (ko.fuel n) }
def VO (X:jq Jm.qj.pre.tys):Option (jq Jm.qj.post.tys):=(ko.fuel (1000000)).F_tongue_printer_line_b X
def VO.mc:xj:=⟨21,Jm.qj.pre,Jm.qj.post,fun X=>VO X⟩
def VO.ok:MOk Zh 21 VO.mc:=(ko.fuel (1000000)).ok_tongue_printer_line_b
abbrev tj23:SO:=.box [.selfp 7 61,.own 2007 0,.val (.int .i64)]
def kH.cb_ (t9:Ze)(t10:Int)(t11:Int)(t72:Int)(uc:Zg)(Z:(Int×Int×Zg)⊕(Int×Int×Zg)→Option ρ):Option ρ:= br (decide (t11<t10)) (jc (idx t9 t11) fun y=>jc (VO (Rose.mk (y.hQ.1,y.hQ.2.1,y.hQ.2.2.1,y.hQ.2.2.2) y.kQ,t72,uc,())) fun y1=>Z (.inl ((i64.wrap (t11+1)),y1.2.1,y1.1))) (Z (.inr (t11,t72,uc)))
def kH.cb_s:Sj:=⟨[(0,VM),(1,tg45),(2,cL),(3,D4),(9,dX),(10,iI),(11,iI)],[(1,VQ),(7,tj23),(2007,NL)]⟩
def kH.cb_r:LC:=⟨kH.cb_s,[(kH.cb_s,2,[4,201,5,202])],no,[4,10,11],[2,3,4,10,11],@kH.cb_,fun _ _ _ _ _ _ _=>jt (jb fun _=>(jb fun _=>ja)) ja⟩
def kH (n:Zd):Option Za:= jc (iter (fun s↦kH.cb_ n.kQ (↑(List.length n.kQ):Int) s.1 s.2.1 s.2.2 some) ((0:Int),(0:Int),[])) fun y=>jc (kF y.2.1 y.2.2) fun y1=>some y1.1
def kH.ce:=Vt tab Tryz.f10 kH
def kH.G:EB Zh:=⟨tb,Tryz.f10,[],[0,1,2,3,5,9,10,11,12],[6,7,1007,2007],[],[(100003,kH.cb_r.ck)],[⟨21,VO.mc,VO.ok⟩,⟨22,kF.mc,kF.ok⟩],[]⟩
def kH.ok:vj Zh 10 kH.ce:=Uj kH.G Tryz.func10 (m:=1) ⟨trivial,kL kH.cb_r⟩
end
end W
end

section
set_option maxHeartbeats 4000000
set_option maxRecDepth 100000
namespace W
open Go Go.Ql Go.Proofs Go.IntKind
noncomputable section
variable {ρ:Type}
def YI (code:Int) (t1:Int):Option (Int×Int):= some (code,t1)
def YI.ce:Go.Ql.Callee:=⟨[(.int .i64),(.int .i64)],[(.st (.pair (.int .i64) (.int .i64)))],fun X=>YI X.1 X.2⟩
def YI.G:Env:=⟨8,tab,[],[0,1,4],[],[],[],[],gQ,[]⟩
def YI.ok:vj Zh 12 YI.ce:=MU (G:=YI.G) bM mixed Tryz.func12 ⟨lY,g8,dV,gR⟩ (m:=0) (by kernel_rfl) trivial (by kernel_rfl) (fun _=>by kernel_rfl)
abbrev tn1:SD:=.one (.ref 1000700 0)
abbrev tn2:SD:=.one (.ref 1000800 0)
abbrev tn4:SO:=.box [.val (.int .i64),.val (.int .i64),.val .str,.val (.int .i64),.own 1000695 0]
def jG.pre:Sj:=⟨[(0,cL),(2,tn1),(3,tn2)],[(1000695,lQ),(1000700,tn4),(1000800,th41)]⟩
def jG.chk:St→Bool:=fun st=>match look st.mj 2,look st.mj 3,look st.sj 1000700,look st.sj 1000800 with | some (.one (.ref 1000700 0)),some (.one (.ref 1000800 0)),some (.box [.val (.int .i64) _,.val (.int .i64) _,.val .str _,.val (.int .i64) _,.own 1000695 0]),some (.box [.val (.int .i64) _,.val (.int .i64) _])=>true | _,_,_,_=>false
def jG.c8 (t140:Za)(t141:Int)(t142:Int)(t143:Za)(t144:Int)(ua:Ze)(Z:(Za×Int×Int×Za×Int×Ze)⊕(Za×Int×Int×Za×Int×Int)→Option ρ):Option ρ:= jc (Ji t140 t141 t142 t143 t144) fun y=>sel y (fun u=>jc (Je (decide ((ua.length+1)*64≤140737488355328)&&decide (ua.length+1≤140737488355328))) fun y1=>jc (vQ (List.length (ua++[Rose.mk ((0:Int),(0:Int),Z9 [],(0:Int)) []])) (ua.length:Int)) fun y2=>jc (idx (ua++[Rose.mk ((0:Int),(0:Int),Z9 [],(0:Int)) []]) (ua.length:Int)) fun y3=>Z (.inl (u.2.1,u.2.2.1,u.2.2.2.1,u.2.2.2.2.1,u.2.2.2.2.2.1,(List.set (ua++[Rose.mk ((0:Int),(0:Int),Z9 [],(0:Int)) []]) (Int.toNat (ua.length:Int)) u.1)))) (fun v=>Z (.inr (v.2.1,v.2.2.1,v.2.2.2.1,v.2.2.2.2.1,v.2.2.2.2.2.1,v.1)))
def jG.c8s:Sj:=⟨[(0,cL),(2,tn1),(3,tn2),(4,RA)],[(14,kc),(1000695,lQ),(1000700,tn4),(1000800,th41)]⟩
def jG.c8x1:Sj:=⟨[(2,tn1),(3,tn2)],[(14,kc),(900001,Hi),(1000695,lQ),(1000700,tn4),(1000800,th41)]⟩
def jG.c8r:Ck:=Ck.of (T:=(Za×Int×Int×Za×Int×Ze)⊕(Za×Int×Int×Za×Int×Int)) jG.c8s (fun ρ X Z=>jG.c8 X.2.1 X.2.2.1 X.2.2.2.1 (q4 X).1 (q4 X).2.1 (q4 X).2.2.1 Z) (fun ρ X V Z=>sel V (fun V=>Z 0 (Sj.inj jG.c8s (X.1,V.1,V.2.1,V.2.2.1,V.2.2.2.1,V.2.2.2.2.1,V.2.2.2.2.2,(q4 X).2.2.2))) (fun V=>Z 1000000 (Sj.inj jG.c8x1 (V.1,V.2.1,V.2.2.1,V.2.2.2.1,V.2.2.2.2.1,V.2.2.2.2.2,(q4 X).2.2))))
def jG.cg_ (t140:Za)(t141:Int)(t142:Int)(t143:Za)(t144:Int)(ua:Ze)(Z:(Za×Int×Int×Za×Int×Ze)⊕((Za×Int×Int×Za×Int×Int×Ze)⊕(Za×Int×Int×Za×Int×Ze))→Option ρ):Option ρ:= br (t142 !=0) (jc (jG.c8 t140 t141 t142 t143 t144 ua some) fun y=>sel y (fun u=>Z (.inl (u.1,u.2.1,u.2.2.1,u.2.2.2.1,u.2.2.2.2.1,u.2.2.2.2.2))) (fun v=>Z (.inr (.inl (v.1,v.2.1,v.2.2.1,v.2.2.2.1,v.2.2.2.2.1,v.2.2.2.2.2,ua))))) (Z (.inr (.inr (t140,t141,t142,t143,t144,ua))))
def jG.cg_r:Ck:=Ck.ofLoop (S:=Za×Int×Int×Za×Int×Ze) (T:=(Za×Int×Int×Za×Int×Int×Ze)⊕(Za×Int×Int×Za×Int×Ze)) jG.c8s (fun X=>(X.2.1,X.2.2.1,X.2.2.2.1,(q4 X).1,(q4 X).2.1,(q4 X).2.2.1)) (fun ρ X Q Z=>jG.cg_ Q.1 Q.2.1 Q.2.2.1 Q.2.2.2.1 Q.2.2.2.2.1 Q.2.2.2.2.2 Z) (fun ρ X V Z=>sel V (fun V=>Z 1000000 (Sj.inj jG.c8x1 (V.1,V.2.1,V.2.2.1,V.2.2.2.1,V.2.2.2.2.1,V.2.2.2.2.2.1,V.2.2.2.2.2.2,(q4 X).2.2.2))) (fun V=>Z 2 (Sj.inj jG.c8s (X.1,V.1,V.2.1,V.2.2.1,V.2.2.2.1,V.2.2.2.2.1,V.2.2.2.2.2,(q4 X).2.2.2))))
def jG.c9  (Z:Unit→Option ρ):Option ρ:= Z ()
def jG.c9r:Ck:=Ck.of (T:=Unit) jG.c8s (fun ρ X Z=>jG.c9  Z) (fun ρ X V Z=>Z 0 (Sj.inj jG.c8s X))
def jG (text:Za) (ua:Ze) (ub:Int) (uc:Int) (ud:Za) (ue:Int) (uf:Int) (ug:Int):Option ((Zd×(Int×Int))⊕Int):= jc (jR text (0:Int) (0:Int) [] (0:Int)) fun y=>jc (iter (fun s↦jG.cg_ s.1 s.2.1 s.2.2.1 s.2.2.2.1 s.2.2.2.2.1 s.2.2.2.2.2 some) (y.2.1,y.2.2.1,y.2.2.2.1,y.2.2.2.2.1,y.2.2.2.2.2.1,ua)) fun y1=>sel y1 (fun u=>some (Sum.inr u.2.2.2.2.2.1)) (fun v=>jc (jG.c9 some) fun y2=>some (Sum.inl (Rose.mk ((1:Int),uc,ud,ue) v.2.2.2.2.2,uf,ug)))
def jG.F (X:jq jG.pre.tys):Option (YL [(.st (.node (.pair (.int .i64) (.pair (.int .i64) (.pair .str (.int .i64)))))),(.st (.pair (.int .i64) (.int .i64)))]⊕((.st (.int .i64)):Ty).den):=jG X.1 X.2.1 X.2.2.1 X.2.2.2.1 (q4 X).1 (q4 X).2.1 (q4 X).2.2.1 (q4 X).2.2.2.1
def jG.G:Env:=⟨35,tab,[(12,YI.ce)],[0,2,3,4,7,23],[2,8,5002,1000695,1000700,1000800,48000002,48000003],[(9,[⟨[],[],[34],[]⟩,⟨[],[],[33],[1000700]⟩,⟨[0],[1000700],[34],[]⟩,⟨[1,2,0],[1000800],[],[]⟩]), (8,[⟨[],[],[26,27,29],[14,29]⟩,⟨[0],[],[26,27,29],[14,29]⟩,⟨[],[],[24,25,28,29],[29]⟩,⟨[2],[14],[24,25,28,29],[29]⟩,⟨[1,0],[],[26,27,29],[14,29]⟩,⟨[],[29],[24,25,26,27,28],[14]⟩,⟨[1,0,5,3,2,4],[1000695],[],[]⟩,⟨[6,1,0,5,3,2,4],[],[32],[1000700]⟩,⟨[7,6,1,0,5,3,2,4],[1000695],[32],[1000700]⟩,⟨[0,1,2,3,4,5,6],[],[31],[1000695]⟩,⟨[9,0,1,2,3,4,5,6],[1000700],[31],[1000695]⟩])],[(9,jG.c9r),(100007,jG.cg_r),(8,jG.c8r)],[(14,jR.mc)],gQ,[(15,Ji.ma)]⟩
def jG.p0:UF jG.G (NF (Yr jG.G.cks (Yz (bX Tryz.f6))) 0).1 (NF (Yr jG.G.cks (Yz (bX Tryz.f6))) 0).2:=
  BK (s:=jG.cg_r) (by kernel_rfl) (by kernel_rfl) (y7 (sh:=jG.c8s) (I:=fun X Q=>(X.1,Q.1,Q.2.1,Q.2.2.1,Q.2.2.2.1,Q.2.2.2.2.1,Q.2.2.2.2.2,(q4 X).2.2.2)) (fun X=>rfl) (fun ρ X Q Z=>(jt (jb fun _=>(kw (fun _=>ja) (fun _=>ja))) ja)) (fun ρ X t k=>(kw (fun _=>(by kernel_rfl)) (fun _=>(by kernel_rfl)))) (fun X s=>by kernel_rfl))
def jG.p1:UF jG.G (NF (Yr jG.G.cks (Yz (bX Tryz.f6))) 1).1 (NF (Yr jG.G.cks (Yz (bX Tryz.f6))) 1).2:=
  o5 (s:=jG.c8r) (by kernel_rfl) (by kernel_rfl) (uU (sh:=jG.c8s) (fun ρ X Z=>(jb fun _=>(kw (fun _=>(jb fun _=>(jb fun _=>(jb fun _=>ja)))) (fun _=>ja)))) (fun ρ X t k=>(kw (fun _=>(by kernel_rfl)) (fun _=>(by kernel_rfl)))) (fun X=>by kernel_rfl))
def jG.p2:UF jG.G (NF (Yr jG.G.cks (Yz (bX Tryz.f6))) 2).1 (NF (Yr jG.G.cks (Yz (bX Tryz.f6))) 2).2:=
  o5 (s:=jG.c9r) (by kernel_rfl) (by kernel_rfl) (uU (sh:=jG.c8s) (fun ρ X Z=>ja) (fun ρ X t k=>(by kernel_rfl)) (fun X=>by kernel_rfl))
def jG.ok:SegOk jG.G (bX Tryz.f6) jG.pre jG.chk [(.st (.node (.pair (.int .i64) (.pair (.int .i64) (.pair .str (.int .i64)))))),(.st (.pair (.int .i64) (.int .i64)))] 35 (.st (.int .i64)) jG.F:=RZ (m:=3) ⟨⟨⟨trivial,jG.p0⟩,jG.p1⟩,jG.p2⟩ (by kernel_rfl)
end
end W
end

section
set_option maxHeartbeats 800000
set_option maxRecDepth 100000
namespace W
open Go Go.Ql Go.Proofs
def QB (v:Value) (w:World):(Instr.typeAssert (.iface 35 v) 20 35 true).run Tryz.prog w=.ok (.tuple #[v,.bool true]) w:=by kernel_rfl
def CG (p q:Value) (w:World):CallsD Tryz.prog 13 #[p,q] .returning w fun e u' w'=>e=.returned (.tuple #[])∧u'=.returning∧Same w w':=by
 refine callsD_of_wpS Tryz.func13 rfl fun c₀ cs hu=>?_
 apply wpS_seq
 apply wpS_region
 simp [wpOpsS,go_sem,recoverD,hu,Tryz.ntmps13,Exit.thenS]
 refine wpS_of_wp ?_
 apply wp_block
 apply wp_seq
 apply wp_region
 simp [wpOps,go_sem]
 refine .inl (wp_cond (t:=true) ?_ ?_)
 ·simp [Act.eval,Array.replicate]
 simp only [if_true]
 apply wp_region
 simp [wpOps,go_sem]
 refine .inl ?_
 cases c₀
 simp_all [bodyPostS,results,Tryz.results13,Exit.inBlock]
 exact Same.refl w
abbrev nodeT:Ty:=.st (.node (.pair (.int .i64) (.pair (.int .i64) (.pair .str (.int .i64)))))
abbrev cU:Ty:=.st (.pair (.int .i64) (.int .i64))
noncomputable def KP (e:Ex) (st:St):Option (YL [nodeT,cU]):=bif Nat.blt e 2 then cW jG.G ⟨[(2,.one (.ref 1000700 0)),(3,.one (.ref 1000800 0))],st.sj⟩ Tryz.f6.results.toList (CY (Ql.look st.sj) [nodeT,cU] fun x=>x) else none
noncomputable def MS:Code:=match Tryz.f13.body with
 | some (.seq _ (.block _ (.seq _ (.cond _ _ (.seq _ (.cond _ a _))))))=>a
 | _=>.skip
noncomputable def G13:Env:=⟨15,tab,[(12,YI.ce)],[0,1,3,10,11,14],[],[],[],[],gQ,[]⟩
def Q4 (k a:Int) (s:Za) (n f0 f1 at_:Int):St:=⟨[(0,.one (.ref 1000700 0)),(1,.one (.ref 1000800 0)),(10,.agg [.val (.int .i64) at_])],
 [(1000700,.box [.val (.int .i64) k,.val (.int .i64) a,.val .str s,.val (.int .i64) n,.own 1000695 0]),(1000800,.box [.val (.int .i64) f0,.val (.int .i64) f1])]⟩
def PU (k a:Int) (s:Za) (n f0 f1 at_:Int):Vs G13 MS _ (Q4 k a s n f0 f1 at_) KP=some ((Rose.mk (0,0,[],0) []:nodeT.den),((1,at_):Int×Int)):=by kernel_rfl
def OL:AllOk Tryz.prog G13:=⟨mK YI.ok lY,g8,dV,gR⟩
def EX:Vw G13 MS=true:=by kernel_rfl
def CF:Yr G13.cks MS=[]:=by kernel_rfl
def KX {A B:Ob} {id:Nat} {ob:Ob} (h:Ql.look [(1000700,A),(1000800,B)] id=some ob):(id=1000700∧ob=A)∨(id=1000800∧ob=B):=by
 have h:=Ul h
 simpa [zr] using h
def Q1 {w:World} {c:Int} (Z:Nat→Prop) (nm:JY) (sj:List (Nat×Ob)):Vx w Z nm sj [.val (.int .i64) c] [.int .i64 c]:=
 ⟨rfl,fun i a v h1 h2=>by
  match i,h1,h2 with
  | 0,h1,h2=>cases h1;cases h2;rfl
  | i+1,h1,_=>cases h1⟩
def xV {n:Nat} {w0 w:World} {Z:Nat→Prop} {nm0:JY} {df:List Deferred} {cm:Bool} {st:St} {a:Act} {nm:JY} (hR:Rel n w0 ⟨Z,fun _=>False,nm0,df,cm⟩ st a w nm) {k at0 m:Int} {s:Za} {f0 f1:Int}
 (h2:Ql.look st.sj 1000700=some (.box [.val (.int .i64) k,.val (.int .i64) at0,.val .str s,.val (.int .i64) m,.own 1000695 0])) (h3:Ql.look st.sj 1000800=some (.box [.val (.int .i64) f0,.val (.int .i64) f1])) {b2 b3:Nat}
 (e2:nm 1000700=.pointer (some ⟨b2,0,none⟩)) (e3:nm 1000800=.pointer (some ⟨b3,0,none⟩)) (at_:Int) (older:List PanicEntry)
 {a2:Act} (s2:a2.tmps.size=35) (t2:a2.tmps[2]?=some (.pointer (some ⟨b2,0,none⟩))) (t3:a2.tmps[3]?=some (.pointer (some ⟨b3,0,none⟩))) :
 CallsD Tryz.prog 13 #[.pointer (some ⟨b2,0,none⟩),.pointer (some ⟨b3,0,none⟩)] (.panicking ({ v:=.iface 35 (.agg #[.int .i64 at_]),recovered:=false }::older)) w
 fun e u' w'=>e=.returned (.tuple #[])∧u'=.panicking ({ v:=.iface 35 (.agg #[.int .i64 at_]),recovered:=true }::older) ∧
  ∃v,(results Tryz.f6 a2.tmps).run Tryz.prog w'=.ok v w'∧Same w0 w'∧bV w' (aQ w0 w' Z) [nodeT,cU] ((Rose.mk (0,0,[],0) []:nodeT.den),((1,at_):Int×Int)) v:=by
 refine callsD_of_wpS Tryz.func13 rfl fun c₀ cs hu=>?_
 apply wpS_seq
 apply wpS_region
 simp [wpOpsS,go_sem,recoverD,hu,Tryz.ntmps13,Exit.thenS]
 refine wpS_of_wp ?_
 apply wp_block
 apply wp_seq
 apply wp_region
 simp [wpOps,go_sem]
 refine .inl (wp_cond (t:=false) ?_ ?_)
 ·simp [Act.eval,Array.replicate]
 simp only [zi,if_false]
 apply wp_seq
 apply wp_region
 simp [wpOps,go_sem,QB]
 refine .inl (.inl (.inl (wp_cond (t:=true) ?_ ?_)))
 ·simp [Act.eval,Array.replicate]
 simp only [if_true]
 have r1:Rel n w0 ⟨Z,fun _=>False,nm0,df,cm⟩ ⟨[],[(1000700,.box [.val (.int .i64) k,.val (.int .i64) at0,.val .str s,.val (.int .i64) m,.own 1000695 0]),(1000800,.box [.val (.int .i64) f0,.val (.int .i64) f1])]⟩ a w nm:=hR.only2 (by
  intro id ob hl
  rcases KX hl with ⟨rfl,rfl⟩ | ⟨rfl,rfl⟩
  ·refine ⟨h2,Ob.semi.ok ?_⟩
   intro x hx
   simp only [Z5,List.not_mem_nil,or_false] at hx
   rcases hx with rfl | rfl | rfl | rfl | rfl
   ·exact .inl ⟨_,_,rfl⟩
   ·exact .inl ⟨_,_,rfl⟩
   ·exact .inl ⟨_,_,rfl⟩
   ·exact .inl ⟨_,_,rfl⟩
   ·exact .inr ⟨_,_,rfl,rfl⟩
  ·refine ⟨h3,Ob.semi.ok ?_⟩
   intro x hx
   simp only [Z5,List.not_mem_nil,or_false] at hx
   rcases hx with rfl | rfl
   ·exact .inl ⟨_,_,rfl⟩
   ·exact .inl ⟨_,_,rfl⟩)
 refine wpIn_wide.1 (Hu bM OL mixed MS EX (by rw [CF];intro p hp;cases hp) (w0:=w0) (Z0:=⟨Z,fun _=>False,nm0,[],true⟩) none (.inr (by kernel_rfl)) (st:=Q4 k at0 s m f0 f1 at_) (nm:=nm) (r:=((Rose.mk (0,0,[],0) []:nodeT.den),((1,at_):Int×Int))) (k:=KP) ?_ (PU k at0 s m f0 f1 at_) ?_)
 ·refine r1.frame rfl (by simp;rfl) ?_
  intro t d hl
  have hl:=Ul hl
  replace hl:(t,d)∈[(0,Dv.one (.ref 1000700 0)),(1,.one (.ref 1000800 0)),(10,.agg [.val (.int .i64) at_])]:=hl
  simp only [Z5,zr,List.not_mem_nil,or_false] at hl
  rcases hl with ⟨rfl,rfl⟩ | ⟨rfl,rfl⟩ | ⟨rfl,rfl⟩
  ·exact ⟨.pointer (some ⟨b2,0,none⟩),by simp,rfl,fun cs hl=>⟨b2,e2,rfl⟩⟩
  ·exact ⟨.pointer (some ⟨b3,0,none⟩),by simp,rfl,fun cs hl=>⟨b3,e3,rfl⟩⟩
  ·refine ⟨.agg #[.int .i64 at_],by simp,#[.int .i64 at_],rfl,Q1 _ _ _,fun u hu=>?_⟩
   simp at hu
   subst hu
   rfl
 ·intro e st' a' w' nm' h' hk _
  unfold KP at hk
  cases hlt:Nat.blt e 2 with
  | false=>rw [hlt] at hk;cases hk
  | true=>
    rw [hlt] at hk
    simp only [zj] at hk
    have hF:=h'.frame (cm:=false) (n':=35) (a':=a2) (df:=a2.defers) (sl:=[(2,.one (.ref 1000700 0)),(3,.one (.ref 1000800 0))]) rfl s2 (by
     intro t d hl
     have hl:=Ul hl
     simp only [Z5,zr,List.not_mem_nil,or_false] at hl
     rcases hl with ⟨rfl,rfl⟩ | ⟨rfl,rfl⟩
     ·refine ⟨_,t2,rfl,fun cs hl=>?_⟩
      have hg:=h'.given 1000700 _ (by decide) hl trivial
      have hg2:=hR.given 1000700 _ (by decide) h2 trivial
      exact ⟨b2,(hg.trans hg2.symm).trans e2,rfl⟩
     ·refine ⟨_,t3,rfl,fun cs hl=>?_⟩
      have hg:=h'.given 1000800 _ (by decide) hl trivial
      have hg3:=hR.given 1000800 _ (by decide) h3 trivial
      exact ⟨b3,(hg.trans hg3.symm).trans e3,rfl⟩)
    obtain ⟨x',v,hx,hv,hs,hr⟩:=qH (G:=jG.G) (fn:=Tryz.f6) (rs:=[nodeT,cU]) (f:=fun x=>x) bM hF hk
    subst hx
    match e,hlt with
    | 0,_=>exact ⟨h'.calm rfl,_,rfl,_,by simp [results,Tryz.results13],rfl,rfl,v,hv,hs,hr⟩
    | 1,_=>exact ⟨h'.calm rfl,_,rfl,_,by simp [results,Tryz.results13],rfl,rfl,v,hv,hs,hr⟩
    | n+2,h=>rw [Nat.blt_eq] at h;omega
abbrev lI:nodeT.den:=Rose.mk (0,0,[],0) []
noncomputable def VI (text:Za):Option (nodeT.den×(Int×Int)):=
 br (decide ((text.length:Int)>40000)) (some (lI,(2,0)))
  (jc (jG text [] 0 0 [] 0 0 0) fun y=>sel y (fun u=>some u) (fun v=>some (lI,(1,v))))
noncomputable def VI.ce:Go.Ql.Callee:=⟨[.str],[nodeT,cU],fun x_=>VI x_⟩
noncomputable def r0:Code:=match Tryz.f6.body with
 | some (.seq a _)=>a
 | _=>.skip
noncomputable def r1:Code:=match Tryz.f6.body with
 | some (.seq _ (.seq a _))=>a
 | _=>.skip
noncomputable def r3:Code:=match Tryz.f6.body with
 | some (.seq _ (.seq _ (.seq a _)))=>a
 | _=>.skip
def OJ:Tryz.f6.body=some (.seq r0 (.seq r1 (.seq r3 (Yz (bX Tryz.f6))))):=by kernel_rfl
noncomputable def GD:Env:=⟨35,tab,[(12,YI.ce)],[0,2,3,4,7,23],[2,5002],[],[],[],gQ,[]⟩
noncomputable def stD (s:Za):St:=⟨[(0,.one (.val .str s)),(2,.one (.ref 2 0)),(3,.one (.ref 3 0))],
 [(2,.box [.val (.int .i64) 0,.val (.int .i64) 0,.val .str [],.val (.int .i64) 0,.own 5002 0]),(3,.box [.val (.int .i64) 0,.val (.int .i64) 0]),(5002,.arr 0 false 24 nodeT [])]⟩
def RX (s:Za):Vs GD r0 (Ex×St) ⟨[(0,.one (.val .str s))],[]⟩ (fun e st=>some (e,st))=some (0,stD s):=by kernel_rfl
def rN:AllOk Tryz.prog GD:=⟨mK YI.ok lY,g8,dV,gR⟩
def K8:Vw GD r0=true:=by kernel_rfl
def GM:Yr GD.cks r0=[]:=by kernel_rfl
def zL:Vw GD r1=true:=by kernel_rfl
def wC:Yr GD.cks r1=[]:=by kernel_rfl
noncomputable def C5 (b:Bool) (e:Ex) (st:St):Option (YL [nodeT,cU]⊕(Ex×St)):=bif Nat.beq e 1 then cW GD st Tryz.f6.results.toList (CY (Ql.look st.sj) [nodeT,cU] fun x=>.inl x) else some (.inr (e,st))
def M5 (s:Za):Vs GD r1 _ (stD s) (C5 true)=br (decide ((s.length:Int)>40000)) (some (.inl (lI,((2,0):Int×Int)))) (some (.inr (0,stD s))):=by kernel_rfl
def GI:AllOk Tryz.prog jG.G:=⟨mK YI.ok lY,vW jR.ok g8,dV,vC Ji.ok gR⟩
def mkf (fn:Fn) (first cap:Array Value) (w:World):(Instr.makeFunc fn first cap).run Tryz.prog w=.ok (.func fn first cap) w:=rfl
def dfd (p q:Addr):Deferred:=⟨.fn (.func 13) #[.pointer (some p),.pointer (some q)],#[]⟩
def RY {Q:Exit→Act→World→Prop} {a:Act} {w:World} {p q:Addr} (hsz:a.tmps.size=35) (h2:a.tmps[2]?=some (.pointer (some p))) (h3:a.tmps[3]?=some (.pointer (some q))) (hd:a.defers=[])
 (h:Q .normal ⟨a.tmps.setIfInBounds 10 (.func (.func 13) #[] #[.pointer (some p),.pointer (some q)]),[dfd p q]⟩ w):r3.wp Tryz.prog Q a w:=by
 unfold r3 Tryz.f6
 apply wp_region
 have e2:a.tmps.getD 2 undef=.pointer (some p):=by simp [h2]
 have e3:a.tmps.getD 3 undef=.pointer (some q):=by simp [h3]
 simp [wpOps,go_sem,mkf,h2,h3,hd,hsz]
 rw [(Array.getElem?_eq_some_iff.1 h2).2,(Array.getElem?_eq_some_iff.1 h3).2]
 exact .inl (.inl h)
def yP (w:World) (p q:Addr):(invoke (.fn (.func 13) #[.pointer (some p),.pointer (some q)]) #[]).run Tryz.prog w=.ok (.enter 13 #[.pointer (some p),.pointer (some q)]) w:=by
 simp [go_sem]
def DD (i:Nat):Nat:=if i=1000700 then 2 else if i=1000800 then 3 else 5002
def mS {A B C:Ob} {id:Nat} {ob:Ob} (h:Ql.look [(1000695,A),(1000700,B),(1000800,C)] id=some ob):(id=1000695∧ob=A)∨(id=1000700∧ob=B)∨(id=1000800∧ob=C):=by
 have h:=Ul h
 simpa [zr] using h
def AT {s:Za} {w:World} {Z0:Bs} {nm:JY} {sj:List (Nat×Ob)} {w0:World} {a:Act} {b2 b3:Nat} (h0:a.tmps[0]?=some (.string ⟨s.toArray⟩)) (h2:a.tmps[2]?=some (.pointer (some ⟨b2,0,none⟩))) (h3:a.tmps[3]?=some (.pointer (some ⟨b3,0,none⟩)))
 (e2:nm 1000700=.pointer (some ⟨b2,0,none⟩)) (e3:nm 1000800=.pointer (some ⟨b3,0,none⟩)) :
 ∀t d,Ql.look [(0,Dv.one (.val .str s)),(2,.one (.ref 1000700 0)),(3,.one (.ref 1000800 0))] t=some d → ∃v,a.tmps[t]?=some v∧Vf w (Zc w0 Z0 nm sj w) nm sj d v:=by
 intro t d hl
 have hl:=Ul hl
 simp only [Z5,zr,List.not_mem_nil,or_false] at hl
 rcases hl with ⟨rfl,rfl⟩ | ⟨rfl,rfl⟩ | ⟨rfl,rfl⟩
 ·exact ⟨_,h0,rfl⟩
 ·exact ⟨_,h2,rfl,fun cs hl=>⟨b2,e2,rfl⟩⟩
 ·exact ⟨_,h3,rfl,fun cs hl=>⟨b3,e3,rfl⟩⟩
def OK {st:St} (h:jG.chk st=true):Ql.look st.mj 2=some (.one (.ref 1000700 0))∧Ql.look st.mj 3=some (.one (.ref 1000800 0)) ∧
 (∃k at0 s m,Ql.look st.sj 1000700=some (.box [.val (.int .i64) k,.val (.int .i64) at0,.val .str s,.val (.int .i64) m,.own 1000695 0])) ∧ ∃f0 f1,Ql.look st.sj 1000800=some (.box [.val (.int .i64) f0,.val (.int .i64) f1]):=by
 unfold jG.chk at h
 split at h
 ·rename_i h1 h2 h3 h4
  exact ⟨h1,h2,⟨_,_,_,_,h3⟩,_,_,h4⟩
 ·cases h
def VI.ok:vj Tryz.prog 6 VI.ce:=by
 refine ⟨⟨Tryz.f6,Tryz.func6,by kernel_rfl,by kernel_rfl⟩,fun w Z vs s r hg hZ ha hr=>?_⟩
 obtain ⟨v,rfl,hv⟩:=ha
 change [v]=[Value.string ⟨List.toArray s⟩] at hv
 obtain rfl:=List.cons.inj hv |>.1
 have hr:VI s=some r:=hr
 unfold VI at hr
 refine calls_of_wp_defers Tryz.func6 OJ ?_
 apply wp_seq
 have hrel:Rel 35 w ⟨Z,fun _=>False,fun _=>undef,[],true⟩ ⟨[(0,.one (.val .str s))],[]⟩ { tmps:=[Value.string ⟨List.toArray s⟩].toArray++Array.replicate (Tryz.f6.ntmps-[Value.string ⟨List.toArray s⟩].toArray.size) undef,defers:=[] } w (fun _=>undef):=by
  refine ⟨⟨[],rfl,Marks.nil _ _ _⟩,by simp,fun t d hl=>?_,fun id ob hl=>by simp [Ql.look] at hl,fun id ob b hl=>by simp [Ql.look] at hl,fun id id' ob ob' b hl=>by simp [Ql.look] at hl,SameBut.refl _ w,fun id ob _ hl=>by simp [Ql.look] at hl,⟨hg,fun b hb=>hb.elim⟩,fun _=>rfl⟩
  have hl:=Ul hl
  simp only [Z5,zr,List.not_mem_nil,or_false] at hl
  obtain ⟨rfl,rfl⟩:=hl
  exact ⟨.string ⟨List.toArray s⟩,by simp,rfl⟩
 refine wpIn_wide.1 (Hu bM rN mixed r0 K8 (by rw [GM];intro p hp;cases hp) none (.inr (by kernel_rfl)) hrel (RX s) ?_)
 intro e st0 a0 w0 nm0 h0 hk0 _
 cases hk0
 show Code.wp Tryz.prog _ _ a0 w0
 apply wp_seq
 cases hlen:decide ((s.length:Int)>40000) with
 | true=>
   rw [hlen] at hr
   cases hr
   refine wpIn_wide.1 (Hu bM rN mixed r1 zL (by rw [wC];intro p hp;cases hp) none (.inr (by kernel_rfl)) h0 ((M5 s).trans (by rw [hlen];rfl)) ?_)
   intro e st1 a1 w1 nm1 h1 hk1 _
   unfold C5 at hk1
   cases he:Nat.beq e 1 with
   | false=>rw [he] at hk1;cases hk1
   | true=>
     have:=Jx.1 he
     subst this
     rw [he] at hk1
     simp only [zj] at hk1
     show Leaves Tryz.prog Tryz.f6 a1.tmps _ a1.defers .returning w1
     rw [h1.calm rfl]
     obtain ⟨x',v,hx,hv,hsm,hrd⟩:=qH (G:=GD) (fn:=Tryz.f6) (rs:=[nodeT,cU]) (ρ:=YL [nodeT,cU]⊕(Ex×St)) (f:=Sum.inl) bM h1 hk1
     cases hx
     exact ⟨v,hv,v,rfl,hsm,hrd⟩
 | false=>
   rw [hlen] at hr
   obtain ⟨y,hy,hr⟩:=ki hr
   refine wpIn_wide.1 (Hu bM rN mixed r1 zL (by rw [wC];intro p hp;cases hp) none (.inr (by kernel_rfl)) h0 ((M5 s).trans (by rw [hlen];rfl)) ?_)
   intro e st1 a1 w1 nm1 h1 hk1 _
   unfold C5 at hk1
   cases he:Nat.beq e 1 with
   | true=>
     rw [he] at hk1
     simp only [zj] at hk1
     obtain ⟨x',v,hx,hv,hsm,hrd⟩:=qH (G:=GD) (fn:=Tryz.f6) (rs:=[nodeT,cU]) (ρ:=YL [nodeT,cU]⊕(Ex×St)) (f:=Sum.inl) bM h1 hk1
     cases hx
   | false=>
     rw [he] at hk1
     simp only [zk] at hk1
     cases hk1
     show Code.wp Tryz.prog _ _ a1 w1
     apply wp_seq
     obtain ⟨v0,t0,d0⟩:=h1.mj 0 _ rfl
     obtain ⟨v2,t2,d2⟩:=h1.mj 2 _ rfl
     obtain ⟨v3,t3,d3⟩:=h1.mj 3 _ rfl
     have d0:[v0]=[Value.string ⟨List.toArray s⟩]:=d0
     obtain rfl:=(List.cons.inj d0).1
     obtain ⟨b2,n2,rfl⟩:=d2.2 _ rfl
     obtain ⟨b3,n3,rfl⟩:=d3.2 _ rfl
     refine RY h1.size t2 t3 (h1.calm rfl) ?_
     have q1:=h1.renum2 (sj:=[(1000695,.arr 0 false 24 nodeT []),(1000700,.box [.val (.int .i64) 0,.val (.int .i64) 0,.val .str [],.val (.int .i64) 0,.own 1000695 0]),(1000800,.box [.val (.int .i64) 0,.val (.int .i64) 0])]) (nm':=fun i=>nm1 (DD i)) (old:=DD) (by
      intro i j hij hi hj
      obtain ⟨o,ho⟩:=Option.isSome_iff_exists.1 hi
      obtain ⟨o',ho'⟩:=Option.isSome_iff_exists.1 hj
      rcases mS ho with ⟨rfl,_⟩ | ⟨rfl,_⟩ | ⟨rfl,_⟩<;>rcases mS ho' with ⟨rfl,_⟩ | ⟨rfl,_⟩ | ⟨rfl,_⟩<;>first | rfl | (exact absurd hij (by decide))) (by
      intro id ob hl
      rcases mS hl with ⟨rfl,rfl⟩ | ⟨rfl,rfl⟩ | ⟨rfl,rfl⟩
      ·exact ⟨_,rfl,rfl,rfl⟩
      ·refine ⟨_,rfl,⟨_,rfl,rfl,fun j x hx=>?_⟩,rfl⟩
       match j,hx with
       | 0,hx=>cases hx;exact ⟨_,rfl,.inl ⟨_,_,rfl,rfl⟩⟩
       | 1,hx=>cases hx;exact ⟨_,rfl,.inl ⟨_,_,rfl,rfl⟩⟩
       | 2,hx=>cases hx;exact ⟨_,rfl,.inl ⟨_,_,rfl,rfl⟩⟩
       | 3,hx=>cases hx;exact ⟨_,rfl,.inl ⟨_,_,rfl,rfl⟩⟩
       | 4,hx=>cases hx;exact ⟨_,rfl,.inr ⟨_,_,rfl,rfl⟩⟩
       | j+5,hx=>cases hx
      ·refine ⟨_,rfl,⟨_,rfl,rfl,fun j x hx=>?_⟩,rfl⟩
       match j,hx with
       | 0,hx=>cases hx;exact ⟨_,rfl,.inl ⟨_,_,rfl,rfl⟩⟩
       | 1,hx=>cases hx;exact ⟨_,rfl,.inl ⟨_,_,rfl,rfl⟩⟩
       | j+2,hx=>cases hx)
     have m2:(fun i=>nm1 (DD i)) 1000700=.pointer (some ⟨b2,0,none⟩):=n2
     have m3:(fun i=>nm1 (DD i)) 1000800=.pointer (some ⟨b3,0,none⟩):=n3
     have q2:=q1.frame (cm:=true) (n':=35) (a':=⟨a1.tmps.setIfInBounds 10 (.func (.func 13) #[] #[.pointer (some ⟨b2,0,none⟩),.pointer (some ⟨b3,0,none⟩)]),[dfd ⟨b2,0,none⟩ ⟨b3,0,none⟩]⟩) (df:=[dfd ⟨b2,0,none⟩ ⟨b3,0,none⟩]) rfl (by rw [Array.size_setIfInBounds];exact h1.size)
      (AT (s:=s) (by simpa using t0) (by simpa using t2) (by simpa using t3) m2 m3)
     have key:Vs jG.G (Yz (bX Tryz.f6)) _ (jG.pre.inj (s,([]:List nodeT.den),(0:Int),(0:Int),([]:Za),(0:Int),(0:Int),(0:Int),())) (lX jG.G (bX Tryz.f6).results.toList [nodeT,cU] 35 (.st (.int .i64)) jG.chk)=some y:=(jG.ok.eq (s,([]:List nodeT.den),(0:Int),(0:Int),([]:Za),(0:Int),(0:Int),(0:Int),())).trans hy
     refine wpIn_wide.1 (Hu bM GI mixed (Yz (bX Tryz.f6)) jG.ok.draws jG.ok.ps none (.inr (by kernel_rfl)) (st:=jG.pre.inj (s,([]:List nodeT.den),(0:Int),(0:Int),([]:Za),(0:Int),(0:Int),(0:Int),())) q2 key ?_)
     intro e st a w2 nm h hk _
     unfold lX at hk
     cases hlt:Nat.blt e 2 with
     | true=>
       rw [hlt] at hk
       simp only [zj] at hk
       have fin:Leaves Tryz.prog Tryz.f6 a.tmps (fun e w'=>∃v,e=.returned v∧Same w w'∧bV w' (aQ w w' Z) [nodeT,cU] r v) a.defers .returning w2:=by
        rw [h.calm rfl]
        refine leaves_cons (by simp) (yP _ _ _) ?_
        refine (CG _ _ w2).mono ?_
        rintro e u' w3 ⟨rfl,rfl,hs⟩
        obtain ⟨x',v,hx,hv,hsm,hrd⟩:=qH (G:=jG.G) (fn:=Tryz.f6) (rs:=[nodeT,cU]) (ρ:=YL [nodeT,cU]⊕(Ty.st (.int .i64)).den) (f:=Sum.inl) bM (h.grow hs) hk
        subst hx
        cases hr
        exact ⟨v,hv,v,rfl,hsm,hrd⟩
       match e,hlt with
       | 0,_=>exact fin
       | 1,_=>exact fin
       | n+2,h=>rw [Nat.blt_eq] at h;omega
     | false=>
       rw [hlt] at hk
       simp only [zk] at hk
       cases hp:Nat.beq e mA&&jG.chk st with
       | false=>rw [hp] at hk;cases hk
       | true=>
         rw [hp] at hk
         simp only [zj] at hk
         rw [ze] at hp
         obtain ⟨hpe,hch⟩:=hp
         have:=Jx.1 hpe
         subst this
         split at hk
         ·rename_i s' d' ho
          split at hk
          ·rename_i hs'
           subst hs'
           cases hk
           obtain ⟨vx,vy,g1,g2,g3⟩:=h.sj Vu _ ho
           have e1:vx=#[]:=by
            have:=g2.1
            simp at this
            exact this
           obtain ⟨v,e2⟩:∃v,vy=#[v]:=by
            have:=g3.1
            match hv:vy.toList,this with
            | [v],_=>exact ⟨v,by rw [←Array.toArray_toList (xs:=vy),hv]⟩
           subst e1;subst e2
           have hv:=g3.2 0 _ _ rfl rfl
           obtain ⟨u,us,eu,hu,hc⟩:=hv
           have eu:=(List.cons.inj eu).1
           obtain rfl:v=.iface 35 u:=eu
           have hu:u=.agg us:=by
            rcases hu with ⟨_,e⟩ | ⟨hu,_⟩
            ·exact e
            ·cases hu
           subst hu
           have ec:us.toList=[.int .i64 d']:=hc
           have eus:us=#[.int .i64 d']:=by rw [←Array.toArray_toList (xs:=us),ec]
           subst eus
           obtain ⟨s2,s3,⟨k,at0,nmz,m,o2⟩,f0,f1,o3⟩:=OK hch
           have k2:nm 1000700=_:=h.given 1000700 _ (by decide) o2 trivial
           have k3:nm 1000800=_:=h.given 1000800 _ (by decide) o3 trivial
           have k2:=k2.trans m2
           have k3:=k3.trans m3
           obtain ⟨u2,t2',d2'⟩:=h.mj 2 _ s2
           obtain ⟨u3,t3',d3'⟩:=h.mj 3 _ s3
           obtain ⟨b4,j2,rfl⟩:=d2'.2 _ o2
           obtain ⟨b5,j3,rfl⟩:=d3'.2 _ o3
           rw [k2] at j2
           rw [k3] at j3
           cases j2
           cases j3
           show dR _ nm hJ a w2
           unfold dR
           rw [if_pos rfl]
           refine ⟨_,g1,?_⟩
           show Leaves Tryz.prog Tryz.f6 a.tmps _ a.defers (.panicking [_]) w2
           rw [h.calm rfl]
           refine leaves_cons (by simp) (yP _ _ _) ?_
           refine (xV h o2 o3 k2 k3 d' [] (a2:=a) h.size t2' t3').mono ?_
           rintro e u' w3 ⟨rfl,rfl,v',hv',hs,hr'⟩
           cases hr
           exact ⟨v',hv',v',rfl,hs,hr'⟩
          ·cases hk
         ·cases hk
end W
end

section
set_option maxHeartbeats 4000000
set_option maxRecDepth 100000
namespace W
open Go Go.Ql Go.Proofs Go.IntKind
noncomputable section
variable {ρ:Type}
def kP.c2 (n0:Int)(n1:Int)(n2:Za)(n3:Int)(n4:Ze)(f0:Int)(Z:Bool→Option ρ):Option ρ:= br (f0==0) (jc (kH (Rose.mk (n0,n1,n2,n3) n4)) fun y=>Z (y==Z9 [104,32,113,91,50,93,59,10])) (Z false)
def kP.c2s:Sj:=⟨[(0,Nj),(1,tg45),(2,rF)],[(1,VQ),(2,th41)]⟩
def kP.c2r:RC:=⟨kP.c2s,[(kP.c2s,0,[201])],no,[1,2,3,4,5,6],@kP.c2,fun _ _ _ _ _ _ _ _=>jt (jb fun _=>ja) ja⟩
def kP  : Option Bool:= jc (VI (Z9 [104,32,113,32,91,32,50,32,93,32,59])) fun y=>jc (kP.c2 y.1.hQ.1 y.1.hQ.2.1 y.1.hQ.2.2.1 y.1.hQ.2.2.2 y.1.kQ y.2.1 some) fun y1=>some y1
def kP.ce:=Vt tab Tryz.f8 kP
def kP.G:EB Zh:=⟨tb,Tryz.f8,[⟨6,VI.ce,VI.ok⟩,⟨10,kH.ce,kH.ok⟩],[0,1,2],[],[],[(2,kP.c2r.ck)],[],[]⟩
def kP.ok:vj Zh 8 kP.ce:=Uj kP.G Tryz.func8 (m:=1) ⟨trivial,kR kP.c2r⟩
def kZ.c7 (n0:Int)(n1:Int)(n2:Za)(n3:Int)(n4:Ze)(m0:Int)(m1:Int)(m2:Za)(m3:Int)(m4:Ze)(Z:Bool→Option ρ):Option ρ:= jc (kH (Rose.mk (m0,m1,m2,m3) m4)) fun y=>jc (Yl (Rose.mk (m0,m1,m2,m3) m4)) fun y1=>br (y==y1) (jc (kH (Rose.mk (n0,n1,n2,n3) n4)) fun y2=>jc (Yl (Rose.mk (m0,m1,m2,m3) m4)) fun y3=>Z (y2==y3)) (Z false)
def kZ.c7s:Sj:=⟨[(0,cL),(2,Nj),(3,fV),(4,pD),(5,uZ)],[(3,VQ),(4,th41),(5,VQ),(6,th41)]⟩
def kZ.c7r:RC:=⟨kZ.c7s,[(kZ.c7s,0,[1,201])],no,[2,3,4,5,6,9,10,11,12,13],@kZ.c7,fun _ _ _ _ _ _ _ _ _ _ _ _=>jb fun _=>(jb fun _=>(jt (jb fun _=>(jb fun _=>ja)) ja))⟩
def kZ (text:Za):Option Bool:= jc (VI text) fun y=>jc kP fun y1=>br (!y1) (some false) (br (y.2.1 !=0) (jc (HU (Rose.mk (y.1.hQ.1,y.1.hQ.2.1,y.1.hQ.2.2.1,y.1.hQ.2.2.2) y.1.kQ,Rose.mk ((0:Int),(0:Int),[],(0:Int)) [],true,())) fun y2=>some y2.1) (jc (kq text) fun y3=>jc (kZ.c7 y.1.hQ.1 y.1.hQ.2.1 y.1.hQ.2.2.1 y.1.hQ.2.2.2 y.1.kQ y3.1.hQ.1 y3.1.hQ.2.1 y3.1.hQ.2.2.1 y3.1.hQ.2.2.2 y3.1.kQ some) fun y4=>some y4))
def kZ.ce:=Vt tab Tryz.f4 kZ
def kZ.G:EB Zh:=⟨tb,Tryz.f4,[⟨6,VI.ce,VI.ok⟩,⟨8,kP.ce,kP.ok⟩,⟨7,kq.ce,kq.ok⟩,⟨10,kH.ce,kH.ok⟩,⟨11,Yl.ce,Yl.ok⟩],[0,2,3,4,5,13,16],[],[(7,[])],[(7,kZ.c7r.ck)],[⟨9,HU.mc,HU.ok⟩],[]⟩
def kZ.ok:vj Zh 4 kZ.ce:=Uj kZ.G Tryz.func4 (m:=1) ⟨trivial,kR kZ.c7r⟩
end
end W
end
