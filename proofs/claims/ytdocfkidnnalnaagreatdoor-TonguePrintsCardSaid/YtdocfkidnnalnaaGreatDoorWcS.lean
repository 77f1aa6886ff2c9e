/- Lifted functions, part 3: each with its contract. -/
import Derived.Test.YtdocfkidnnalnaaGreatDoorWbS
import Derived.Test.YtdocfkidnnalnaaGreatDoorLfS
import Derived.Test.YtdocfkidnnalnaaGreatDoorProg
set_option linter.all false
section
set_option maxHeartbeats 4000000
set_option maxRecDepth 100000
namespace W
open Go Go.Ql Go.Proofs Go.IntKind
noncomputable section
variable {ρ:Type}
def Nm (code:Int) (t1:Int):Option (Int×Int):= some (code,t1)
def Nm.ce:=Vt tab Tryz.f16 Nm
def Nm.G:EB Zh:=⟨tb,Tryz.f16,[],[0,1,4],[],[],[],[],[]⟩
def Nm.ok:vj Zh 16 Nm.ce:=Uj Nm.G Tryz.func16 (m:=0) trivial
def YM.c1 (c:Int)(Z:Bool→Option ρ):Option ρ:= br (decide (c≥48)) (Z (decide (c≤57))) (Z false)
def YM.c1s:Sj:=⟨[(0,B1),(2,Nj)],[]⟩
def YM.c1r:RC:=⟨YM.c1s,[(YM.c1s,0,[1,201])],no,[0],@YM.c1,fun _ _ _=>jt ja ja⟩
def YM (c:Int):Option Bool:= jc (YM.c1 c some) fun y=>some y
def YM.ce:=Vt tab Tryz.f32 YM
def YM.G:EB Zh:=⟨tb,Tryz.f32,[],[0,2],[],[],[(1,YM.c1r.ck)],[],[]⟩
def YM.ok:vj Zh 32 YM.ce:=Uj YM.G Tryz.func32 (m:=1) ⟨trivial,kR YM.c1r⟩
def YH.c1 (c:Int)(Z:Bool→Option ρ):Option ρ:= br (decide (c≥97)) (br (decide (c≤122)) (Z true) (br (decide (c≥65)) (br (decide (c≤90)) (Z true) (Z (c==95))) (Z (c==95)))) (br (decide (c≥65)) (br (decide (c≤90)) (Z true) (Z (c==95))) (Z (c==95)))
def YH.c1s:Sj:=⟨[(0,B1),(2,Nj)],[]⟩
def YH.c1r:RC:=⟨YH.c1s,[(YH.c1s,0,[1,201])],no,[0],@YH.c1,fun _ _ _=>jt (jt ja (jt (jt ja ja) ja)) (jt (jt ja ja) ja)⟩
def YH (c:Int):Option Bool:= jc (YH.c1 c some) fun y=>some y
def YH.ce:=Vt tab Tryz.f33 YH
def YH.G:EB Zh:=⟨tb,Tryz.f33,[],[0,2],[],[],[(1,YH.c1r.ck)],[],[]⟩
def YH.ok:vj Zh 33 YH.ce:=Uj YH.G Tryz.func33 (m:=1) ⟨trivial,kR YH.c1r⟩
abbrev G5:SD:=.one (.val (.sl .str))
def YU.ca_ (w:Za)(l:List Za)(i:Int)(Z:Int⊕(Int⊕Int)→Option ρ):Option ρ:= br (decide (i<(l.length:Int))) (jc (idx l i) fun y=>br (y==w) (Z (.inr (.inl i))) (Z (.inl (i64.wrap (i+1))))) (Z (.inr (.inr i)))
def YU.ca_s:Sj:=⟨[(0,cL),(1,G5),(4,Nj),(5,iI)],[]⟩
def YU.ca_r:LC:=⟨YU.ca_s,[(YU.ca_s,1,[2,400,201,301]),(YU.ca_s,2,[3,201])],fun X=>(true,()),[3],[0,1,3],@YU.ca_,fun _ _ _ _ _=>jt (jb fun _=>(jt ja ja)) ja⟩
def YU (w:Za) (l:List Za):Option Bool:= jc (iter (fun s↦YU.ca_ w l s some) (0:Int)) fun y=>sel y (fun u=>some true) (fun v=>some false)
def YU.ce:=Vt tab Tryz.f34 YU
def YU.G:EB Zh:=⟨tb,Tryz.f34,[],[0,1,4,5,9,17],[],[],[(100002,YU.ca_r.ck)],[],[]⟩
def YU.ok:vj Zh 34 YU.ce:=Uj YU.G Tryz.func34 (m:=1) ⟨trivial,kL YU.ca_r⟩
abbrev th5:SD:=.one (.val (.sl (.st (.pair (.int .i64) (.pair .str (.int .i64))))))
abbrev th6:SD:=.one (.own 6 0)
abbrev th7:SO:=.arr 0 false 52 (.st (.pair (.int .i64) (.pair .str (.int .i64))))
def jx.c8 (c:Int)(Z:Bool→Option ρ):Option ρ:= br (c==32) (Z true) (br (c==9) (Z true) (br (c==10) (Z true) (Z (c==13))))
def jx.c8s:Sj:=⟨[(0,cL),(2,th5),(3,G5),(4,G5),(5,G5),(6,th6),(7,iI),(8,B1)],[(6,th7)]⟩
def jx.c8r:RC:=⟨jx.c8s,[((jx.c8s.s 35 Nj),0,[7,101])],no,[6],@jx.c8,fun _ _ _=>jt ja (jt ja (jt ja ja))⟩
def jx.c10 (text:Za)(i:Int)(c:Int)(Z:Bool→Option ρ):Option ρ:= br (c==47) (br (decide (i64.wrap (i+1)<(text.length:Int))) (jc (idx text (i64.wrap (i+1))) fun y=>Z ((↑(UInt8.toNat y):Int)==47)) (Z false)) (Z false)
def jx.c10r:RC:=⟨jx.c8s,[((jx.c8s.s 53 Nj),0,[7,101])],no,[0,5,6],@jx.c10,fun _ _ _ _ _=>jt (jt (jb fun _=>ja) ja) ja⟩
def jx.c11 (text:Za)(i:Int)(Z:Bool→Option ρ):Option ρ:= br (decide (i<(text.length:Int))) (jc (idx text i) fun y=>Z ((↑(UInt8.toNat y):Int) !=10)) (Z false)
def jx.c11r:RC:=⟨jx.c8s,[((jx.c8s.s 63 Nj),0,[7,101])],no,[0,5],@jx.c11,fun _ _ _ _=>jt (jb fun _=>ja) ja⟩
def jx.ci_ (text:Za)(i:Int)(Z:Int⊕Int→Option ρ):Option ρ:= jc (jx.c11 text i some) fun y=>br y (Z (.inl (i64.wrap (i+1)))) (Z (.inr i))
def jx.ci_r:LC:=⟨jx.c8s,[(jx.c8s,4,[5,201])],no,[5],[0,5],@jx.ci_,fun _ _ _ _=>jb fun _=>(jt ja ja)⟩
def jx.c14 (text:Za)(c:Int)(j:Int)(Z:Bool→Option ρ):Option ρ:= br (decide (j<(text.length:Int))) (jc (idx text j) fun y=>jc (YM (↑(UInt8.toNat y):Int)) fun y1=>br y1 (jc (YH c) fun y2=>br y2 (Z true) (jc (YM c) fun y3=>Z y3)) (jc (idx text j) fun y4=>jc (YH (↑(UInt8.toNat y4):Int)) fun y5=>br y5 (jc (YM c) fun y6=>br (!y6) (jc (YH c) fun y7=>br y7 (Z true) (jc (YM c) fun y8=>Z y8)) (Z false)) (Z false))) (Z false)
def jx.c14s:Sj:=(jx.c8s.s 9 iI)
def jx.c14r:RC:=⟨jx.c14s,[((jx.c14s.s 95 Nj),0,[8,101])],no,[0,6,7],@jx.c14,fun _ _ _ _ _=>jt (jb fun _=>(jb fun _=>(jt (jb fun _=>(jt ja (jb fun _=>ja))) (jb fun _=>(jb fun _=>(jt (jb fun _=>(jt (jb fun _=>(jt ja (jb fun _=>ja))) ja)) ja)))))) ja⟩
def jx.cl_ (text:Za)(c:Int)(j:Int)(Z:Int⊕Int→Option ρ):Option ρ:= jc (jx.c14 text c j some) fun y=>br y (Z (.inl (i64.wrap (j+1)))) (Z (.inr j))
def jx.cl_r:LC:=⟨jx.c14s,[(jx.c14s,6,[7,201])],no,[7],[0,6,7],@jx.cl_,fun _ _ _ _ _=>jb fun _=>(jt ja ja)⟩
def jx.c18 (text:Za)(two:List Za)(i:Int)(j:Int)(Z:Bool→Option ρ):Option ρ:= br (j==i) (br (decide (i64.wrap (i+1)<(text.length:Int))) (jc (Je (decide ((0:Int)≤i)&&decide (i≤i64.wrap (i+2))&&decide (i64.wrap (i+2)≤(text.length:Int)))) fun y=>jc (YU (List.drop (Int.toNat i) (List.take (Int.toNat (i64.wrap (i+2))) text)) two) fun y1=>Z y1) (Z false)) (Z false)
def jx.c18s:Sj:=(((jx.c14s.s 10 cL).s 11 tg43).o 11 UB)
def jx.c18x0:Sj:=(jx.c18s.s 123 Nj)
def jx.c18r:RC:=⟨jx.c18s,[(jx.c18x0,0,[9,101])],no,[0,3,5,7],@jx.c18,fun _ _ _ _ _ _=>jt (jt (jb fun _=>(jb fun _=>ja)) ja) ja⟩
def jx.c21 (text:Za)(one:List Za)(i:Int)(j:Int)(Z:Bool→Option ρ):Option ρ:= br (j==i) (jc (Je (decide ((0:Int)≤i)&&decide (i≤i64.wrap (i+1))&&decide (i64.wrap (i+1)≤(text.length:Int)))) fun y=>jc (YU (List.drop (Int.toNat i) (List.take (Int.toNat (i64.wrap (i+1))) text)) one) fun y1=>Z y1) (Z false)
def jx.c21r:RC:=⟨jx.c18x0,[((jx.c18x0.s 144 Nj),0,[10,101])],no,[0,4,5,7],@jx.c21,fun _ _ _ _ _ _=>jt (jb fun _=>(jb fun _=>ja)) ja⟩
def jx.c24 (i:Int)(c:Int)(j:Int)(w:Za)(Z:Bool→Option ρ):Option ρ:= br (decide (j>i)) (jc (YM c) fun y=>br y (br (decide ((w.length:Int)<10)) (br ((w.length:Int)==1) (Z true) (Z (c !=48))) (Z false)) (Z false)) (Z false)
def jx.c24r:RC:=⟨jx.c18x0,[((jx.c18x0.s 174 Nj),0,[10,101])],no,[5,6,7,8],@jx.c24,fun _ _ _ _ _ _=>jt (jb fun _=>(jt (jt (jt ja ja) ja) ja)) ja⟩
def jx.c26 (i:Int)(c:Int)(j:Int)(Z:Bool→Option ρ):Option ρ:= br (decide (j>i)) (jc (YH c) fun y=>Z y) (Z false)
def jx.c26r:RC:=⟨jx.c18x0,[((jx.c18x0.s 182 Nj),0,[10,101])],no,[5,6,7],@jx.c26,fun _ _ _ _ _=>jt (jb fun _=>ja) ja⟩
def jx.cac_ (text:Za)(keys:List Za)(two:List Za)(one:List Za)(i:Int)(c:Int)(j:Int)(w:Za)(t0:Int)(t1:Za)(t2_1:Int)(Z:Int×Bool×Int×Za×Int→Option ρ):Option ρ:= jc (jx.c18 text two i j some) fun y=>br y (jc (Je (decide ((0:Int)≤i)&&decide (i≤i64.wrap (i+2))&&decide (i64.wrap (i+2)≤(text.length:Int)))) fun y1=>Z ((i64.wrap (i+2)),y,(2:Int),(List.drop (Int.toNat i) (List.take (Int.toNat (i64.wrap (i+2))) text)),i)) (jc (jx.c21 text one i j some) fun y2=>br y2 (jc (Je (decide ((0:Int)≤i)&&decide (i≤i64.wrap (i+1))&&decide (i64.wrap (i+1)≤(text.length:Int)))) fun y3=>Z ((i64.wrap (i+1)),y,(2:Int),(List.drop (Int.toNat i) (List.take (Int.toNat (i64.wrap (i+1))) text)),i)) (jc (jx.c24 i c j w some) fun y4=>br y4 (Z (j,y,(3:Int),t1,t2_1)) (jc (jx.c26 i c j some) fun y5=>br y5 (jc (YU w keys) fun y6=>br y6 (Z (j,y,(2:Int),t1,t2_1)) (Z (j,y,(1:Int),t1,t2_1))) (Z (j,y,t0,t1,t2_1)))))
def jx.cac_r:RC:=⟨jx.c18s,[(jx.c18x0,0,[7,201,1,101,1,203])],no,[0,2,3,4,5,6,7,8,10,11,12],@jx.cac_,fun _ _ _ _ _ _ _ _ _ _ _ _ _=>jb fun _=>(jt (jb fun _=>ja) (jb fun _=>(jt (jb fun _=>ja) (jb fun _=>(jt ja (jb fun _=>(jt (jb fun _=>(jt ja ja)) ja)))))))⟩
def jx.cf_ (text:Za)(keys:List Za)(two:List Za)(one:List Za)(i:Int)(out:Zf)(Z:(Int×Zf)⊕((Int×Zf)⊕(Int×Zf))→Option ρ):Option ρ:= br (decide (i<(text.length:Int))) (jc (idx text i) fun y=>jc (jx.c8 (↑(UInt8.toNat y):Int) some) fun y1=>br y1 (Z (.inl ((i64.wrap (i+1)),out))) (jc (jx.c10 text i (↑(UInt8.toNat y):Int) some) fun y2=>br y2 (jc (iter (fun s↦jx.ci_ text s some) i) fun y3=>Z (.inl (y3,out))) (jc (iter (fun s↦jx.cl_ text (↑(UInt8.toNat y):Int) s some) i) fun y4=>jc (Je (decide ((0:Int)≤i)&&decide (i≤y4)&&decide (y4≤(text.length:Int)))) fun y5=>jc (jx.cac_ text keys two one i (↑(UInt8.toNat y):Int) y4 (List.drop (Int.toNat i) (List.take (Int.toNat y4) text)) (4:Int) (List.drop (Int.toNat i) (List.take (Int.toNat y4) text)) i some) fun y6=>jc (Je (decide ((out.length+1)*32≤140737488355328)&&decide (out.length+1≤140737488355328))) fun y7=>br (y6.2.2.1==4) (Z (.inr (.inl (i,(out++[(y6.2.2.1,y6.2.2.2.1,y6.2.2.2.2)]))))) (Z (.inl (y6.1,(out++[(y6.2.2.1,y6.2.2.2.1,y6.2.2.2.2)]))))))) (Z (.inr (.inr (i,out))))
def jx.cf_s:Sj:=(jx.c8s.d 8)
def jx.cf_r:LC:=⟨jx.cf_s,[((jx.cf_s.s 2 th6),1,[1,301,3,202]),(jx.cf_s,2,[5,202])],no,[5,6],[0,2,3,4,5,6],@jx.cf_,fun _ _ _ _ _ _ _ _=>jt (jb fun _=>(jb fun _=>(jt ja (jb fun _=>(jt (jb fun _=>ja) (jb fun _=>(jb fun _=>(jb fun _=>(jb fun _=>(jt ja ja)))))))))) ja⟩
def jx (text:Za):Option Zf:= jc (iter (fun s↦jx.cf_ text [Z9 [113,117,98,105,116],Z9 [98,105,116],Z9 [99,111,110,115,116],Z9 [103,97,116,101],Z9 [102,111,114],Z9 [105,110],Z9 [119,104,101,110],Z9 [105,102],Z9 [101,108,115,101],Z9 [109,101,97,115,117,114,101],Z9 [114,101,115,101,116],Z9 [119,105,116,104,105,110],Z9 [97,112,112,108,121],Z9 [105,110,118],Z9 [99,116,114,108],Z9 [112,111,119],Z9 [115,105,122,101]] [Z9 [46,46],Z9 [45,62],Z9 [94,61],Z9 [61,61],Z9 [33,61],Z9 [60,61],Z9 [62,61],Z9 [42,42]] [Z9 [123],Z9 [125],Z9 [40],Z9 [41],Z9 [91],Z9 [93],Z9 [59],Z9 [44],Z9 [64],Z9 [61],Z9 [60],Z9 [62],Z9 [43],Z9 [45],Z9 [42],Z9 [47],Z9 [37],Z9 [33],Z9 [38],Z9 [124],Z9 [94]] s.1 s.2 some) ((0:Int),[])) fun y=>sel y (fun u=>some u.2) (fun v=>jc (Je (decide ((List.length v.2+1)*32≤140737488355328)&&decide (List.length v.2+1≤140737488355328))) fun y1=>some (v.2++[((0:Int),Z9 [],(text.length:Int))]))
def jx.ce:=Vt tab Tryz.f17 jx
def jx.G:EB Zh:=⟨tb,Tryz.f17,[⟨32,YM.ce,YM.ok⟩,⟨33,YH.ce,YH.ok⟩,⟨34,YU.ce,YU.ok⟩],[0,2,3,4,5,6,7,8,9,10,11,18,35,53,63,95,123,144,174,182,186,194],[6,1002737550123,2000000000123],[],[(100006,jx.cf_r.ck),(273755,jx.cac_r.ck),(26,jx.c26r.ck),(24,jx.c24r.ck),(21,jx.c21r.ck),(18,jx.c18r.ck),(100014,jx.cl_r.ck),(14,jx.c14r.ck),(100011,jx.ci_r.ck),(11,jx.c11r.ck),(10,jx.c10r.ck),(8,jx.c8r.ck)],[],[]⟩
def jx.ok:vj Zh 17 jx.ce:=Uj jx.G Tryz.func17 (m:=12) ⟨⟨⟨⟨⟨⟨⟨⟨⟨⟨⟨⟨trivial,kL jx.cf_r⟩,kR jx.c8r⟩,kR jx.c10r⟩,kL jx.ci_r⟩,kR jx.c11r⟩,kL jx.cl_r⟩,kR jx.c14r⟩,kJ jx.cac_r⟩,kR jx.c18r⟩,kR jx.c21r⟩,kR jx.c24r⟩,kR jx.c26r⟩
abbrev Vy:SO:=.box [.val (.sl (.st (.pair (.int .i64) (.pair .str (.int .i64))))),.val (.int .i64),.val (.int .i64)]
def JL.pre:Sj:=⟨[(0,VP)],[(1000100,Vy)]⟩
def JL.c1 (ua:Zf)(ub:Int)(Z:Int×Za×Int→Option ρ):Option ρ:= jc (idx ua ub) fun y=>Z (y.1,y.2.1,y.2.2)
def JL.c1s:Sj:=((JL.pre.s 2 rF).o 2 UB)
def JL.c1r:RC:=⟨JL.c1s,[(JL.c1s,0,[203])],no,[3,4],@JL.c1,fun _ _ _ _=>jb fun _=>ja⟩
def JL (ua:Zf) (ub:Int) (uc:Int):Option (Zb×Zf×Int×Int×Unit):= jc (JL.c1 ua ub some) fun y=>some ((y.1,y.2.1,y.2.2),ua,ub,uc,())
def JL.mc:xj:=⟨18,JL.pre,⟨[(0,nS)],[(1000100,Vy)]⟩,fun X=>JL X.1 X.2.1 X.2.2.1⟩
def JL.G:EB Zh:=⟨tb,Tryz.f18,[],[0,2],[1000100],[(1,[(10,[2])])],[(1,JL.c1r.ck)],[],[]⟩
def JL.ok:MOk Zh 18 JL.mc:=Ub JL.G (mc:=JL.mc) Tryz.func18 (m:=1) ⟨trivial,kR JL.c1r⟩
def JJ.pre:Sj:=⟨[(0,VP),(1,cL)],[(1000100,Vy)]⟩
def JJ.c1 (w:Za)(ua:Zf)(ub:Int)(uc:Int)(Z:Bool×Zf×Int×Int→Option ρ):Option ρ:= br (decide (uc<0)) (jc (JL ua ub uc) fun y=>br (y.1.1==2) (jc (JL y.2.1 y.2.2.1 y.2.2.2.1) fun y1=>Z ((y1.1.2.1==w),y1.2.1,y1.2.2.1,y1.2.2.2.1)) (Z (false,y.2.1,y.2.2.1,y.2.2.2.1))) (Z (false,ua,ub,uc))
def JJ.c1s:Sj:=(JJ.pre.s 4 Nj)
def JJ.c1r:RC:=⟨JJ.c1s,[(JJ.c1s,0,[1,204])],no,[0,2,3,4],@JJ.c1,fun _ _ _ _ _ _=>jt (jb fun _=>(jt (jb fun _=>ja) ja)) ja⟩
def JJ (w:Za) (ua:Zf) (ub:Int) (uc:Int):Option (Bool×Zf×Int×Int×Unit):= jc (JJ.c1 w ua ub uc some) fun y=>some (y.1,y.2.1,y.2.2.1,y.2.2.2,())
def JJ.mc:xj:=⟨35,JJ.pre,⟨[(0,Nj)],[(1000100,Vy)]⟩,fun X=>JJ X.1 X.2.1 X.2.2.1 X.2.2.2.1⟩
def JJ.G:EB Zh:=⟨tb,Tryz.f35,[],[0,1,4],[1000100],[],[(1,JJ.c1r.ck)],[⟨18,JL.mc,JL.ok⟩],[]⟩
def JJ.ok:MOk Zh 35 JJ.mc:=Ub JJ.G (mc:=JJ.mc) Tryz.func35 (m:=1) ⟨trivial,kR JJ.c1r⟩
def Jh.pre:Sj:=⟨[(0,VP)],[(1000100,Vy)]⟩
def Jh.c2 (ua:Zf)(ub:Int)(uc:Int)(Z:Bool→Option ρ):Option ρ:= br (decide (ub<i64.wrap ((ua.length:Int)-1))) (Z (decide (uc<0))) (Z false)
def Jh.c2s:Sj:=((((Jh.pre.s 2 rF).s 3 fV).o 2 UB).o 3 UB)
def Jh.c2r:RC:=⟨Jh.c2s,[((Jh.c2s.s 23 Nj),0,[101])],no,[6,7,8],@Jh.c2,fun _ _ _ _ _=>jt ja ja⟩
def Jh.cc_ (ua:Zf)(ub:Int)(uc:Int)(Z:Int→Option ρ):Option ρ:= jc (Jh.c2 ua ub uc some) fun y=>br y (Z (i64.wrap (ub+1))) (Z ub)
def Jh.cc_r:RC:=⟨Jh.c2s,[(Jh.c2s,0,[7,201])],no,[6,7,8],@Jh.cc_,fun _ _ _ _ _=>jb fun _=>(jt ja ja)⟩
def Jh (ua:Zf) (ub:Int) (uc:Int):Option (Zb×Zf×Int×Int×Unit):= jc (JL ua ub uc) fun y=>jc (Jh.cc_ y.2.1 y.2.2.1 y.2.2.2.1 some) fun y1=>some ((y.1.1,y.1.2.1,y.1.2.2),y.2.1,y1,y.2.2.2.1,())
def Jh.mc:xj:=⟨36,Jh.pre,⟨[(0,nS)],[(1000100,Vy)]⟩,fun X=>Jh X.1 X.2.1 X.2.2.1⟩
def Jh.G:EB Zh:=⟨tb,Tryz.f36,[],[0,2,3,23],[1000100],[(2,[])],[(208197,Jh.cc_r.ck),(2,Jh.c2r.ck)],[⟨18,JL.mc,JL.ok⟩],[]⟩
def Jh.ok:MOk Zh 36 Jh.mc:=Ub Jh.G (mc:=Jh.mc) Tryz.func36 (m:=2) ⟨⟨trivial,kJ Jh.cc_r⟩,kR Jh.c2r⟩
def VA (ua:Zf) (ub:Int) (uc:Int):Option (Zf×Int×Int×Unit):= br (decide (uc<0)) (jc (JL ua ub uc) fun y=>some (y.2.1,y.2.2.1,y.1.2.2,())) (some (ua,ub,uc,()))
def VA.mc:xj:=⟨75,⟨[(0,VP)],[(1000100,Vy)]⟩,⟨[],[(1000100,Vy)]⟩,fun X=>VA X.1 X.2.1 X.2.2.1⟩
def VA.G:EB Zh:=⟨tb,Tryz.f75,[],[0,6],[1000100],[],[],[⟨18,JL.mc,JL.ok⟩],[]⟩
def VA.ok:MOk Zh 75 VA.mc:=Ub VA.G (mc:=VA.mc) Tryz.func75 (m:=0) trivial
def kn.pre:Sj:=⟨[(0,VP)],[(1000100,Vy)]⟩
def kn.cc_ (t0:Int)(ua:Zf)(ub:Int)(uc:Int)(Z:Zf×Int×Int→Option ρ):Option ρ:= br (t0 !=1) (jc (VA ua ub uc) fun y=>Z (y.1,y.2.1,y.2.2.1)) (Z (ua,ub,uc))
def kn.cc_s:Sj:=((((kn.pre.s 2 rF).s 3 fV).o 2 UB).o 3 UB)
def kn.cc_r:RC:=⟨kn.cc_s,[(kn.cc_s,0,[6,203])],no,[3,6,7,8],@kn.cc_,fun _ _ _ _ _ _=>jt (jb fun _=>ja) ja⟩
def kn (ua:Zf) (ub:Int) (uc:Int):Option (Zb×Zf×Int×Int×Unit):= jc (JL ua ub uc) fun y=>jc (kn.cc_ y.1.1 y.2.1 y.2.2.1 y.2.2.2.1 some) fun y1=>jc (Jh y1.1 y1.2.1 y1.2.2) fun y2=>some ((y2.1.1,y2.1.2.1,y2.1.2.2),y2.2.1,y2.2.2.1,y2.2.2.2.1,())
def kn.mc:xj:=⟨37,kn.pre,⟨[(0,nS)],[(1000100,Vy)]⟩,fun X=>kn X.1 X.2.1 X.2.2.1⟩
def kn.G:EB Zh:=⟨tb,Tryz.f37,[],[0,2,3,8],[1000100],[],[(208197,kn.cc_r.ck)],[⟨18,JL.mc,JL.ok⟩,⟨75,VA.mc,VA.ok⟩,⟨36,Jh.mc,Jh.ok⟩],[]⟩
def kn.ok:MOk Zh 37 kn.mc:=Ub kn.G (mc:=kn.mc) Tryz.func37 (m:=1) ⟨trivial,kJ kn.cc_r⟩
def JO (w:Za) (ua:Zf) (ub:Int) (uc:Int):Option (Zb×Zf×Int×Int×Unit):= jc (JL ua ub uc) fun y=>jc (JJ w y.2.1 y.2.2.1 y.2.2.2.1) fun y1=>br (!y1.1) (jc (VA y1.2.1 y1.2.2.1 y1.2.2.2.1) fun y2=>some ((y.1.1,y.1.2.1,y.1.2.2),y2.1,y2.2.1,y2.2.2.1,())) (jc (Jh y1.2.1 y1.2.2.1 y1.2.2.2.1) fun y3=>some ((y3.1.1,y3.1.2.1,y3.1.2.2),y3.2.1,y3.2.2.1,y3.2.2.2.1,()))
def JO.mc:xj:=⟨38,⟨[(0,VP),(1,cL)],[(1000100,Vy)]⟩,⟨[(0,nS)],[(1000100,Vy)]⟩,fun X=>JO X.1 X.2.1 X.2.2.1 X.2.2.2.1⟩
def JO.G:EB Zh:=⟨tb,Tryz.f38,[],[0,1,4,5,11],[1000100],[],[],[⟨18,JL.mc,JL.ok⟩,⟨35,JJ.mc,JJ.ok⟩,⟨75,VA.mc,VA.ok⟩,⟨36,Jh.mc,Jh.ok⟩],[]⟩
def JO.ok:MOk Zh 38 JO.mc:=Ub JO.G (mc:=JO.mc) Tryz.func38 (m:=0) trivial
def kA.c3 (w:Za)(Z:Bool→Option ρ):Option ρ:= br (w==Z9 [43]) (Z true) (Z (w==Z9 [45]))
def kA.c3s:Sj:=⟨[(0,cL),(2,iI)],[]⟩
def kA.c3r:RC:=⟨kA.c3s,[((kA.c3s.s 11 Nj),0,[2,101])],no,[0],@kA.c3,fun _ _ _=>jt ja ja⟩
def kA.c5 (w:Za)(Z:Bool→Option ρ):Option ρ:= br (w==Z9 [42]) (Z true) (br (w==Z9 [47]) (Z true) (Z (w==Z9 [37])))
def kA.c5r:RC:=⟨kA.c3s,[((kA.c3s.s 21 Nj),0,[2,101])],no,[0],@kA.c5,fun _ _ _=>jt ja (jt ja ja)⟩
def kA (w:Za):Option Int:= jc (YU w [Z9 [61,61],Z9 [33,61],Z9 [60],Z9 [60,61],Z9 [62],Z9 [62,61]]) fun y=>br y (some (1:Int)) (jc (kA.c3 w some) fun y1=>br y1 (some (2:Int)) (jc (kA.c5 w some) fun y2=>br y2 (some (3:Int)) (br (w==Z9 [42,42]) (some (5:Int)) (some (0:Int)))))
def kA.ce:=Vt tab Tryz.f77 kA
def kA.G:EB Zh:=⟨tb,Tryz.f77,[⟨34,YU.ce,YU.ok⟩],[0,2,5,11,21,23],[],[],[(5,kA.c5r.ck),(3,kA.c3r.ck)],[],[]⟩
def kA.ok:vj Zh 77 kA.ce:=Uj kA.G Tryz.func77 (m:=2) ⟨⟨trivial,kR kA.c3r⟩,kR kA.c5r⟩
def YA (kind:Int) (t1:Int) (name:Za) (n:Int) (kids:Ze):Option Zd:= some (Rose.mk (kind,t1,name,n) kids)
def YA.ce:=Vt tab Tryz.f20 YA
def YA.G:EB Zh:=⟨tb,Tryz.f20,[],[0,1,2,3,4,10],[],[],[],[],[]⟩
def YA.ok:vj Zh 20 YA.ce:=Uj YA.G Tryz.func20 (m:=0) trivial
abbrev lR:SD:=.one (.val (.sl (.int .i64)))
abbrev lS:SO:=.box [.val .bool,.val (.sl (.int .i64))]
def Ya.c2 (d:Zg)(n:Int)(Z:Bool→Option ρ):Option ρ:= br (decide (n>0)) (jc (idx d (i64.wrap (n-1))) fun y=>Z (y==0)) (Z false)
def Ya.c2s:Sj:=⟨[(0,Nj),(1,lR),(4,pD),(5,iI)],[(4,lS)]⟩
def Ya.c2r:RC:=⟨Ya.c2s,[((Ya.c2s.s 17 Nj),0,[3,101])],no,[1,2],@Ya.c2,fun _ _ _ _=>jt (jb fun _=>ja) ja⟩
def Ya.ca_ (d:Zg)(n:Int)(Z:Int⊕Int→Option ρ):Option ρ:= jc (Ya.c2 d n some) fun y=>br y (Z (.inl (i64.wrap (n-1)))) (Z (.inr n))
def Ya.ca_r:LC:=⟨Ya.c2s,[(Ya.c2s,2,[2,201])],no,[2],[1,2],@Ya.ca_,fun _ _ _ _=>jb fun _=>(jt ja ja)⟩
def Ya (neg:Bool) (d:Zg):Option (Bool×Zg):= jc (iter (fun s↦Ya.ca_ d s some) ↑(d.length)) fun y=>br (y==0) (some (false,[])) (jc (Je (decide ((0:Int)≤y)&&decide (y≤(d.length:Int)))) fun y1=>some (neg,List.take (Int.toNat y) d))
def Ya.ce:=Vt tab Tryz.f126 Ya
def Ya.G:EB Zh:=⟨tb,Tryz.f126,[],[0,1,4,5,17,21],[],[],[(100002,Ya.ca_r.ck),(2,Ya.c2r.ck)],[],[]⟩
def Ya.ok:vj Zh 126 Ya.ce:=Uj Ya.G Tryz.func126 (m:=2) ⟨⟨trivial,kL Ya.ca_r⟩,kR Ya.c2r⟩
abbrev L0:SD:=.one (.own 4 0)
abbrev D6:SO:=.arr 0 false 3 (.int .i64)
def JU.c1 (text:Za)(Z:Bool→Option ρ):Option ρ:= br (decide ((text.length:Int)>0)) (jc (idx text (0:Int)) fun y=>Z ((↑(UInt8.toNat y):Int)==45)) (Z false)
def JU.c1s:Sj:=⟨[(0,cL),(2,rF)],[(2,lS)]⟩
def JU.c1x0:Sj:=(JU.c1s.s 3 Nj)
def JU.c1r:RC:=⟨JU.c1s,[(JU.c1x0,0,[1,101])],no,[0],@JU.c1,fun _ _ _=>jt (jb fun _=>ja) ja⟩
def JU.cc_ (text:Za)(neg:Bool)(Z:Za→Option ρ):Option ρ:= br neg (jc (Je (decide ((1:Int)≤(text.length:Int))&&decide ((text.length:Int)≤(text.length:Int)))) fun y=>Z (List.drop (1:Nat) (List.take (Int.toNat (text.length:Int)) text))) (Z text)
def JU.cc_r:RC:=⟨JU.c1x0,[(JU.c1x0,0,[201])],no,[0,1],@JU.cc_,fun _ _ _ _=>jt (jb fun _=>ja) ja⟩
def JU.cv_ (text:Za)(n:Int)(j:Int)(Z:Int→Option ρ):Option ρ:= br (decide (j≥0)) (jc (idx text j) fun y=>Z (i64.wrap (i64.wrap (n*10)+i64.wrap (u8.wrap ((↑(UInt8.toNat y):Int)-48))))) (Z n)
def JU.cv_s:Sj:=(((((JU.c1x0.s 4 L0).s 5 iI).s 6 iI).s 7 iI).o 4 D6)
def JU.cv_r:RC:=⟨JU.cv_s,[((JU.cv_s.s 33 Nj),0,[3,201,1,400])],fun X=>((decide ((q4 X).1≥0)),()),[0,3,4],@JU.cv_,fun _ _ _ _ _=>jt (jb fun _=>ja) ja⟩
def JU.cW_ (text:Za)(i:Int)(n:Int)(j:Int)(Z:(Int×Int)⊕(Int×Int)→Option ρ):Option ρ:= br (decide (j<i)) (jc (JU.cv_ text n j some) fun y=>Z (.inl (y,(i64.wrap (j+1))))) (Z (.inr (n,j)))
def JU.cW_r:LC:=⟨JU.cv_s,[(JU.cv_s,4,[3,202])],no,[3,4],[0,2,3,4],@JU.cW_,fun _ _ _ _ _ _=>jt (jb fun _=>ja) ja⟩
def JU.cf_ (text:Za)(i:Int)(d:Zg)(Z:(Int×Zg)⊕(Int×Zg)→Option ρ):Option ρ:= br (decide (i>0)) (jc (iter (fun s↦JU.cW_ text i s.1 s.2 some) ((0:Int),i64.wrap (i-4))) fun y=>jc (Je (decide ((d.length+1)*8≤140737488355328)&&decide (d.length+1≤140737488355328))) fun y1=>Z (.inl ((i64.wrap (i-4)),(d++[y.1])))) (Z (.inr (i,d)))
def JU.cf_s:Sj:=((JU.cv_s.d 6).d 7)
def JU.cf_r:LC:=⟨JU.cf_s,[(JU.cf_s,2,[2,201,2,201])],no,[2,5],[0,2,5],@JU.cf_,fun _ _ _ _ _=>jt (jb fun _=>(jb fun _=>ja)) ja⟩
def JU (text:Za):Option (Bool×Zg):= jc (JU.c1 text some) fun y=>jc (JU.cc_ text y some) fun y1=>jc (iter (fun s↦JU.cf_ y1 s.1 s.2 some) ((y1.length:Int),[])) fun y2=>jc (Ya y y2.2) fun y3=>some (y3.1,y3.2)
def JU.ce:=Vt tab Tryz.f107 JU
def JU.G:EB Zh:=⟨tb,Tryz.f107,[⟨126,Ya.ce,Ya.ok⟩],[0,2,3,4,5,6,7,16,22,29,33],[4,1002491580033,2000000000033],[],[(100006,JU.cf_r.ck),(100010,JU.cW_r.ck),(249158,JU.cv_r.ck),(208197,JU.cc_r.ck),(1,JU.c1r.ck)],[],[]⟩
def JU.ok:vj Zh 107 JU.ce:=Uj JU.G Tryz.func107 (m:=5) ⟨⟨⟨⟨⟨trivial,kR JU.c1r⟩,kJ JU.cc_r⟩,kL JU.cf_r⟩,kL JU.cW_r⟩,kJ JU.cv_r⟩
abbrev th20:SD:=.one (.val (.int .u64))
def Vr.cc_ (n:Int)(u:Int)(Z:Int→Option ρ):Option ρ:= br (decide (n<0)) (Z (u64.wrap ((0:Int)-u))) (Z u)
def Vr.cc_s:Sj:=⟨[(0,iI),(2,rF),(3,th20)],[(2,lS)]⟩
def Vr.cc_r:RC:=⟨Vr.cc_s,[(Vr.cc_s,0,[1,201])],no,[0,1],@Vr.cc_,fun _ _ _ _=>jt ja ja⟩
def Vr.cd_ (u:Int)(d:Zg)(Z:(Int×Zg)⊕(Int×Zg)→Option ρ):Option ρ:= br (decide (u>0)) (jc (Je (decide ((d.length+1)*8≤140737488355328)&&decide (d.length+1≤140737488355328))) fun y=>Z (.inl ((u64.wrap (Int.tdiv u (10000:Int))),(d++[i64.wrap (Int.tmod u (10000:Int))])))) (Z (.inr (u,d)))
def Vr.cd_s:Sj:=((Vr.cc_s.s 4 L0).o 4 D6)
def Vr.cd_r:LC:=⟨Vr.cd_s,[(Vr.cd_s,2,[1,201,2,201])],no,[1,4],[1,4],@Vr.cd_,fun _ _ _ _=>jt (jb fun _=>ja) ja⟩
def Vr (n:Int):Option (Bool×Zg):= jc (Vr.cc_ n (IntKind.wrap IntKind.u64 n) some) fun y=>jc (iter (fun s↦Vr.cd_ s.1 s.2 some) (y,[])) fun y1=>jc (Ya (decide (n<0)) y1.2) fun y2=>some (y2.1,y2.2)
def Vr.ce:=Vt tab Tryz.f121 Vr
def Vr.G:EB Zh:=⟨tb,Tryz.f121,[⟨126,Ya.ce,Ya.ok⟩],[0,2,3,4,8,12],[4],[],[(100005,Vr.cd_r.ck),(208197,Vr.cc_r.ck)],[],[]⟩
def Vr.ok:vj Zh 121 Vr.ce:=Uj Vr.G Tryz.func121 (m:=2) ⟨⟨trivial,kJ Vr.cc_r⟩,kL Vr.cd_r⟩
def bB (a:Bool×Zg):Option (Bool×Zg):= jc (Ya (!a.1) a.2) fun y=>some (y.1,y.2)
def bB.ce:=Vt tab Tryz.f138 bB
def bB.G:EB Zh:=⟨tb,Tryz.f138,[⟨126,Ya.ce,Ya.ok⟩],[0,1,2],[],[],[],[],[]⟩
def bB.ok:vj Zh 138 bB.ce:=Uj bB.G Tryz.func138 (m:=0) trivial
def kI.c4 (a:Zg)(b:Zg)(c:Int)(i:Int)(Z:Bool→Option ρ):Option ρ:= br (decide (i<(a.length:Int))) (Z true) (br (decide (i<(b.length:Int))) (Z true) (Z (decide (c>0))))
def kI.c4s:Sj:=⟨[(0,lR),(1,lR),(4,lR),(5,tg35),(6,iI),(7,iI)],[(5,D6)]⟩
def kI.c4r:RC:=⟨kI.c4s,[((kI.c4s.s 21 Nj),0,[5,101])],no,[0,1,3,4],@kI.c4,fun _ _ _ _ _ _=>jt ja (jt ja ja)⟩
def kI.co_ (a:Zg)(c:Int)(i:Int)(Z:Int→Option ρ):Option ρ:= br (decide (i<(a.length:Int))) (jc (idx a i) fun y=>Z (i64.wrap (c+y))) (Z c)
def kI.co_x0:Sj:=(kI.c4s.s 27 Nj)
def kI.co_r:RC:=⟨kI.c4s,[(kI.co_x0,0,[3,201,1,400])],fun X=>((decide ((q4 X).1<(X.1.length:Int))),()),[0,3,4],@kI.co_,fun _ _ _ _ _=>jt (jb fun _=>ja) ja⟩
def kI.cu_ (b:Zg)(c:Int)(i:Int)(Z:Int→Option ρ):Option ρ:= br (decide (i<(b.length:Int))) (jc (idx b i) fun y=>Z (i64.wrap (c+y))) (Z c)
def kI.cu_r:RC:=⟨kI.co_x0,[((kI.co_x0.s 37 Nj),0,[3,201,2,400])],fun X=>((decide ((q4 X).1<(X.2.1.length:Int))),()),[1,3,4],@kI.cu_,fun _ _ _ _ _=>jt (jb fun _=>ja) ja⟩
def kI.ce_ (a:Zg)(b:Zg)(c:Int)(i:Int)(out:Zg)(Z:(Int×Int×Zg)⊕(Int×Int×Zg)→Option ρ):Option ρ:= jc (kI.c4 a b c i some) fun y=>br y (jc (kI.co_ a c i some) fun y1=>jc (kI.cu_ b y1 i some) fun y2=>jc (Je (decide ((out.length+1)*8≤140737488355328)&&decide (out.length+1≤140737488355328))) fun y3=>Z (.inl ((i64.wrap (Int.tdiv y2 (10000:Int))),(i64.wrap (i+1)),(out++[Int.tmod y2 (10000:Int)])))) (Z (.inr (c,i,out)))
def kI.ce_r:LC:=⟨kI.c4s,[(kI.c4s,2,[3,203])],no,[3,4,5],[0,1,3,4,5],@kI.ce_,fun _ _ _ _ _ _ _=>jb fun _=>(jt (jb fun _=>(jb fun _=>(jb fun _=>ja))) ja)⟩
def kI (a:Zg) (b:Zg):Option Zg:= jc (iter (fun s↦kI.ce_ a b s.1 s.2.1 s.2.2 some) ((0:Int),(0:Int),[])) fun y=>some y.2.2
def kI.ce:=Vt tab Tryz.f145 kI
def kI.G:EB Zh:=⟨tb,Tryz.f145,[],[0,1,4,5,6,7,21,27,37],[5,1002245810027,1002327730037,2000000000027,2000000000037],[],[(100004,kI.ce_r.ck),(232773,kI.cu_r.ck),(224581,kI.co_r.ck),(4,kI.c4r.ck)],[],[]⟩
def kI.ok:vj Zh 145 kI.ce:=Uj kI.G Tryz.func145 (m:=4) ⟨⟨⟨⟨trivial,kL kI.ce_r⟩,kR kI.c4r⟩,kJ kI.co_r⟩,kJ kI.cu_r⟩
def Yp.c8 (a:Zg)(b:Zg)(i:Int)(Z:Bool→Option ρ):Option ρ:= jc (idx a i) fun y=>jc (idx b i) fun y1=>Z (decide (y<y1))
def Yp.c8s:Sj:=⟨[(0,lR),(1,lR),(4,iI),(5,iI)],[]⟩
def Yp.c8r:RC:=⟨Yp.c8s,[((Yp.c8s.s 31 Nj),0,[4,101])],no,[0,1,3],@Yp.c8,fun _ _ _ _ _=>jb fun _=>(jb fun _=>ja)⟩
def Yp.c10 (a:Zg)(b:Zg)(i:Int)(Z:Bool→Option ρ):Option ρ:= jc (idx a i) fun y=>jc (idx b i) fun y1=>Z (decide (y>y1))
def Yp.c10r:RC:=⟨Yp.c8s,[((Yp.c8s.s 40 Nj),0,[4,101])],no,[0,1,3],@Yp.c10,fun _ _ _ _ _=>jb fun _=>(jb fun _=>ja)⟩
def Yp.cf_ (a:Zg)(b:Zg)(i:Int)(Z:Int⊕((Int×Int)⊕Int)→Option ρ):Option ρ:= br (decide (i≥0)) (jc (Yp.c8 a b i some) fun y=>br y (Z (.inr (.inl ((-1:Int),i)))) (jc (Yp.c10 a b i some) fun y1=>br y1 (Z (.inr (.inl ((1:Int),i)))) (Z (.inl (i64.wrap (i-1)))))) (Z (.inr (.inr i)))
def Yp.cf_r:LC:=⟨Yp.c8s,[(Yp.c8s,1,[2,202]),(Yp.c8s,2,[3,201])],no,[3],[0,1,3],@Yp.cf_,fun _ _ _ _ _=>jt (jb fun _=>(jt ja (jb fun _=>(jt ja ja)))) ja⟩
def Yp (a:Zg) (b:Zg):Option Int:= br ((a.length:Int) !=(b.length:Int)) (br (decide ((a.length:Int)<(b.length:Int))) (some (-1:Int)) (some (1:Int))) (jc (iter (fun s↦Yp.cf_ a b s some) (i64.wrap ((a.length:Int)-1))) fun y=>sel y (fun u=>some u.1) (fun v=>some (0:Int)))
def Yp.ce:=Vt tab Tryz.f146 Yp
def Yp.G:EB Zh:=⟨tb,Tryz.f146,[],[0,1,4,5,10,15,20,31,40],[],[(10,[]),(8,[])],[(100006,Yp.cf_r.ck),(10,Yp.c10r.ck),(8,Yp.c8r.ck)],[],[]⟩
def Yp.ok:vj Zh 146 Yp.ce:=Uj Yp.G Tryz.func146 (m:=3) ⟨⟨⟨trivial,kL Yp.cf_r⟩,kR Yp.c8r⟩,kR Yp.c10r⟩
def Yj.cA_ (b:Zg)(i:Int)(x:Int)(Z:Int→Option ρ):Option ρ:= br (decide (i<(b.length:Int))) (jc (idx b i) fun y=>Z (i64.wrap (x-y))) (Z x)
def Yj.cA_s:Sj:=⟨[(0,lR),(1,lR),(4,lR),(5,tg35),(6,iI),(7,iI),(8,iI)],[(5,D6)]⟩
def Yj.cA_x0:Sj:=(Yj.cA_s.s 24 Nj)
def Yj.cA_r:RC:=⟨Yj.cA_s,[(Yj.cA_x0,0,[5,101,400,301])],fun X=>((decide ((q4 X).1<(X.2.1.length:Int))),()),[1,4,5],@Yj.cA_,fun _ _ _ _ _=>jt (jb fun _=>ja) ja⟩
def Yj.cS_ (c:Int)(x:Int)(Z:Int×Int→Option ρ):Option ρ:= br (decide (x<0)) (Z ((1:Int),(i64.wrap (x+10000)))) (Z (c,x))
def Yj.cS_r:RC:=⟨Yj.cA_x0,[((Yj.cA_x0.s 32 Nj),0,[3,201,1,201,1,400])],fun X=>((decide ((q4 X).2.1<0)),()),[3,5],@Yj.cS_,fun _ _ _ _=>jt ja ja⟩
def Yj.ce_ (a:Zg)(b:Zg)(c:Int)(i:Int)(out:Zg)(Z:(Int×Int×Zg)⊕(Int×Int×Zg)→Option ρ):Option ρ:= br (decide (i<(a.length:Int))) (jc (idx a i) fun y=>jc (Yj.cA_ b i (i64.wrap (y-c)) some) fun y1=>jc (Yj.cS_ (0:Int) y1 some) fun y2=>jc (Je (decide ((out.length+1)*8≤140737488355328)&&decide (out.length+1≤140737488355328))) fun y3=>Z (.inl (y2.1,(i64.wrap (i+1)),(out++[y2.2])))) (Z (.inr (c,i,out)))
def Yj.ce_s:Sj:=(Yj.cA_s.d 8)
def Yj.ce_r:LC:=⟨Yj.ce_s,[(Yj.ce_s,2,[3,203])],no,[3,4,5],[0,1,3,4,5],@Yj.ce_,fun _ _ _ _ _ _ _=>jt (jb fun _=>(jb fun _=>(jb fun _=>(jb fun _=>ja)))) ja⟩
def Yj (a:Zg) (b:Zg):Option Zg:= jc (iter (fun s↦Yj.ce_ a b s.1 s.2.1 s.2.2 some) ((0:Int),(0:Int),[])) fun y=>some y.2.2
def Yj.ce:=Vt tab Tryz.f147 Yj
def Yj.G:EB Zh:=⟨tb,Tryz.f147,[],[0,1,4,5,6,7,8,12,24,32],[5,1002286770024,1002409670032,2000000000024,2000000000032],[],[(100004,Yj.ce_r.ck),(240967,Yj.cS_r.ck),(228677,Yj.cA_r.ck)],[],[]⟩
def Yj.ok:vj Zh 147 Yj.ce:=Uj Yj.G Tryz.func147 (m:=3) ⟨⟨⟨trivial,kL Yj.ce_r⟩,kJ Yj.cA_r⟩,kJ Yj.cS_r⟩
abbrev AF:SD:=.one (.val (.st (.pair .bool (.sl (.int .i64)))))
def YG.c6 (a0:Bool)(a1:Zg)(b1:Zg)(Z:Bool×Zg→Option ρ):Option ρ:= jc (kI a1 b1) fun y=>jc (Ya a0 y) fun y1=>Z (y1.1,y1.2)
def YG.c6s:Sj:=⟨[(0,AF),(1,AF),(2,rF),(3,fV),(4,pD)],[(2,lS),(3,lS),(4,lS)]⟩
def YG.c6r:RC:=⟨YG.c6s,[(YG.c6s,0,[6,202])],no,[2,3,5],@YG.c6,fun _ _ _ _ _=>jb fun _=>(jb fun _=>ja)⟩
def YG.c8 (a0:Bool)(a1:Zg)(b1:Zg)(Z:Bool×Zg→Option ρ):Option ρ:= jc (Yj a1 b1) fun y=>jc (Ya a0 y) fun y1=>Z (y1.1,y1.2)
def YG.c8r:RC:=⟨YG.c6s,[(YG.c6s,0,[6,202])],no,[2,3,5],@YG.c8,fun _ _ _ _ _=>jb fun _=>(jb fun _=>ja)⟩
def YG.c9 (a1:Zg)(b0:Bool)(b1:Zg)(Z:Bool×Zg→Option ρ):Option ρ:= jc (Yj b1 a1) fun y=>jc (Ya b0 y) fun y1=>Z (y1.1,y1.2)
def YG.c9r:RC:=⟨YG.c6s,[(YG.c6s,0,[6,202])],no,[3,4,5],@YG.c9,fun _ _ _ _ _=>jb fun _=>(jb fun _=>ja)⟩
def YG (a:Bool×Zg) (b:Bool×Zg):Option (Bool×Zg):= br ((↑(List.length a.2):Int)==0) (some (b.1,b.2)) (br ((↑(List.length b.2):Int)==0) (some (a.1,a.2)) (br (a.1==b.1) (jc (YG.c6 a.1 a.2 b.2 some) fun y=>some (y.1,y.2)) (jc (Yp a.2 b.2) fun y1=>br (decide (y1≥0)) (jc (YG.c8 a.1 a.2 b.2 some) fun y2=>some (y2.1,y2.2)) (jc (YG.c9 a.2 b.1 b.2 some) fun y3=>some (y3.1,y3.2)))))
def YG.ce:=Vt tab Tryz.f137 YG
def YG.G:EB Zh:=⟨tb,Tryz.f137,[⟨145,kI.ce,kI.ok⟩,⟨126,Ya.ce,Ya.ok⟩,⟨146,Yp.ce,Yp.ok⟩,⟨147,Yj.ce,Yj.ok⟩],[0,1,2,3,4,8,13,19,33],[],[(9,[(8,[4])]),(8,[(8,[4])]),(6,[(8,[4])])],[(9,YG.c9r.ck),(8,YG.c8r.ck),(6,YG.c6r.ck)],[],[]⟩
def YG.ok:vj Zh 137 YG.ce:=Uj YG.G Tryz.func137 (m:=3) ⟨⟨⟨trivial,kR YG.c6r⟩,kR YG.c8r⟩,kR YG.c9r⟩
def Uy.c1 (a0:Bool)(a1:Zg)(b0:Bool)(b1:Zg)(Z:Bool×Zg→Option ρ):Option ρ:= jc (bB (b0,b1)) fun y=>jc (YG (a0,a1) y) fun y1=>Z (y1.1,y1.2)
def Uy.c1s:Sj:=⟨[(0,AF),(1,AF),(2,rF),(3,fV),(4,pD)],[(2,lS),(3,lS),(4,lS)]⟩
def Uy.c1r:RC:=⟨Uy.c1s,[(Uy.c1s,0,[6,202])],no,[2,3,4,5],@Uy.c1,fun _ _ _ _ _ _=>jb fun _=>(jb fun _=>ja)⟩
def Uy (a:Bool×Zg) (b:Bool×Zg):Option (Bool×Zg):= jc (Uy.c1 a.1 a.2 b.1 b.2 some) fun y=>some (y.1,y.2)
def Uy.ce:=Vt tab Tryz.f134 Uy
def Uy.G:EB Zh:=⟨tb,Tryz.f134,[⟨138,bB.ce,bB.ok⟩,⟨137,YG.ce,YG.ok⟩],[0,1,2,3,4],[],[(1,[(4,[4])])],[(1,Uy.c1r.ck)],[],[]⟩
def Uy.ok:vj Zh 134 Uy.ce:=Uj Uy.G Tryz.func134 (m:=1) ⟨trivial,kR Uy.c1r⟩
def Ny (a:Bool×Zg):Option Int:= br ((↑(List.length a.2):Int)==0) (some (0:Int)) (br a.1 (some (-1:Int)) (some (1:Int)))
def Ny.ce:=Vt tab Tryz.f133 Ny
def Ny.G:EB Zh:=⟨tb,Tryz.f133,[],[0,1,2,6,8],[],[],[],[],[]⟩
def Ny.ok:vj Zh 133 Ny.ce:=Uj Ny.G Tryz.func133 (m:=0) trivial
def aH (a:Bool×Zg) (b:Bool×Zg):Option Int:= jc (Uy (a.1,a.2) (b.1,b.2)) fun y=>jc (Ny y) fun y1=>some y1
def aH.ce:=Vt tab Tryz.f125 aH
def aH.G:EB Zh:=⟨tb,Tryz.f125,[⟨134,Uy.ce,Uy.ok⟩,⟨133,Ny.ce,Ny.ok⟩],[0,1,2,3,4],[],[],[],[],[]⟩
def aH.ok:vj Zh 125 aH.ce:=Uj aH.G Tryz.func125 (m:=0) trivial
def kC.c1 (a0:Bool)(a1:Zg)(Z:Bool→Option ρ):Option ρ:= jc (Vr (-9223372036854775808:Int)) fun y=>jc (aH (a0,a1) y) fun y1=>br (decide (y1<0)) (Z true) (jc (Vr (9223372036854775807:Int)) fun y2=>jc (aH (a0,a1) y2) fun y3=>Z (decide (y3>0)))
def kC.c1s:Sj:=⟨[(0,AF),(1,tg45),(2,iI),(3,Nj)],[(1,lS)]⟩
def kC.c1r:RC:=⟨kC.c1s,[((kC.c1s.s 15 Nj),0,[3,101])],no,[3,4],@kC.c1,fun _ _ _ _=>jb fun _=>(jb fun _=>(jt ja (jb fun _=>(jb fun _=>ja))))⟩
def kC.cd_ (n:Int)(i:Int)(a1:Zg)(Z:(Int×Int)⊕(Int×Int)→Option ρ):Option ρ:= br (decide (i≥0)) (jc (idx a1 i) fun y=>Z (.inl ((i64.wrap (i64.wrap (n*10000)-y)),(i64.wrap (i-1))))) (Z (.inr (n,i)))
def kC.cd_s:Sj:=((kC.c1s.s 4 iI).s 5 iI)
def kC.cd_r:LC:=⟨kC.cd_s,[(kC.cd_s,2,[3,202])],no,[3,4],[3,4,6],@kC.cd_,fun _ _ _ _ _=>jt (jb fun _=>ja) ja⟩
def kC.cu_ (n:Int)(a0:Bool)(Z:Int→Option ρ):Option ρ:= br (!a0) (Z (i64.wrap ((0:Int)-n))) (Z n)
def kC.cu_r:RC:=⟨kC.cd_s,[(kC.cd_s,0,[3,201])],no,[3,5],@kC.cu_,fun _ _ _ _=>jt ja ja⟩
def kC (a:Bool×Zg):Option (Int×Bool):= jc (kC.c1 a.1 a.2 some) fun y=>br y (some ((0:Int),false)) (jc (iter (fun s↦kC.cd_ s.1 s.2 a.2 some) ((0:Int),i64.wrap ((↑(List.length a.2):Int)-1))) fun y1=>jc (kC.cu_ y1.1 a.1 some) fun y2=>some (y2,true))
def kC.ce:=Vt tab Tryz.f106 kC
def kC.G:EB Zh:=⟨tb,Tryz.f106,[⟨121,Vr.ce,Vr.ok⟩,⟨125,aH.ce,aH.ok⟩],[0,1,2,3,4,5,15,21,34],[],[(1,[])],[(232773,kC.cu_r.ck),(100005,kC.cd_r.ck),(1,kC.c1r.ck)],[],[]⟩
def kC.ok:vj Zh 106 kC.ce:=Uj kC.G Tryz.func106 (m:=3) ⟨⟨⟨trivial,kR kC.c1r⟩,kL kC.cd_r⟩,kJ kC.cu_r⟩
def jW.qj.pre:Sj:=⟨[(0,VP),(1,iI)],[(1000100,Vy)]⟩
def jW.qj.post:Sj:=⟨[(0,VM)],[(1000100,Vy)]⟩
def jM.qj.pre:Sj:=⟨[(0,VP)],[(1000100,Vy)]⟩
def jM.qj.post:Sj:=⟨[(0,VM)],[(1000100,Vy)]⟩
class Yk.Self where
  F_R_rp_expr_b:jq jW.qj.pre.tys→Option (jq jW.qj.post.tys)
  ok_R_rp_expr_b:MOk Zh 39 ⟨39,jW.qj.pre,jW.qj.post,F_R_rp_expr_b⟩
  F_R_rp_signed_b:jq jM.qj.pre.tys→Option (jq jM.qj.post.tys)
  ok_R_rp_signed_b:MOk Zh 76 ⟨76,jM.qj.pre,jM.qj.post,F_R_rp_signed_b⟩
section
variable [Yk.Self]
def jW.qj (X:jq jW.qj.pre.tys):Option (jq jW.qj.post.tys):=Yk.Self.F_R_rp_expr_b X
def jW.qj.mc:xj:=⟨39,jW.qj.pre,jW.qj.post,fun X=>jW.qj X⟩
def jW.qj.ok:MOk Zh 39 jW.qj.mc:=Yk.Self.ok_R_rp_expr_b
def jM.qj (X:jq jM.qj.pre.tys):Option (jq jM.qj.post.tys):=Yk.Self.F_R_rp_signed_b X
def jM.qj.mc:xj:=⟨76,jM.qj.pre,jM.qj.post,fun X=>jM.qj X⟩
def jM.qj.ok:MOk Zh 76 jM.qj.mc:=Yk.Self.ok_R_rp_signed_b
def jW.pre:Sj:=⟨[(0,VP),(1,iI)],[(1000100,Vy)]⟩
def jW.c4 {ρ:Type} (level:Int)(ua:Zf)(ub:Int)(uc:Int)(Z:Bool×Zf×Int×Int→Option ρ):Option ρ:= br (decide (uc<0)) (jc (JL ua ub uc) fun y=>br (y.1.1==2) (jc (JL y.2.1 y.2.2.1 y.2.2.2.1) fun y1=>jc (kA y1.1.2.1) fun y2=>Z ((y2==level),y1.2.1,y1.2.2.1,y1.2.2.2.1)) (Z (false,y.2.1,y.2.2.1,y.2.2.2.1))) (Z (false,ua,ub,uc))
def jW.c4s:Sj:=((((jW.pre.s 4 pD).s 5 uZ).o 4 VQ).o 5 VQ)
def jW.c4r:RC:=⟨jW.c4s,[((jW.c4s.s 33 Nj),0,[1,101,10,203])],no,[0,11,12,13],fun _=>jW.c4,fun _ _ _ _ _ _=>jt (jb fun _=>(jt (jb fun _=>(jb fun _=>ja)) ja)) ja⟩
def jW.c6 {ρ:Type} (level:Int)(a0:Int)(a1:Int)(a2:Za)(a3:Int)(a4:Ze)(t1:Za)(t2:Int)(ua:Zf)(ub:Int)(uc:Int)(Z:Int×Int×Za×Int×Ze×Zf×Int×Int→Option ρ):Option ρ:= jc (jW.qj (i64.wrap (level+1),ua,ub,uc,())) fun y=>jc (YA (24:Int) t2 t1 (0:Int) [Rose.mk (a0,a1,a2,a3) a4,y.1]) fun y1=>Z (y1.hQ.1,y1.hQ.2.1,y1.hQ.2.2.1,y1.hQ.2.2.2,y1.kQ,y.2.1,y.2.2.1,y.2.2.2.1)
def jW.c6s:Sj:=((jW.c4s.s 6 D3).o 6 UB)
def jW.c6r:RC:=⟨jW.c6s,[(jW.c6s,0,[6,205,3,203])],no,[0,6,7,8,9,10,12,13,14,15,16],fun _=>jW.c6,fun _ _ _ _ _ _ _ _ _ _ _ _ _=>jb fun _=>(jb fun _=>ja)⟩
def jW.ce_ {ρ:Type} (level:Int)(a0:Int)(a1:Int)(a2:Za)(a3:Int)(a4:Ze)(ua:Zf)(ub:Int)(uc:Int)(Z:(Int×Int×Za×Int×Ze×Zf×Int×Int)⊕(Int×Int×Za×Int×Ze×Zf×Int×Int)→Option ρ):Option ρ:= jc (jW.c4 level ua ub uc some) fun y=>br y.1 (jc (Jh y.2.1 y.2.2.1 y.2.2.2) fun y1=>jc (jW.c6 level a0 a1 a2 a3 a4 y1.1.2.1 y1.1.2.2 y1.2.1 y1.2.2.1 y1.2.2.2.1 some) fun y2=>br (level==1) (Z (.inr (y2.1,y2.2.1,y2.2.2.1,y2.2.2.2.1,y2.2.2.2.2.1,y2.2.2.2.2.2.1,y2.2.2.2.2.2.2.1,y2.2.2.2.2.2.2.2))) (Z (.inl (y2.1,y2.2.1,y2.2.2.1,y2.2.2.2.1,y2.2.2.2.2.1,y2.2.2.2.2.2.1,y2.2.2.2.2.2.2.1,y2.2.2.2.2.2.2.2)))) (Z (.inr (a0,a1,a2,a3,a4,y.2.1,y.2.2.1,y.2.2.2)))
def jW.ce_r:LC:=⟨jW.c4s,[(jW.c4s,2,[6,208])],no,[6,7,8,9,10,11,12,13],[0,6,7,8,9,10,11,12,13],fun _=>jW.ce_,fun _ _ _ _ _ _ _ _ _ _ _=>jb fun _=>(jt (jb fun _=>(jb fun _=>(jt ja ja))) ja)⟩
def jW (level:Int) (ua:Zf) (ub:Int) (uc:Int):Option (Zd×Zf×Int×Int×Unit):= br (level==4) (jc (jM.qj (ua,ub,uc,())) fun y=>some (Rose.mk (y.1.hQ.1,y.1.hQ.2.1,y.1.hQ.2.2.1,y.1.hQ.2.2.2) y.1.kQ,y.2.1,y.2.2.1,y.2.2.2.1,())) (jc (jW.qj (i64.wrap (level+1),ua,ub,uc,())) fun y1=>jc (iter (fun s↦jW.ce_ level s.1 s.2.1 s.2.2.1 s.2.2.2.1 s.2.2.2.2.1 s.2.2.2.2.2.1 s.2.2.2.2.2.2.1 s.2.2.2.2.2.2.2 some) (y1.1.hQ.1,y1.1.hQ.2.1,y1.1.hQ.2.2.1,y1.1.hQ.2.2.2,Rose.kQ y1.1,y1.2.1,y1.2.2.1,y1.2.2.2.1)) fun y2=>some (Rose.mk (y2.1,y2.2.1,y2.2.2.1,y2.2.2.2.1) y2.2.2.2.2.1,y2.2.2.2.2.2.1,y2.2.2.2.2.2.2.1,y2.2.2.2.2.2.2.2,()))
def jW.mc:xj:=⟨39,jW.pre,⟨[(0,VM)],[(1000100,Vy)]⟩,fun X=>jW X.1 X.2.1 X.2.2.1 X.2.2.2.1⟩
def jW.G:EB Zh:=⟨tb,Tryz.f39,[⟨77,kA.ce,kA.ok⟩,⟨20,YA.ce,YA.ok⟩],[0,1,4,5,6,8,33,48],[1000100],[(6,[(8,[1000100]),(9,[45]),(10,[45]),(11,[5])])],[(100004,jW.ce_r.ck),(6,jW.c6r.ck),(4,jW.c4r.ck)],[⟨76,jM.qj.mc,jM.qj.ok⟩,⟨39,jW.qj.mc,jW.qj.ok⟩,⟨18,JL.mc,JL.ok⟩,⟨36,Jh.mc,Jh.ok⟩],[]⟩
def jW.ok:MOk Zh 39 jW.mc:=Ub jW.G (mc:=jW.mc) Tryz.func39 (m:=3) ⟨⟨⟨trivial,kL jW.ce_r⟩,kR jW.c4r⟩,kR jW.c6r⟩
def jM.pre:Sj:=⟨[(0,VP)],[(1000100,Vy)]⟩
def jM.c4 {ρ:Type} (t2:Int)(ua:Zf)(ub:Int)(uc:Int)(Z:Int×Int×Za×Int×Ze×Zf×Int×Int→Option ρ):Option ρ:= jc (jM.qj (ua,ub,uc,())) fun y=>jc (YA (23:Int) t2 (Z9 []) (0:Int) [y.1]) fun y1=>Z (y1.hQ.1,y1.hQ.2.1,y1.hQ.2.2.1,y1.hQ.2.2.2,y1.kQ,y.2.1,y.2.2.1,y.2.2.2.1)
def jM.c4s:Sj:=((((jM.pre.s 2 rF).s 3 fV).o 2 VQ).o 3 UB)
def jM.c4r:RC:=⟨jM.c4s,[(jM.c4s,0,[205,3,203])],no,[7,8,9,10],fun _=>jM.c4,fun _ _ _ _ _ _=>jb fun _=>(jb fun _=>ja)⟩
def jM.cy_ {ρ:Type} (a0:Int)(a1:Int)(a2:Za)(a3:Int)(a4:Ze)(ua:Zf)(ub:Int)(uc:Int)(Z:Int×Int×Za×Int×Ze×Zf×Int×Int→Option ρ):Option ρ:= br (decide (uc<0)) (jc (jW.qj ((1:Int),ua,ub,uc,())) fun y=>Z (y.1.hQ.1,y.1.hQ.2.1,y.1.hQ.2.2.1,y.1.hQ.2.2.2,y.1.kQ,y.2.1,y.2.2.1,y.2.2.2.1)) (Z (a0,a1,a2,a3,a4,ua,ub,uc))
def jM.cy_s:Sj:=((jM.c4s.s 4 pD).o 4 VQ)
def jM.cy_r:RC:=⟨jM.cy_s,[(jM.cy_s,0,[8,208])],no,[8,9,10,11,12,13,14,15],fun _=>jM.cy_,fun _ _ _ _ _ _ _ _ _ _=>jt (jb fun _=>ja) ja⟩
def jM.cZ_ {ρ:Type} (t0:Int)(t1:Za)(t2:Int)(a0:Int)(a1:Int)(a2:Za)(a3:Int)(a4:Ze)(ua:Zf)(ub:Int)(uc:Int)(Z:Int×Int×Za×Int×Ze×Zf×Int×Int→Option ρ):Option ρ:= br (t0==3) (jc (Jh ua ub uc) fun y=>jc (JU t1) fun y1=>jc (kC y1) fun y2=>jc (YA (20:Int) t2 (Z9 []) y2.1 []) fun y3=>Z (y3.hQ.1,y3.hQ.2.1,y3.hQ.2.2.1,y3.hQ.2.2.2,y3.kQ,y.2.1,y.2.2.1,y.2.2.2.1)) (br (t0==1) (jc (Jh ua ub uc) fun y4=>jc (YA (21:Int) t2 t1 (0:Int) []) fun y5=>Z (y5.hQ.1,y5.hQ.2.1,y5.hQ.2.2.1,y5.hQ.2.2.2,y5.kQ,y4.2.1,y4.2.2.1,y4.2.2.2.1)) (jc (JJ (Z9 [115,105,122,101]) ua ub uc) fun y6=>br y6.1 (jc (Jh y6.2.1 y6.2.2.1 y6.2.2.2.1) fun y7=>jc (JO (Z9 [40]) y7.2.1 y7.2.2.1 y7.2.2.2.1) fun y8=>jc (kn y8.2.1 y8.2.2.1 y8.2.2.2.1) fun y9=>jc (JO (Z9 [41]) y9.2.1 y9.2.2.1 y9.2.2.2.1) fun y10=>jc (YA (22:Int) t2 y9.1.2.1 (0:Int) []) fun y11=>Z (y11.hQ.1,y11.hQ.2.1,y11.hQ.2.2.1,y11.hQ.2.2.2,y11.kQ,y10.2.1,y10.2.2.1,y10.2.2.2.1)) (jc (JO (Z9 [40]) y6.2.1 y6.2.2.1 y6.2.2.2.1) fun y12=>jc (jM.cy_ a0 a1 a2 a3 a4 y12.2.1 y12.2.2.1 y12.2.2.2.1 some) fun y13=>jc (JO (Z9 [41]) y13.2.2.2.2.2.1 y13.2.2.2.2.2.2.1 y13.2.2.2.2.2.2.2) fun y14=>Z (y13.1,y13.2.1,y13.2.2.1,y13.2.2.2.1,y13.2.2.2.2.1,y14.2.1,y14.2.2.1,y14.2.2.2.1))))
def jM.cZ_r:RC:=⟨jM.cy_s,[(jM.cy_s,0,[8,208])],no,[5,6,7,8,9,10,11,12,13,14,15],fun _=>jM.cZ_,fun _ _ _ _ _ _ _ _ _ _ _ _ _=>jt (jb fun _=>(jb fun _=>(jb fun _=>(jb fun _=>ja)))) (jt (jb fun _=>(jb fun _=>ja)) (jb fun _=>(jt (jb fun _=>(jb fun _=>(jb fun _=>(jb fun _=>(jb fun _=>ja))))) (jb fun _=>(jb fun _=>(jb fun _=>ja))))))⟩
def jM.c25 {ρ:Type} (t1:Za)(t2:Int)(a0:Int)(a1:Int)(a2:Za)(a3:Int)(a4:Ze)(ua:Zf)(ub:Int)(uc:Int)(Z:Int×Int×Za×Int×Ze×Zf×Int×Int→Option ρ):Option ρ:= jc (jM.qj (ua,ub,uc,())) fun y=>jc (YA (24:Int) t2 t1 (0:Int) [Rose.mk (a0,a1,a2,a3) a4,y.1]) fun y1=>Z (y1.hQ.1,y1.hQ.2.1,y1.hQ.2.2.1,y1.hQ.2.2.2,y1.kQ,y.2.1,y.2.2.1,y.2.2.2.1)
def jM.c25r:RC:=⟨jM.cy_s,[(jM.cy_s,0,[8,208])],no,[6,7,8,9,10,11,12,13,14,15],fun _=>jM.c25,fun _ _ _ _ _ _ _ _ _ _ _ _=>jb fun _=>(jb fun _=>ja)⟩
def jM.cag_ {ρ:Type} (t0:Int)(t1:Za)(t2:Int)(a0:Int)(a1:Int)(a2:Za)(a3:Int)(a4:Ze)(ua:Zf)(ub:Int)(uc:Int)(Z:Int×Za×Int×Int×Int×Za×Int×Ze×Zf×Int×Int→Option ρ):Option ρ:= jc (JJ (Z9 [42,42]) ua ub uc) fun y=>br y.1 (jc (Jh y.2.1 y.2.2.1 y.2.2.2.1) fun y1=>jc (jM.c25 y1.1.2.1 y1.1.2.2 a0 a1 a2 a3 a4 y1.2.1 y1.2.2.1 y1.2.2.2.1 some) fun y2=>Z (y1.1.1,y1.1.2.1,y1.1.2.2,y2.1,y2.2.1,y2.2.2.1,y2.2.2.2.1,y2.2.2.2.2.1,y2.2.2.2.2.2.1,y2.2.2.2.2.2.2.1,y2.2.2.2.2.2.2.2)) (Z (t0,t1,t2,a0,a1,a2,a3,a4,y.2.1,y.2.2.1,y.2.2.2.1))
def jM.cag_r:RC:=⟨jM.cy_s,[(jM.cy_s,0,[5,211])],no,[5,6,7,8,9,10,11,12,13,14,15],fun _=>jM.cag_,fun _ _ _ _ _ _ _ _ _ _ _ _ _=>jb fun _=>(jt (jb fun _=>(jb fun _=>ja)) ja)⟩
def jM (ua:Zf) (ub:Int) (uc:Int):Option (Zd×Zf×Int×Int×Unit):= jc (JL ua ub uc) fun y=>jc (JJ (Z9 [45]) y.2.1 y.2.2.1 y.2.2.2.1) fun y1=>br y1.1 (jc (Jh y1.2.1 y1.2.2.1 y1.2.2.2.1) fun y2=>jc (jM.c4 y.1.2.2 y2.2.1 y2.2.2.1 y2.2.2.2.1 some) fun y3=>some (Rose.mk (y3.1,y3.2.1,y3.2.2.1,y3.2.2.2.1) y3.2.2.2.2.1,y3.2.2.2.2.2.1,y3.2.2.2.2.2.2.1,y3.2.2.2.2.2.2.2,())) (jc (jM.cZ_ y.1.1 y.1.2.1 y.1.2.2 (0:Int) (0:Int) [] (0:Int) [] y1.2.1 y1.2.2.1 y1.2.2.2.1 some) fun y4=>jc (jM.cag_ y.1.1 y.1.2.1 y.1.2.2 y4.1 y4.2.1 y4.2.2.1 y4.2.2.2.1 y4.2.2.2.2.1 y4.2.2.2.2.2.1 y4.2.2.2.2.2.2.1 y4.2.2.2.2.2.2.2 some) fun y5=>some (Rose.mk (y5.2.2.2.1,y5.2.2.2.2.1,y5.2.2.2.2.2.1,y5.2.2.2.2.2.2.1) y5.2.2.2.2.2.2.2.1,y5.2.2.2.2.2.2.2.2.1,y5.2.2.2.2.2.2.2.2.2.1,y5.2.2.2.2.2.2.2.2.2.2,()))
def jM.mc:xj:=⟨76,jM.pre,⟨[(0,VM)],[(1000100,Vy)]⟩,fun X=>jM X.1 X.2.1 X.2.2.1⟩
def jM.G:EB Zh:=⟨tb,Tryz.f76,[⟨20,YA.ce,YA.ok⟩,⟨107,JU.ce,JU.ok⟩,⟨106,kC.ce,kC.ok⟩],[0,2,3,4,5,7,11,22,38,47,67,73],[1000100],[(25,[(6,[1000100]),(7,[83]),(8,[83]),(9,[4])]),(4,[(3,[1000100]),(4,[18]),(5,[18]),(6,[2])])],[(294215,jM.cag_r.ck),(25,jM.c25r.ck),(224611,jM.cZ_r.ck),(281925,jM.cy_r.ck),(4,jM.c4r.ck)],[⟨18,JL.mc,JL.ok⟩,⟨35,JJ.mc,JJ.ok⟩,⟨36,Jh.mc,Jh.ok⟩,⟨76,jM.qj.mc,jM.qj.ok⟩,⟨38,JO.mc,JO.ok⟩,⟨37,kn.mc,kn.ok⟩,⟨39,jW.qj.mc,jW.qj.ok⟩],[]⟩
def jM.ok:MOk Zh 76 jM.mc:=Ub jM.G (mc:=jM.mc) Tryz.func76 (m:=5) ⟨⟨⟨⟨⟨trivial,kR jM.c4r⟩,kJ jM.cZ_r⟩,kJ jM.cy_r⟩,kJ jM.cag_r⟩,kR jM.c25r⟩
end
@[reducible] def Yk.fuel:Nat→Yk.Self
  | 0=>{ F_R_rp_expr_b:=fun _=>none,ok_R_rp_expr_b:=⟨⟨Tryz.f39,Tryz.func39,by kernel_rfl,by kernel_rfl⟩,fun _ _ _ _ _ _ _ hy=>by cases hy⟩,F_R_rp_signed_b:=fun _=>none,ok_R_rp_signed_b:=⟨⟨Tryz.f76,Tryz.func76,by kernel_rfl,by kernel_rfl⟩,fun _ _ _ _ _ _ _ hy=>by cases hy⟩ }
  | n+1=>{ F_R_rp_expr_b:=fun X=>(@jW.mc (Yk.fuel n)).F X,ok_R_rp_expr_b:=@jW.ok (Yk.fuel n),F_R_rp_signed_b:=fun X=>(@jM.mc (Yk.fuel n)).F X,ok_R_rp_signed_b:=@jM.ok (Yk.fuel n) }
def YX (X:jq jW.qj.pre.tys):Option (jq jW.qj.post.tys):=(Yk.fuel (1000000)).F_R_rp_expr_b X
def YX.mc:xj:=⟨39,jW.qj.pre,jW.qj.post,fun X=>YX X⟩
def YX.ok:MOk Zh 39 YX.mc:=(Yk.fuel (1000000)).ok_R_rp_expr_b
def Ju.pre:Sj:=⟨[(0,VP),(1,Nj)],[(1000100,Vy)]⟩
def Ju.c5 (wires:Bool)(ua:Zf)(ub:Int)(uc:Int)(Z:Bool×Zf×Int×Int→Option ρ):Option ρ:= br wires (jc (JJ (Z9 [91]) ua ub uc) fun y=>Z (y.1,y.2.1,y.2.2.1,y.2.2.2.1)) (Z (false,ua,ub,uc))
def Ju.c5s:Sj:=((((((Ju.pre.s 4 dX).s 5 tg35).s 6 D3).s 7 iI).o 5 lQ).o 6 UB)
def Ju.c5x0:Sj:=(Ju.c5s.s 19 Nj)
def Ju.c5r:RC:=⟨Ju.c5s,[(Ju.c5x0,0,[3,101,4,203])],no,[0,7,8,9],@Ju.c5,fun _ _ _ _ _ _=>jt (jb fun _=>ja) ja⟩
def Ju.cP_ (wires:Bool)(n:Int)(ua:Zf)(ub:Int)(uc:Int)(Z:Int×Bool×Zf×Int×Int→Option ρ):Option ρ:= jc (Ju.c5 wires ua ub uc some) fun y=>br y.1 (jc (Jh y.2.1 y.2.2.1 y.2.2.2) fun y1=>jc (JO (Z9 [93]) y1.2.1 y1.2.2.1 y1.2.2.2.1) fun y2=>Z ((1:Int),y.1,y2.2.1,y2.2.2.1,y2.2.2.2.1)) (Z (n,y.1,y.2.1,y.2.2.1,y.2.2.2))
def Ju.cP_r:RC:=⟨Ju.c5s,[(Ju.c5x0,0,[2,201,101,4,203])],no,[0,2,7,8,9],@Ju.cP_,fun _ _ _ _ _ _ _=>jb fun _=>(jt (jb fun _=>(jb fun _=>ja)) ja)⟩
def Ju.ca_ (wires:Bool)(out:Ze)(ua:Zf)(ub:Int)(uc:Int)(Z:(Ze×Zf×Int×Int)⊕(Ze×Zf×Int×Int)→Option ρ):Option ρ:= br (decide (uc<0)) (jc (kn ua ub uc) fun y=>jc (Ju.cP_ wires (0:Int) y.2.1 y.2.2.1 y.2.2.2.1 some) fun y1=>jc (YA (6:Int) y.1.2.2 y.1.2.1 y1.1 []) fun y2=>jc (Je (decide ((out.length+1)*64≤140737488355328)&&decide (out.length+1≤140737488355328))) fun y3=>jc (JJ (Z9 [44]) y1.2.2.1 y1.2.2.2.1 y1.2.2.2.2) fun y4=>br (!y4.1) (Z (.inr ((out++[y2]),y4.2.1,y4.2.2.1,y4.2.2.2.1))) (jc (Jh y4.2.1 y4.2.2.1 y4.2.2.2.1) fun y5=>Z (.inl ((out++[y2]),y5.2.1,y5.2.2.1,y5.2.2.2.1)))) (Z (.inr (out,ua,ub,uc)))
def Ju.ca_s:Sj:=(((Ju.c5s.d 6).d 7).g 6)
def Ju.ca_r:LC:=⟨Ju.ca_s,[(Ju.ca_s,2,[2,204])],no,[2,3,4,5],[0,2,3,4,5],@Ju.ca_,fun _ _ _ _ _ _ _=>jt (jb fun _=>(jb fun _=>(jb fun _=>(jb fun _=>(jb fun _=>(jt ja (jb fun _=>ja))))))) ja⟩
def Ju (wires:Bool) (ua:Zf) (ub:Int) (uc:Int):Option (Ze×Zf×Int×Int×Unit):= jc (iter (fun s↦Ju.ca_ wires s.1 s.2.1 s.2.2.1 s.2.2.2 some) ([],ua,ub,uc)) fun y=>some (y.1,y.2.1,y.2.2.1,y.2.2.2,())
def Ju.mc:xj:=⟨78,Ju.pre,⟨[(0,dX)],[(1000100,Vy)]⟩,fun X=>Ju X.1 X.2.1 X.2.2.1 X.2.2.2.1⟩
def Ju.G:EB Zh:=⟨tb,Tryz.f78,[⟨20,YA.ce,YA.ok⟩],[0,1,4,5,6,7,12,19,35],[5,1000100,1002204890019,2000000000019],[],[(100002,Ju.ca_r.ck),(220489,Ju.cP_r.ck),(5,Ju.c5r.ck)],[⟨37,kn.mc,kn.ok⟩,⟨35,JJ.mc,JJ.ok⟩,⟨36,Jh.mc,Jh.ok⟩,⟨38,JO.mc,JO.ok⟩],[]⟩
def Ju.ok:MOk Zh 78 Ju.mc:=Ub Ju.G (mc:=Ju.mc) Tryz.func78 (m:=3) ⟨⟨⟨trivial,kL Ju.ca_r⟩,kJ Ju.cP_r⟩,kR Ju.c5r⟩
abbrev th30:SD:=.one (.own 18 0)
def Yt.pre:Sj:=⟨[(0,VP),(1,nS)],[(1000100,Vy)]⟩
def Yt.cR_ (t18:Ze)(ua:Zf)(ub:Int)(uc:Int)(Z:Ze×Zf×Int×Int→Option ρ):Option ρ:= jc (JJ (Z9 [46,46]) ua ub uc) fun y=>br y.1 (jc (Jh y.2.1 y.2.2.1 y.2.2.2.1) fun y1=>jc (YX ((1:Int),y1.2.1,y1.2.2.1,y1.2.2.2.1,())) fun y2=>jc (Je (decide ((t18.length+1)*64≤140737488355328)&&decide (t18.length+1≤140737488355328))) fun y3=>Z ((t18++[y2.1]),y2.2.1,y2.2.2.1,y2.2.2.2.1)) (Z (t18,y.2.1,y.2.2.1,y.2.2.2.1))
def Yt.cR_s:Sj:=((((((Yt.pre.s 3 fV).s 4 pD).s 5 th30).o 3 UB).o 4 VQ).o 18 lQ)
def Yt.cR_r:RC:=⟨Yt.cR_s,[(Yt.cR_s,0,[9,204])],no,[9,10,11,12],@Yt.cR_,fun _ _ _ _ _ _=>jb fun _=>(jt (jb fun _=>(jb fun _=>(jb fun _=>ja))) ja)⟩
def Yt (w:Int×(Za×Int)) (ua:Zf) (ub:Int) (uc:Int):Option (Zd×Zf×Int×Int×Unit):= jc (JJ (Z9 [91]) ua ub uc) fun y=>br (!y.1) (jc (YA (19:Int) w.2.2 w.2.1 (0:Int) []) fun y1=>some (Rose.mk (y1.hQ.1,y1.hQ.2.1,y1.hQ.2.2.1,y1.hQ.2.2.2) y1.kQ,y.2.1,y.2.2.1,y.2.2.2.1,())) (jc (Jh y.2.1 y.2.2.1 y.2.2.2.1) fun y2=>jc (YX ((1:Int),y2.2.1,y2.2.2.1,y2.2.2.2.1,())) fun y3=>jc (Yt.cR_ [y3.1] y3.2.1 y3.2.2.1 y3.2.2.2.1 some) fun y4=>jc (JO (Z9 [93]) y4.2.1 y4.2.2.1 y4.2.2.2) fun y5=>jc (YA (19:Int) w.2.2 w.2.1 (↑(List.length y4.1):Int) y4.1) fun y6=>some (Rose.mk (y6.hQ.1,y6.hQ.2.1,y6.hQ.2.2.1,y6.hQ.2.2.2) y6.kQ,y5.2.1,y5.2.2.1,y5.2.2.2.1,()))
def Yt.mc:xj:=⟨81,Yt.pre,⟨[(0,VM)],[(1000100,Vy)]⟩,fun X=>Yt X.1 X.2.1 X.2.2.1 X.2.2.2.1⟩
def Yt.G:EB Zh:=⟨tb,Tryz.f81,[⟨20,YA.ce,YA.ok⟩],[0,1,3,4,5,8,20],[18,1000100],[],[(220487,Yt.cR_r.ck)],[⟨35,JJ.mc,JJ.ok⟩,⟨36,Jh.mc,Jh.ok⟩,⟨39,YX.mc,YX.ok⟩,⟨38,JO.mc,JO.ok⟩],[]⟩
def Yt.ok:MOk Zh 81 Yt.mc:=Ub Yt.G (mc:=Yt.mc) Tryz.func81 (m:=1) ⟨trivial,kJ Yt.cR_r⟩
def Vi (ua:Zf) (ub:Int) (uc:Int):Option (Zd×Zf×Int×Int×Unit):= jc (kn ua ub uc) fun y=>jc (Yt y.1 y.2.1 y.2.2.1 y.2.2.2.1) fun y1=>some (Rose.mk (y1.1.hQ.1,y1.1.hQ.2.1,y1.1.hQ.2.2.1,y1.1.hQ.2.2.2) y1.1.kQ,y1.2.1,y1.2.2.1,y1.2.2.2.1,())
def Vi.mc:xj:=⟨80,⟨[(0,VP)],[(1000100,Vy)]⟩,⟨[(0,VM)],[(1000100,Vy)]⟩,fun X=>Vi X.1 X.2.1 X.2.2.1⟩
def Vi.G:EB Zh:=⟨tb,Tryz.f80,[],[0,2],[1000100],[],[],[⟨37,kn.mc,kn.ok⟩,⟨81,Yt.mc,Yt.ok⟩],[]⟩
def Vi.ok:MOk Zh 80 Vi.mc:=Ub Vi.G (mc:=Vi.mc) Tryz.func80 (m:=0) trivial
def ju.qj.pre:Sj:=⟨[(0,VP),(1,iI)],[(1000100,Vy)]⟩
def ju.qj.post:Sj:=⟨[(0,VM)],[(1000100,Vy)]⟩
class ju.Self where
  F:jq ju.qj.pre.tys→Option (jq ju.qj.post.tys)
  ok:MOk Zh 82 ⟨82,ju.qj.pre,ju.qj.post,F⟩
section
variable [ju.Self]
def ju.qj (X:jq ju.qj.pre.tys):Option (jq ju.qj.post.tys):=ju.Self.F X
def ju.qj.mc:xj:=⟨82,ju.qj.pre,ju.qj.post,fun X=>ju.qj X⟩
def ju.qj.ok:MOk Zh 82 ju.qj.mc:=ju.Self.ok
def ju.pre:Sj:=⟨[(0,VP),(1,iI)],[(1000100,Vy)]⟩
def ju.c8 {ρ:Type} (level:Int)(kinds:Zg)(t2:Int)(a0:Int)(a1:Int)(a2:Za)(a3:Int)(a4:Ze)(ua:Zf)(ub:Int)(uc:Int)(Z:Int×Int×Za×Int×Ze×Zf×Int×Int→Option ρ):Option ρ:= jc (idx kinds level) fun y=>jc (ju.qj (i64.wrap (level+1),ua,ub,uc,())) fun y1=>jc (YA y t2 (Z9 []) (0:Int) [Rose.mk (a0,a1,a2,a3) a4,y1.1]) fun y2=>Z (y2.hQ.1,y2.hQ.2.1,y2.hQ.2.2.1,y2.hQ.2.2.2,y2.kQ,y1.2.1,y1.2.2.1,y1.2.2.2.1)
def ju.c8s:Sj:=((((((((ju.pre.s 4 pD).s 5 G5).s 6 lR).s 7 D4).s 8 uY).o 4 VQ).o 7 UB).o 8 VQ)
def ju.c8r:RC:=⟨ju.c8s,[(ju.c8s,0,[11,208])],no,[0,2,10,11,12,13,14,15,16,17,18],fun _=>ju.c8,fun _ _ _ _ _ _ _ _ _ _ _ _ _=>jb fun _=>(jb fun _=>(jb fun _=>ja))⟩
def ju.cf_ {ρ:Type} (level:Int)(words:List Za)(kinds:Zg)(t0:Int)(t1:Za)(t2:Int)(a0:Int)(a1:Int)(a2:Za)(a3:Int)(a4:Ze)(ua:Zf)(ub:Int)(uc:Int)(Z:(Int×Za×Int×Int×Int×Za×Int×Ze×Zf×Int×Int)⊕(Int×Za×Int×Int×Int×Za×Int×Ze×Zf×Int×Int)→Option ρ):Option ρ:= jc (idx words level) fun y=>jc (JJ y ua ub uc) fun y1=>br y1.1 (jc (Jh y1.2.1 y1.2.2.1 y1.2.2.2.1) fun y2=>jc (ju.c8 level kinds y2.1.2.2 a0 a1 a2 a3 a4 y2.2.1 y2.2.2.1 y2.2.2.2.1 some) fun y3=>Z (.inl (y2.1.1,y2.1.2.1,y2.1.2.2,y3.1,y3.2.1,y3.2.2.1,y3.2.2.2.1,y3.2.2.2.2.1,y3.2.2.2.2.2.1,y3.2.2.2.2.2.2.1,y3.2.2.2.2.2.2.2))) (Z (.inr (t0,t1,t2,a0,a1,a2,a3,a4,y1.2.1,y1.2.2.1,y1.2.2.2.1)))
def ju.cf_r:LC:=⟨ju.c8s,[(ju.c8s,2,[8,211])],no,[8,9,10,11,12,13,14,15,16,17,18],[0,1,2,8,9,10,11,12,13,14,15,16,17,18],fun _=>ju.cf_,fun _ _ _ _ _ _ _ _ _ _ _ _ _ _ _ _=>jb fun _=>(jb fun _=>(jt (jb fun _=>(jb fun _=>ja)) ja))⟩
def ju.c12 {ρ:Type} (t2:Int)(ua:Zf)(ub:Int)(uc:Int)(Z:Int×Int×Za×Int×Ze×Zf×Int×Int→Option ρ):Option ρ:= jc (ju.qj ((4:Int),ua,ub,uc,())) fun y=>jc (YA (27:Int) t2 (Z9 []) (0:Int) [y.1]) fun y1=>Z (y1.hQ.1,y1.hQ.2.1,y1.hQ.2.2.1,y1.hQ.2.2.2,y1.kQ,y.2.1,y.2.2.1,y.2.2.2.1)
def ju.c12s:Sj:=((ju.c8s.d 8).g 8)
def ju.c12r:RC:=⟨ju.c12s,[(ju.c12s,0,[3,205,3,203])],no,[10,11,12,13],fun _=>ju.c12,fun _ _ _ _ _ _=>jb fun _=>(jb fun _=>ja)⟩
def ju.c18 {ρ:Type} (t0:Int)(t1:Za)(Z:Bool→Option ρ):Option ρ:= br (t0==3) (br (t1==Z9 [48]) (Z true) (Z (t1==Z9 [49]))) (Z false)
def ju.c18r:RC:=⟨ju.c12s,[((ju.c12s.s 73 Nj),0,[3,101])],no,[8,9],fun _=>ju.c18,fun _ _ _ _=>jt (jt ja ja) ja⟩
def ju.c20 {ρ:Type} (t1:Za)(t2:Int)(Z:Int×Int×Za×Int×Ze→Option ρ):Option ρ:= jc (idx t1 (0:Int)) fun y=>jc (YA (26:Int) t2 (Z9 []) (i64.wrap (u8.wrap ((↑(UInt8.toNat y):Int)-48))) []) fun y1=>Z (y1.hQ.1,y1.hQ.2.1,y1.hQ.2.2.1,y1.hQ.2.2.2,y1.kQ)
def ju.c20r:RC:=⟨ju.c12s,[(ju.c12s,0,[3,205])],no,[9,10],fun _=>ju.c20,fun _ _ _ _=>jb fun _=>(jb fun _=>ja)⟩
def ju (level:Int) (ua:Zf) (ub:Int) (uc:Int):Option (Zd×Zf×Int×Int×Unit):= jc (JL ua ub uc) fun y=>br (decide (level<4)) (jc (ju.qj (i64.wrap (level+1),y.2.1,y.2.2.1,y.2.2.2.1,())) fun y1=>jc (iter (fun s↦ju.cf_ level [Z9 [],Z9 [124],Z9 [94],Z9 [38]] [(0:Int),(29:Int),(30:Int),(28:Int)] s.1 s.2.1 s.2.2.1 s.2.2.2.1 s.2.2.2.2.1 s.2.2.2.2.2.1 s.2.2.2.2.2.2.1 s.2.2.2.2.2.2.2.1 s.2.2.2.2.2.2.2.2.1 s.2.2.2.2.2.2.2.2.2.1 s.2.2.2.2.2.2.2.2.2.2 some) (y.1.1,y.1.2.1,y.1.2.2,y1.1.hQ.1,y1.1.hQ.2.1,y1.1.hQ.2.2.1,y1.1.hQ.2.2.2,Rose.kQ y1.1,y1.2.1,y1.2.2.1,y1.2.2.2.1)) fun y2=>some (Rose.mk (y2.2.2.2.1,y2.2.2.2.2.1,y2.2.2.2.2.2.1,y2.2.2.2.2.2.2.1) y2.2.2.2.2.2.2.2.1,y2.2.2.2.2.2.2.2.2.1,y2.2.2.2.2.2.2.2.2.2.1,y2.2.2.2.2.2.2.2.2.2.2,())) (jc (JJ (Z9 [33]) y.2.1 y.2.2.1 y.2.2.2.1) fun y3=>br y3.1 (jc (Jh y3.2.1 y3.2.2.1 y3.2.2.2.1) fun y4=>jc (ju.c12 y.1.2.2 y4.2.1 y4.2.2.1 y4.2.2.2.1 some) fun y5=>some (Rose.mk (y5.1,y5.2.1,y5.2.2.1,y5.2.2.2.1) y5.2.2.2.2.1,y5.2.2.2.2.2.1,y5.2.2.2.2.2.2.1,y5.2.2.2.2.2.2.2,())) (jc (JJ (Z9 [40]) y3.2.1 y3.2.2.1 y3.2.2.2.1) fun y6=>br y6.1 (jc (Jh y6.2.1 y6.2.2.1 y6.2.2.2.1) fun y7=>jc (ju.qj ((1:Int),y7.2.1,y7.2.2.1,y7.2.2.2.1,())) fun y8=>jc (JO (Z9 [41]) y8.2.1 y8.2.2.1 y8.2.2.2.1) fun y9=>some (Rose.mk (y8.1.hQ.1,y8.1.hQ.2.1,y8.1.hQ.2.2.1,y8.1.hQ.2.2.2) y8.1.kQ,y9.2.1,y9.2.2.1,y9.2.2.2.1,())) (jc (ju.c18 y.1.1 y.1.2.1 some) fun y10=>br y10 (jc (Jh y6.2.1 y6.2.2.1 y6.2.2.2.1) fun y11=>jc (ju.c20 y.1.2.1 y.1.2.2 some) fun y12=>some (Rose.mk (y12.1,y12.2.1,y12.2.2.1,y12.2.2.2.1) y12.2.2.2.2,y11.2.1,y11.2.2.1,y11.2.2.2.1,())) (jc (Vi y6.2.1 y6.2.2.1 y6.2.2.2.1) fun y13=>some (Rose.mk (y13.1.hQ.1,y13.1.hQ.2.1,y13.1.hQ.2.2.1,y13.1.hQ.2.2.2) y13.1.kQ,y13.2.1,y13.2.2.1,y13.2.2.2.1,())))))
def ju.mc:xj:=⟨82,ju.pre,⟨[(0,VM)],[(1000100,Vy)]⟩,fun X=>ju X.1 X.2.1 X.2.2.1 X.2.2.2.1⟩
def ju.G:EB Zh:=⟨tb,Tryz.f82,[⟨20,YA.ce,YA.ok⟩],[0,1,4,5,6,7,8,9,15,25,43,53,73],[1000100],[(20,[(8,[4])]),(12,[(3,[1000100]),(4,[50]),(5,[50]),(6,[4])]),(8,[(10,[1000100]),(11,[39]),(12,[39]),(13,[8])])],[(20,ju.c20r.ck),(18,ju.c18r.ck),(12,ju.c12r.ck),(100006,ju.cf_r.ck),(8,ju.c8r.ck)],[⟨18,JL.mc,JL.ok⟩,⟨82,ju.qj.mc,ju.qj.ok⟩,⟨35,JJ.mc,JJ.ok⟩,⟨36,Jh.mc,Jh.ok⟩,⟨38,JO.mc,JO.ok⟩,⟨80,Vi.mc,Vi.ok⟩],[]⟩
def ju.ok:MOk Zh 82 ju.mc:=Ub ju.G (mc:=ju.mc) Tryz.func82 (m:=5) ⟨⟨⟨⟨⟨trivial,kL ju.cf_r⟩,kR ju.c8r⟩,kR ju.c12r⟩,kR ju.c18r⟩,kR ju.c20r⟩
end
@[reducible] def ju.fuel:Nat→ju.Self
  | 0=>⟨fun _=>none,⟨⟨Tryz.f82,Tryz.func82,by kernel_rfl,by kernel_rfl⟩,fun _ _ _ _ _ _ _ hy=>by cases hy⟩⟩
  | n+1=>⟨fun X=>(@ju.mc (ju.fuel n)).F X,@ju.ok (ju.fuel n)⟩
def HW (X:jq ju.qj.pre.tys):Option (jq ju.qj.post.tys):=(ju.fuel (1000000)).F X
def HW.mc:xj:=⟨82,ju.qj.pre,ju.qj.post,fun X=>HW X⟩
def HW.ok:MOk Zh 82 HW.mc:=rR (F:=fun n=>(ju.fuel n).F) (fun n=>(ju.fuel n).ok) (fun X=>1000000)
abbrev th33:SD:=.one (.own 9 0)
abbrev th34:SD:=.one (.own 10 0)
def Jn.pre:Sj:=⟨[(0,VP),(1,iI),(2,cL),(3,dX)],[(1000100,Vy)]⟩
def Jn.cd_ (args:Ze)(ua:Zf)(ub:Int)(uc:Int)(Z:(Ze×Zf×Int×Int)⊕(Ze×Zf×Int×Int)→Option ρ):Option ρ:= jc (JJ (Z9 [44]) ua ub uc) fun y=>br y.1 (jc (Jh y.2.1 y.2.2.1 y.2.2.2.1) fun y1=>jc (YX ((1:Int),y1.2.1,y1.2.2.1,y1.2.2.2.1,())) fun y2=>jc (Je (decide ((args.length+1)*64≤140737488355328)&&decide (args.length+1≤140737488355328))) fun y3=>Z (.inl ((args++[y2.1]),y2.2.1,y2.2.2.1,y2.2.2.2.1))) (Z (.inr (args,y.2.1,y.2.2.1,y.2.2.2.1)))
def Jn.cd_s:Sj:=((((((Jn.pre.s 8 uY).s 9 th33).s 10 th34).o 8 VQ).o 9 lQ).o 10 lQ)
def Jn.cd_r:LC:=⟨Jn.cd_s,[(Jn.cd_s,2,[8,201,1,203])],no,[8,10,11,12],[8,10,11,12],@Jn.cd_,fun _ _ _ _ _ _=>jb fun _=>(jt (jb fun _=>(jb fun _=>(jb fun _=>ja))) ja)⟩
def Jn.cX_ (args:Ze)(ua:Zf)(ub:Int)(uc:Int)(Z:Ze×Zf×Int×Int→Option ρ):Option ρ:= jc (JJ (Z9 [40]) ua ub uc) fun y=>br y.1 (jc (Jh y.2.1 y.2.2.1 y.2.2.2.1) fun y1=>jc (YX ((1:Int),y1.2.1,y1.2.2.1,y1.2.2.2.1,())) fun y2=>jc (Je (decide ((args.length+1)*64≤140737488355328)&&decide (args.length+1≤140737488355328))) fun y3=>jc (iter (fun s↦Jn.cd_ s.1 s.2.1 s.2.2.1 s.2.2.2 some) (args++[y2.1],y2.2.1,y2.2.2.1,y2.2.2.2.1)) fun y4=>jc (JO (Z9 [41]) y4.2.1 y4.2.2.1 y4.2.2.2) fun y5=>Z (y4.1,y5.2.1,y5.2.2.1,y5.2.2.2.1)) (Z (args,y.2.1,y.2.2.1,y.2.2.2.1))
def Jn.cX_r:RC:=⟨Jn.cd_s,[(Jn.cd_s,0,[8,201,1,203])],no,[8,10,11,12],@Jn.cX_,fun _ _ _ _ _ _=>jb fun _=>(jt (jb fun _=>(jb fun _=>(jb fun _=>(jb fun _=>(jb fun _=>ja))))) ja)⟩
def Jn.c9 (ua:Zf)(ub:Int)(uc:Int)(Z:Bool×Zf×Int×Int→Option ρ):Option ρ:= br (decide (uc<0)) (jc (JL ua ub uc) fun y=>Z ((y.1.1==1),y.2.1,y.2.2.1,y.2.2.2.1)) (Z (false,ua,ub,uc))
def Jn.c9r:RC:=⟨Jn.cd_s,[((Jn.cd_s.s 41 Nj),0,[3,101,7,203])],no,[10,11,12],@Jn.c9,fun _ _ _ _ _=>jt (jb fun _=>ja) ja⟩
def Jn.ci_ (refs:Ze)(ua:Zf)(ub:Int)(uc:Int)(Z:(Ze×Zf×Int×Int)⊕(Ze×Zf×Int×Int)→Option ρ):Option ρ:= jc (JJ (Z9 [44]) ua ub uc) fun y=>br y.1 (jc (Jh y.2.1 y.2.2.1 y.2.2.2.1) fun y1=>jc (Vi y1.2.1 y1.2.2.1 y1.2.2.2.1) fun y2=>jc (Je (decide ((refs.length+1)*64≤140737488355328)&&decide (refs.length+1≤140737488355328))) fun y3=>Z (.inl ((refs++[y2.1]),y2.2.1,y2.2.2.1,y2.2.2.2.1))) (Z (.inr (refs,y.2.1,y.2.2.1,y.2.2.2.1)))
def Jn.ci_r:LC:=⟨Jn.cd_s,[(Jn.cd_s,4,[9,204])],no,[9,10,11,12],[9,10,11,12],@Jn.ci_,fun _ _ _ _ _ _=>jb fun _=>(jt (jb fun _=>(jb fun _=>(jb fun _=>ja))) ja)⟩
def Jn.caa_ (refs:Ze)(ua:Zf)(ub:Int)(uc:Int)(Z:Ze×Zf×Int×Int→Option ρ):Option ρ:= jc (Jn.c9 ua ub uc some) fun y=>br y.1 (jc (Vi y.2.1 y.2.2.1 y.2.2.2) fun y1=>jc (Je (decide ((refs.length+1)*64≤140737488355328)&&decide (refs.length+1≤140737488355328))) fun y2=>jc (iter (fun s↦Jn.ci_ s.1 s.2.1 s.2.2.1 s.2.2.2 some) (refs++[y1.1],y1.2.1,y1.2.2.1,y1.2.2.2.1)) fun y3=>Z (y3.1,y3.2.1,y3.2.2.1,y3.2.2.2)) (Z (refs,y.2.1,y.2.2.1,y.2.2.2))
def Jn.caa_r:RC:=⟨Jn.cd_s,[(Jn.cd_s,0,[9,204])],no,[9,10,11,12],@Jn.caa_,fun _ _ _ _ _ _=>jb fun _=>(jt (jb fun _=>(jb fun _=>(jb fun _=>ja))) ja)⟩
def Jn (t1:Int) (name:Za) (mods:Ze) (ua:Zf) (ub:Int) (uc:Int):Option (Zd×Zf×Int×Int×Unit):= jc (Jn.cX_ [] ua ub uc some) fun y=>jc (Jn.caa_ [] y.2.1 y.2.2.1 y.2.2.2 some) fun y1=>jc (JO (Z9 [59]) y1.2.1 y1.2.2.1 y1.2.2.2) fun y2=>jc (YA (25:Int) (0:Int) (Z9 []) (0:Int) mods) fun y3=>jc (YA (25:Int) (0:Int) (Z9 []) (0:Int) y.1) fun y4=>jc (YA (25:Int) (0:Int) (Z9 []) (0:Int) y1.1) fun y5=>jc (YA (8:Int) t1 name (0:Int) [y3,y4,y5]) fun y6=>some (Rose.mk (y6.hQ.1,y6.hQ.2.1,y6.hQ.2.2.1,y6.hQ.2.2.2) y6.kQ,y2.2.1,y2.2.2.1,y2.2.2.2.1,())
def Jn.mc:xj:=⟨83,Jn.pre,⟨[(0,VM)],[(1000100,Vy)]⟩,fun X=>Jn X.1 X.2.1 X.2.2.1 X.2.2.2.1 (q4 X).1 (q4 X).2.1⟩
def Jn.G:EB Zh:=⟨tb,Tryz.f83,[⟨20,YA.ce,YA.ok⟩],[0,1,2,3,8,9,10,12,21,41,48],[9,10,1000100],[],[(236882,Jn.caa_r.ck),(100011,Jn.ci_r.ck),(9,Jn.c9r.ck),(208214,Jn.cX_r.ck),(100005,Jn.cd_r.ck)],[⟨35,JJ.mc,JJ.ok⟩,⟨36,Jh.mc,Jh.ok⟩,⟨39,YX.mc,YX.ok⟩,⟨38,JO.mc,JO.ok⟩,⟨18,JL.mc,JL.ok⟩,⟨80,Vi.mc,Vi.ok⟩],[]⟩
def Jn.ok:MOk Zh 83 Jn.mc:=Ub Jn.G (mc:=Jn.mc) Tryz.func83 (m:=5) ⟨⟨⟨⟨⟨trivial,kJ Jn.cX_r⟩,kL Jn.cd_r⟩,kJ Jn.caa_r⟩,kR Jn.c9r⟩,kL Jn.ci_r⟩
abbrev th35:SD:=.one (.own 68 0)
abbrev th36:SD:=.one (.own 98 0)
abbrev th38:SD:=.one (.own 13 0)
abbrev RA:SD:=.one (.ref 14 0)
abbrev th40:SD:=.one (.ref 16 0)
def Jb.qj.pre:Sj:=⟨[(0,VP)],[(1000100,Vy)]⟩
def Jb.qj.post:Sj:=⟨[(0,VM)],[(1000100,Vy)]⟩
def jh.qj.pre:Sj:=⟨[(0,VP)],[(1000100,Vy)]⟩
def jh.qj.post:Sj:=⟨[(0,VM)],[(1000100,Vy)]⟩
class Vb.Self where
  F_R_rp_block_b:jq Jb.qj.pre.tys→Option (jq Jb.qj.post.tys)
  ok_R_rp_block_b:MOk Zh 79 ⟨79,Jb.qj.pre,Jb.qj.post,F_R_rp_block_b⟩
  F_R_rp_statement_b:jq jh.qj.pre.tys→Option (jq jh.qj.post.tys)
  ok_R_rp_statement_b:MOk Zh 41 ⟨41,jh.qj.pre,jh.qj.post,F_R_rp_statement_b⟩
section
variable [Vb.Self]
def Jb.qj (X:jq Jb.qj.pre.tys):Option (jq Jb.qj.post.tys):=Vb.Self.F_R_rp_block_b X
def Jb.qj.mc:xj:=⟨79,Jb.qj.pre,Jb.qj.post,fun X=>Jb.qj X⟩
def Jb.qj.ok:MOk Zh 79 Jb.qj.mc:=Vb.Self.ok_R_rp_block_b
def jh.qj (X:jq jh.qj.pre.tys):Option (jq jh.qj.post.tys):=Vb.Self.F_R_rp_statement_b X
def jh.qj.mc:xj:=⟨41,jh.qj.pre,jh.qj.post,fun X=>jh.qj X⟩
def jh.qj.ok:MOk Zh 41 jh.qj.mc:=Vb.Self.ok_R_rp_statement_b
def Jb.pre:Sj:=⟨[(0,VP)],[(1000100,Vy)]⟩
def Jb.c3 {ρ:Type} (ua:Zf)(ub:Int)(uc:Int)(Z:Bool×Zf×Int×Int→Option ρ):Option ρ:= br (decide (uc<0)) (jc (JJ (Z9 [125]) ua ub uc) fun y=>Z ((!y.1),y.2.1,y.2.2.1,y.2.2.2.1)) (Z (false,ua,ub,uc))
def Jb.c3s:Sj:=(((((Jb.pre.s 2 rF).s 3 iI).s 4 L0).o 2 VQ).o 4 lQ)
def Jb.c3r:RC:=⟨Jb.c3s,[((Jb.c3s.s 17 Nj),0,[1,101,6,203])],no,[7,8,9],fun _=>Jb.c3,fun _ _ _ _ _=>jt (jb fun _=>ja) ja⟩
def Jb.cb_ {ρ:Type} (l:Ze)(ua:Zf)(ub:Int)(uc:Int)(Z:(Ze×Zf×Int×Int)⊕(Ze×Zf×Int×Int)→Option ρ):Option ρ:= jc (Jb.c3 ua ub uc some) fun y=>br y.1 (jc (jh.qj (y.2.1,y.2.2.1,y.2.2.2,())) fun y1=>jc (Je (decide ((l.length+1)*64≤140737488355328)&&decide (l.length+1≤140737488355328))) fun y2=>Z (.inl ((l++[y1.1]),y1.2.1,y1.2.2.1,y1.2.2.2.1))) (Z (.inr (l,y.2.1,y.2.2.1,y.2.2.2)))
def Jb.cb_r:LC:=⟨Jb.c3s,[(Jb.c3s,2,[6,204])],no,[6,7,8,9],[6,7,8,9],fun _=>Jb.cb_,fun _ _ _ _ _ _=>jb fun _=>(jt (jb fun _=>(jb fun _=>ja)) ja)⟩
def Jb (ua:Zf) (ub:Int) (uc:Int):Option (Zd×Zf×Int×Int×Unit):= jc (JO (Z9 [123]) ua ub uc) fun y=>jc (iter (fun s↦Jb.cb_ s.1 s.2.1 s.2.2.1 s.2.2.2 some) ([],y.2.1,y.2.2.1,y.2.2.2.1)) fun y1=>jc (JO (Z9 [125]) y1.2.1 y1.2.2.1 y1.2.2.2) fun y2=>jc (YA (7:Int) y.1.2.2 (Z9 []) (0:Int) y1.1) fun y3=>some (Rose.mk (y3.hQ.1,y3.hQ.2.1,y3.hQ.2.2.1,y3.hQ.2.2.2) y3.kQ,y2.2.1,y2.2.2.1,y2.2.2.2.1,())
def Jb.mc:xj:=⟨79,Jb.pre,⟨[(0,VM)],[(1000100,Vy)]⟩,fun X=>Jb X.1 X.2.1 X.2.2.1⟩
def Jb.G:EB Zh:=⟨tb,Tryz.f79,[⟨20,YA.ce,YA.ok⟩],[0,2,3,4,17],[4,1000100],[],[(100003,Jb.cb_r.ck),(3,Jb.c3r.ck)],[⟨38,JO.mc,JO.ok⟩,⟨35,JJ.mc,JJ.ok⟩,⟨41,jh.qj.mc,jh.qj.ok⟩],[]⟩
def Jb.ok:MOk Zh 79 Jb.mc:=Ub Jb.G (mc:=Jb.mc) Tryz.func79 (m:=2) ⟨⟨trivial,kL Jb.cb_r⟩,kR Jb.c3r⟩
def jh.pre:Sj:=⟨[(0,VP)],[(1000100,Vy)]⟩
def jh.c9 {ρ:Type} (name:Za)(t2:Int)(lo0:Int)(lo1:Int)(lo2:Za)(lo3:Int)(lo4:Ze)(hi0:Int)(hi1:Int)(hi2:Za)(hi3:Int)(hi4:Ze)(ua:Zf)(ub:Int)(uc:Int)(Z:Int×Int×Za×Int×Ze×Zf×Int×Int→Option ρ):Option ρ:= jc (Jb.qj (ua,ub,uc,())) fun y=>jc (YA (12:Int) t2 name (0:Int) [Rose.mk (lo0,lo1,lo2,lo3) lo4,Rose.mk (hi0,hi1,hi2,hi3) hi4,y.1]) fun y1=>Z (y1.hQ.1,y1.hQ.2.1,y1.hQ.2.2.1,y1.hQ.2.2.2,y1.kQ,y.2.1,y.2.2.1,y.2.2.2.1)
def jh.c9s:Sj:=(((((((((jh.pre.s 2 rF).s 3 fV).s 4 cL).s 5 uZ).s 6 D3).o 2 VQ).o 3 UB).o 5 VQ).o 6 VQ)
def jh.c9r:RC:=⟨jh.c9s,[(jh.c9s,0,[1,205,13,203])],no,[0,8,9,10,11,12,13,14,15,16,17,18,19,20,21],fun _=>jh.c9,fun _ _ _ _ _ _ _ _ _ _ _ _ _ _ _ _ _=>jb fun _=>(jb fun _=>ja)⟩
def jh.c13 {ρ:Type} (t2:Int)(e0:Int)(e1:Int)(e2:Za)(e3:Int)(e4:Ze)(ua:Zf)(ub:Int)(uc:Int)(Z:Int×Int×Za×Int×Ze×Zf×Int×Int→Option ρ):Option ρ:= jc (Jb.qj (ua,ub,uc,())) fun y=>jc (YA (13:Int) t2 (Z9 []) (0:Int) [Rose.mk (e0,e1,e2,e3) e4,y.1]) fun y1=>Z (y1.hQ.1,y1.hQ.2.1,y1.hQ.2.2.1,y1.hQ.2.2.2,y1.kQ,y.2.1,y.2.2.1,y.2.2.2.1)
def jh.c13s:Sj:=(((((((jh.c9s.d 4).d 5).d 6).s 7 D4).g 5).g 6).o 7 VQ)
def jh.c13r:RC:=⟨jh.c13s,[(jh.c13s,0,[205,8,203])],no,[7,8,9,10,11,12,13,14,15],fun _=>jh.c13,fun _ _ _ _ _ _ _ _ _ _ _=>jb fun _=>(jb fun _=>ja)⟩
def jh.cK_ {ρ:Type} (n:Int)(ua:Zf)(ub:Int)(uc:Int)(Z:Int×Zf×Int×Int→Option ρ):Option ρ:= jc (JJ (Z9 [33]) ua ub uc) fun y=>br y.1 (jc (Jh y.2.1 y.2.2.1 y.2.2.2.1) fun y1=>Z ((1:Int),y1.2.1,y1.2.2.1,y1.2.2.2.1)) (Z (n,y.2.1,y.2.2.1,y.2.2.2.1))
def jh.cK_s:Sj:=(((jh.c13s.d 7).s 8 iI).g 7)
def jh.cK_r:RC:=⟨jh.cK_s,[(jh.cK_s,0,[201,8,203])],no,[0,9,10,11],fun _=>jh.cK_,fun _ _ _ _ _ _=>jb fun _=>(jt (jb fun _=>ja) ja)⟩
def jh.cV_ {ρ:Type} (t68:Ze)(ua:Zf)(ub:Int)(uc:Int)(Z:Ze×Zf×Int×Int→Option ρ):Option ρ:= jc (JJ (Z9 [101,108,115,101]) ua ub uc) fun y=>br y.1 (jc (Jh y.2.1 y.2.2.1 y.2.2.2.1) fun y1=>jc (Jb.qj (y1.2.1,y1.2.2.1,y1.2.2.2.1,())) fun y2=>jc (Je (decide ((t68.length+1)*64≤140737488355328)&&decide (t68.length+1≤140737488355328))) fun y3=>Z ((t68++[y2.1]),y2.2.1,y2.2.2.1,y2.2.2.2.1)) (Z (t68,y.2.1,y.2.2.1,y.2.2.2.1))
def jh.cV_s:Sj:=((jh.cK_s.s 9 th35).o 68 lQ)
def jh.cV_r:RC:=⟨jh.cV_s,[(jh.cV_s,0,[9,204])],no,[9,10,11,12],fun _=>jh.cV_,fun _ _ _ _ _ _=>jb fun _=>(jt (jb fun _=>(jb fun _=>(jb fun _=>ja))) ja)⟩
def jh.c26 {ρ:Type} (ua:Zf)(ub:Int)(uc:Int)(Z:Bool×Zf×Int×Int→Option ρ):Option ρ:= jc (JJ (Z9 [109,101,97,115,117,114,101]) ua ub uc) fun y=>br y.1 (Z (true,y.2.1,y.2.2.1,y.2.2.2.1)) (jc (JJ (Z9 [114,101,115,101,116]) y.2.1 y.2.2.1 y.2.2.2.1) fun y1=>Z (y1.1,y1.2.1,y1.2.2.1,y1.2.2.2.1))
def jh.c26s:Sj:=(jh.cK_s.d 8)
def jh.c26r:RC:=⟨jh.c26s,[((jh.c26s.s 93 Nj),0,[101,8,203])],no,[8,9,10],fun _=>jh.c26,fun _ _ _ _ _=>jb fun _=>(jt ja (jb fun _=>ja))⟩
def jh.cQ_ {ρ:Type} (kind:Int)(t1:Za)(t98:Ze)(ua:Zf)(ub:Int)(uc:Int)(Z:Int×Ze×Zf×Int×Int→Option ρ):Option ρ:= br (t1==Z9 [109,101,97,115,117,114,101]) (jc (JO (Z9 [45,62]) ua ub uc) fun y=>jc (Vi y.2.1 y.2.2.1 y.2.2.2.1) fun y1=>jc (Je (decide ((t98.length+1)*64≤140737488355328)&&decide (t98.length+1≤140737488355328))) fun y2=>Z ((15:Int),(t98++[y1.1]),y1.2.1,y1.2.2.1,y1.2.2.2.1)) (Z (kind,t98,ua,ub,uc))
def jh.cQ_s:Sj:=(((jh.c26s.s 10 th36).s 11 iI).o 98 lQ)
def jh.cQ_r:RC:=⟨jh.cQ_s,[(jh.cQ_s,0,[201,8,204])],no,[0,7,9,10,11,12],fun _=>jh.cQ_,fun _ _ _ _ _ _ _ _=>jt (jb fun _=>(jb fun _=>(jb fun _=>ja))) ja⟩
def jh.c40 {ρ:Type} (t2:Int)(a0:Int)(a1:Int)(a2:Za)(a3:Int)(a4:Ze)(ua:Zf)(ub:Int)(uc:Int)(Z:Int×Int×Za×Int×Ze×Zf×Int×Int→Option ρ):Option ρ:= jc (Jb.qj (ua,ub,uc,())) fun y=>jc (YA (17:Int) t2 (Z9 []) (0:Int) [Rose.mk (a0,a1,a2,a3) a4,y.1]) fun y1=>Z (y1.hQ.1,y1.hQ.2.1,y1.hQ.2.2.1,y1.hQ.2.2.2,y1.kQ,y.2.1,y.2.2.1,y.2.2.2.1)
def jh.c40s:Sj:=((jh.c26s.s 12 tg44).o 12 VQ)
def jh.c40r:RC:=⟨jh.c40s,[(jh.c40s,0,[205,8,203])],no,[7,8,9,10,11,12,13,14,15],fun _=>jh.c40,fun _ _ _ _ _ _ _ _ _ _ _=>jb fun _=>(jb fun _=>ja)⟩
def jh.c42 {ρ:Type} (ua:Zf)(ub:Int)(uc:Int)(Z:Bool×Zf×Int×Int→Option ρ):Option ρ:= jc (JJ (Z9 [105,110,118]) ua ub uc) fun y=>br y.1 (Z (true,y.2.1,y.2.2.1,y.2.2.2.1)) (jc (JJ (Z9 [99,116,114,108]) y.2.1 y.2.2.1 y.2.2.2.1) fun y1=>br y1.1 (Z (true,y1.2.1,y1.2.2.1,y1.2.2.2.1)) (jc (JJ (Z9 [112,111,119]) y1.2.1 y1.2.2.1 y1.2.2.2.1) fun y2=>Z (y2.1,y2.2.1,y2.2.2.1,y2.2.2.2.1)))
def jh.c42s:Sj:=((jh.c26s.s 13 th38).o 13 lQ)
def jh.c42r:RC:=⟨jh.c42s,[((jh.c42s.s 140 Nj),0,[101,9,203])],no,[9,10,11],fun _=>jh.c42,fun _ _ _ _ _=>jb fun _=>(jt ja (jb fun _=>(jt ja (jb fun _=>ja))))⟩
def jh.cG_ {ρ:Type} (mods:Ze)(m1:Za)(m2:Int)(ua:Zf)(ub:Int)(uc:Int)(Z:Ze×Zf×Int×Int→Option ρ):Option ρ:= br (m1==Z9 [105,110,118]) (jc (YA (9:Int) m2 (Z9 []) (0:Int) []) fun y=>jc (Je (decide ((mods.length+1)*64≤140737488355328)&&decide (mods.length+1≤140737488355328))) fun y1=>Z ((mods++[y]),ua,ub,uc)) (br (m1==Z9 [99,116,114,108]) (jc (YA (10:Int) m2 (Z9 []) (0:Int) []) fun y2=>jc (Je (decide ((mods.length+1)*64≤140737488355328)&&decide (mods.length+1≤140737488355328))) fun y3=>Z ((mods++[y2]),ua,ub,uc)) (jc (JO (Z9 [40]) ua ub uc) fun y4=>jc (YX ((1:Int),y4.2.1,y4.2.2.1,y4.2.2.2.1,())) fun y5=>jc (JO (Z9 [41]) y5.2.1 y5.2.2.1 y5.2.2.2.1) fun y6=>jc (YA (11:Int) m2 (Z9 []) (0:Int) [Rose.mk (y5.1.hQ.1,y5.1.hQ.2.1,y5.1.hQ.2.2.1,y5.1.hQ.2.2.2) y5.1.kQ]) fun y7=>jc (Je (decide ((mods.length+1)*64≤140737488355328)&&decide (mods.length+1≤140737488355328))) fun y8=>Z ((mods++[y7]),y6.2.1,y6.2.2.1,y6.2.2.2.1)))
def jh.cG_s:Sj:=((jh.c42s.s 14 RA).o 14 UB)
def jh.cG_r:RC:=⟨jh.cG_s,[((jh.cG_s.s 145 Nj),0,[400,8,201,3,203])],fun X=>(((q8 X).2.2.1==Z9 [105,110,118]),()),[8,10,11,12,13,14],fun _=>jh.cG_,fun _ _ _ _ _ _ _ _=>jt (jb fun _=>(jb fun _=>ja)) (jt (jb fun _=>(jb fun _=>ja)) (jb fun _=>(jb fun _=>(jb fun _=>(jb fun _=>(jb fun _=>ja))))))⟩
def jh.cB_ {ρ:Type} (mods:Ze)(ua:Zf)(ub:Int)(uc:Int)(Z:(Ze×Zf×Int×Int)⊕(Ze×Zf×Int×Int)→Option ρ):Option ρ:= jc (jh.c42 ua ub uc some) fun y=>br y.1 (jc (Jh y.2.1 y.2.2.1 y.2.2.2) fun y1=>jc (jh.cG_ mods y1.1.2.1 y1.1.2.2 y1.2.1 y1.2.2.1 y1.2.2.2.1 some) fun y2=>jc (JO (Z9 [64]) y2.2.1 y2.2.2.1 y2.2.2.2) fun y3=>Z (.inl (y2.1,y3.2.1,y3.2.2.1,y3.2.2.2.1))) (Z (.inr (mods,y.2.1,y.2.2.1,y.2.2.2)))
def jh.cB_r:LC:=⟨jh.c42s,[(jh.c42s,2,[8,204])],no,[8,9,10,11],[8,9,10,11],fun _=>jh.cB_,fun _ _ _ _ _ _=>jb fun _=>(jt (jb fun _=>(jb fun _=>(jb fun _=>ja))) ja)⟩
def jh.c54 {ρ:Type} (mods:Ze)(ua:Zf)(ub:Int)(uc:Int)(Z:Bool×Zf×Int×Int→Option ρ):Option ρ:= br ((mods.length:Int)==0) (jc (JJ (Z9 [91]) ua ub uc) fun y=>br y.1 (Z (true,y.2.1,y.2.2.1,y.2.2.2.1)) (jc (JJ (Z9 [94,61]) y.2.1 y.2.2.1 y.2.2.2.1) fun y1=>Z (y1.1,y1.2.1,y1.2.2.1,y1.2.2.2.1))) (Z (false,ua,ub,uc))
def jh.c54s:Sj:=((jh.c42s.s 16 th40).o 16 UB)
def jh.c54r:RC:=⟨jh.c54s,[((jh.c54s.s 189 Nj),0,[101,12,203])],no,[8,12,13,14],fun _=>jh.c54,fun _ _ _ _ _ _=>jt (jb fun _=>(jt ja (jb fun _=>ja))) ja⟩
def jh (ua:Zf) (ub:Int) (uc:Int):Option (Zd×Zf×Int×Int×Unit):= jc (JL ua ub uc) fun y=>jc (JJ (Z9 [102,111,114]) y.2.1 y.2.2.1 y.2.2.2.1) fun y1=>br y1.1 (jc (Jh y1.2.1 y1.2.2.1 y1.2.2.2.1) fun y2=>jc (kn y2.2.1 y2.2.2.1 y2.2.2.2.1) fun y3=>jc (JO (Z9 [105,110]) y3.2.1 y3.2.2.1 y3.2.2.2.1) fun y4=>jc (YX ((1:Int),y4.2.1,y4.2.2.1,y4.2.2.2.1,())) fun y5=>jc (JO (Z9 [46,46]) y5.2.1 y5.2.2.1 y5.2.2.2.1) fun y6=>jc (YX ((1:Int),y6.2.1,y6.2.2.1,y6.2.2.2.1,())) fun y7=>jc (jh.c9 y3.1.2.1 y.1.2.2 y5.1.hQ.1 y5.1.hQ.2.1 y5.1.hQ.2.2.1 y5.1.hQ.2.2.2 y5.1.kQ y7.1.hQ.1 y7.1.hQ.2.1 y7.1.hQ.2.2.1 y7.1.hQ.2.2.2 y7.1.kQ y7.2.1 y7.2.2.1 y7.2.2.2.1 some) fun y8=>some (Rose.mk (y8.1,y8.2.1,y8.2.2.1,y8.2.2.2.1) y8.2.2.2.2.1,y8.2.2.2.2.2.1,y8.2.2.2.2.2.2.1,y8.2.2.2.2.2.2.2,())) (jc (JJ (Z9 [119,104,101,110]) y1.2.1 y1.2.2.1 y1.2.2.2.1) fun y9=>br y9.1 (jc (Jh y9.2.1 y9.2.2.1 y9.2.2.2.1) fun y10=>jc (YX ((1:Int),y10.2.1,y10.2.2.1,y10.2.2.2.1,())) fun y11=>jc (jh.c13 y.1.2.2 y11.1.hQ.1 y11.1.hQ.2.1 y11.1.hQ.2.2.1 y11.1.hQ.2.2.2 y11.1.kQ y11.2.1 y11.2.2.1 y11.2.2.2.1 some) fun y12=>some (Rose.mk (y12.1,y12.2.1,y12.2.2.1,y12.2.2.2.1) y12.2.2.2.2.1,y12.2.2.2.2.2.1,y12.2.2.2.2.2.2.1,y12.2.2.2.2.2.2.2,())) (jc (JJ (Z9 [105,102]) y9.2.1 y9.2.2.1 y9.2.2.2.1) fun y13=>br y13.1 (jc (Jh y13.2.1 y13.2.2.1 y13.2.2.2.1) fun y14=>jc (jh.cK_ (0:Int) y14.2.1 y14.2.2.1 y14.2.2.2.1 some) fun y15=>jc (Vi y15.2.1 y15.2.2.1 y15.2.2.2) fun y16=>jc (Jb.qj (y16.2.1,y16.2.2.1,y16.2.2.2.1,())) fun y17=>jc (Je (decide (((1:Nat)+1)*64≤140737488355328)&&decide ((1:Nat)+1≤140737488355328))) fun y18=>jc (jh.cV_ ([y16.1]++[y17.1]) y17.2.1 y17.2.2.1 y17.2.2.2.1 some) fun y19=>jc (YA (14:Int) y.1.2.2 (Z9 []) y15.1 y19.1) fun y20=>some (Rose.mk (y20.hQ.1,y20.hQ.2.1,y20.hQ.2.2.1,y20.hQ.2.2.2) y20.kQ,y19.2.1,y19.2.2.1,y19.2.2.2,())) (jc (jh.c26 y13.2.1 y13.2.2.1 y13.2.2.2.1 some) fun y21=>br y21.1 (jc (Jh y21.2.1 y21.2.2.1 y21.2.2.2) fun y22=>jc (Vi y22.2.1 y22.2.2.1 y22.2.2.2.1) fun y23=>jc (jh.cQ_ (16:Int) y.1.2.1 [y23.1] y23.2.1 y23.2.2.1 y23.2.2.2.1 some) fun y24=>jc (JO (Z9 [59]) y24.2.2.1 y24.2.2.2.1 y24.2.2.2.2) fun y25=>jc (YA y24.1 y.1.2.2 (Z9 []) (0:Int) y24.2.1) fun y26=>some (Rose.mk (y26.hQ.1,y26.hQ.2.1,y26.hQ.2.2.1,y26.hQ.2.2.2) y26.kQ,y25.2.1,y25.2.2.1,y25.2.2.2.1,())) (jc (JJ (Z9 [119,105,116,104,105,110]) y21.2.1 y21.2.2.1 y21.2.2.2) fun y27=>br y27.1 (jc (Jh y27.2.1 y27.2.2.1 y27.2.2.2.1) fun y28=>jc (Jb.qj (y28.2.1,y28.2.2.1,y28.2.2.2.1,())) fun y29=>jc (JO (Z9 [97,112,112,108,121]) y29.2.1 y29.2.2.1 y29.2.2.2.1) fun y30=>jc (jh.c40 y.1.2.2 y29.1.hQ.1 y29.1.hQ.2.1 y29.1.hQ.2.2.1 y29.1.hQ.2.2.2 y29.1.kQ y30.2.1 y30.2.2.1 y30.2.2.2.1 some) fun y31=>some (Rose.mk (y31.1,y31.2.1,y31.2.2.1,y31.2.2.2.1) y31.2.2.2.2.1,y31.2.2.2.2.2.1,y31.2.2.2.2.2.2.1,y31.2.2.2.2.2.2.2,())) (jc (iter (fun s↦jh.cB_ s.1 s.2.1 s.2.2.1 s.2.2.2 some) ([],y27.2.1,y27.2.2.1,y27.2.2.2.1)) fun y32=>jc (kn y32.2.1 y32.2.2.1 y32.2.2.2) fun y33=>jc (jh.c54 y32.1 y33.2.1 y33.2.2.1 y33.2.2.2.1 some) fun y34=>br y34.1 (jc (Yt (y33.1.1,y33.1.2.1,y33.1.2.2) y34.2.1 y34.2.2.1 y34.2.2.2) fun y35=>jc (JO (Z9 [94,61]) y35.2.1 y35.2.2.1 y35.2.2.2.1) fun y36=>jc (HW ((1:Int),y36.2.1,y36.2.2.1,y36.2.2.2.1,())) fun y37=>jc (JO (Z9 [59]) y37.2.1 y37.2.2.1 y37.2.2.2.1) fun y38=>jc (YA (18:Int) y.1.2.2 (Z9 []) (0:Int) [Rose.mk (y35.1.hQ.1,y35.1.hQ.2.1,y35.1.hQ.2.2.1,y35.1.hQ.2.2.2) y35.1.kQ,Rose.mk (y37.1.hQ.1,y37.1.hQ.2.1,y37.1.hQ.2.2.1,y37.1.hQ.2.2.2) y37.1.kQ]) fun y39=>some (Rose.mk (y39.hQ.1,y39.hQ.2.1,y39.hQ.2.2.1,y39.hQ.2.2.2) y39.kQ,y38.2.1,y38.2.2.1,y38.2.2.2.1,())) (jc (Jn y.1.2.2 y33.1.2.1 y32.1 y34.2.1 y34.2.2.1 y34.2.2.2) fun y40=>some (Rose.mk (y40.1.hQ.1,y40.1.hQ.2.1,y40.1.hQ.2.2.1,y40.1.hQ.2.2.2) y40.1.kQ,y40.2.1,y40.2.2.1,y40.2.2.2.1,())))))))
def jh.mc:xj:=⟨41,jh.pre,⟨[(0,VM)],[(1000100,Vy)]⟩,fun X=>jh X.1 X.2.1 X.2.2.1⟩
def jh.G:EB Zh:=⟨tb,Tryz.f41,[⟨20,YA.ce,YA.ok⟩],[0,2,3,4,5,6,7,8,9,10,11,12,13,14,15,16,17,18,22,46,59,63,75,93,101,117,140,145,154,189],[13,68,98,1000100,1003802390013,1003802390145,2000000000013,2000000000145],[(40,[(4,[1000100]),(5,[129]),(6,[129]),(7,[2])]),(13,[(4,[1000100]),(5,[56]),(6,[56]),(7,[2])]),(9,[(6,[1000100]),(7,[43]),(8,[43]),(9,[2])])],[(54,jh.c54r.ck),(100042,jh.cB_r.ck),(380239,jh.cG_r.ck),(42,jh.c42r.ck),(40,jh.c40r.ck),(322889,jh.cQ_r.ck),(26,jh.c26r.ck),(290119,jh.cV_r.ck),(269639,jh.cK_r.ck),(13,jh.c13r.ck),(9,jh.c9r.ck)],[⟨18,JL.mc,JL.ok⟩,⟨35,JJ.mc,JJ.ok⟩,⟨36,Jh.mc,Jh.ok⟩,⟨37,kn.mc,kn.ok⟩,⟨38,JO.mc,JO.ok⟩,⟨39,YX.mc,YX.ok⟩,⟨79,Jb.qj.mc,Jb.qj.ok⟩,⟨80,Vi.mc,Vi.ok⟩,⟨81,Yt.mc,Yt.ok⟩,⟨82,HW.mc,HW.ok⟩,⟨83,Jn.mc,Jn.ok⟩],[]⟩
def jh.ok:MOk Zh 41 jh.mc:=Ub jh.G (mc:=jh.mc) Tryz.func41 (m:=11) ⟨⟨⟨⟨⟨⟨⟨⟨⟨⟨⟨trivial,kR jh.c9r⟩,kR jh.c13r⟩,kJ jh.cK_r⟩,kJ jh.cV_r⟩,kR jh.c26r⟩,kJ jh.cQ_r⟩,kR jh.c40r⟩,kL jh.cB_r⟩,kR jh.c42r⟩,kJ jh.cG_r⟩,kR jh.c54r⟩
end
@[reducible] def Vb.fuel:Nat→Vb.Self
  | 0=>{ F_R_rp_block_b:=fun _=>none,ok_R_rp_block_b:=⟨⟨Tryz.f79,Tryz.func79,by kernel_rfl,by kernel_rfl⟩,fun _ _ _ _ _ _ _ hy=>by cases hy⟩,F_R_rp_statement_b:=fun _=>none,ok_R_rp_statement_b:=⟨⟨Tryz.f41,Tryz.func41,by kernel_rfl,by kernel_rfl⟩,fun _ _ _ _ _ _ _ hy=>by cases hy⟩ }
  | n+1=>{ F_R_rp_block_b:=fun X=>(@Jb.mc (Vb.fuel n)).F X,ok_R_rp_block_b:=@Jb.ok (Vb.fuel n),F_R_rp_statement_b:=fun X=>(@jh.mc (Vb.fuel n)).F X,ok_R_rp_statement_b:=@jh.ok (Vb.fuel n) }
def HV (X:jq Jb.qj.pre.tys):Option (jq Jb.qj.post.tys):=(Vb.fuel (1000000)).F_R_rp_block_b X
def HV.mc:xj:=⟨79,Jb.qj.pre,Jb.qj.post,fun X=>HV X⟩
def HV.ok:MOk Zh 79 HV.mc:=(Vb.fuel (1000000)).ok_R_rp_block_b
def UG (X:jq jh.qj.pre.tys):Option (jq jh.qj.post.tys):=(Vb.fuel (1000000)).F_R_rp_statement_b X
def UG.mc:xj:=⟨41,jh.qj.pre,jh.qj.post,fun X=>UG X⟩
def UG.ok:MOk Zh 41 UG.mc:=(Vb.fuel (1000000)).ok_R_rp_statement_b
end
end W
end

section
set_option maxHeartbeats 4000000
set_option maxRecDepth 100000
namespace W
open Go Go.Ql Go.Proofs Go.IntKind
noncomputable section
variable {ρ:Type}
def kK.pre:Sj:=⟨[(0,VP),(1,iI)],[(1000100,Vy)]⟩
def kK.cO_ (ints:Ze)(ua:Zf)(ub:Int)(uc:Int)(Z:Ze×Zf×Int×Int→Option ρ):Option ρ:= jc (JJ (Z9 [40]) ua ub uc) fun y=>br y.1 (jc (Jh y.2.1 y.2.2.1 y.2.2.2.1) fun y1=>jc (Ju false y1.2.1 y1.2.2.1 y1.2.2.2.1) fun y2=>jc (JO (Z9 [41]) y2.2.1 y2.2.2.1 y2.2.2.2.1) fun y3=>Z (y2.1,y3.2.1,y3.2.2.1,y3.2.2.2.1)) (Z (ints,y.2.1,y.2.2.1,y.2.2.2.1))
def kK.cO_s:Sj:=((((kK.pre.s 4 pD).s 5 cL).s 6 dX).o 4 VQ)
def kK.cO_r:RC:=⟨kK.cO_s,[(kK.cO_s,0,[2,201,5,203])],no,[2,8,9,10],@kK.cO_,fun _ _ _ _ _ _=>jb fun _=>(jt (jb fun _=>(jb fun _=>(jb fun _=>ja))) ja)⟩
def kK.c9 (t1:Int)(name:Za)(ints:Ze)(wires:Ze)(b0:Int)(b1:Int)(b2:Za)(b3:Int)(b4:Ze)(Z:Int×Int×Za×Int×Ze→Option ρ):Option ρ:= jc (YA (25:Int) (0:Int) (Z9 []) (0:Int) ints) fun y=>jc (YA (25:Int) (0:Int) (Z9 []) (0:Int) wires) fun y1=>jc (YA (5:Int) t1 name (0:Int) [y,y1,Rose.mk (b0,b1,b2,b3) b4]) fun y2=>Z (y2.hQ.1,y2.hQ.2.1,y2.hQ.2.2.1,y2.hQ.2.2.2,y2.kQ)
def kK.c9s:Sj:=(((kK.cO_s.s 7 dX).s 8 uY).o 8 VQ)
def kK.c9r:RC:=⟨kK.c9s,[(kK.c9s,0,[4,205])],no,[0,1,2,3,9,10,11,12,13],@kK.c9,fun _ _ _ _ _ _ _ _ _ _ _=>jb fun _=>(jb fun _=>(jb fun _=>ja))⟩
def kK (t1:Int) (ua:Zf) (ub:Int) (uc:Int):Option (Zd×Zf×Int×Int×Unit):= jc (kn ua ub uc) fun y=>jc (kK.cO_ [] y.2.1 y.2.2.1 y.2.2.2.1 some) fun y1=>jc (Ju true y1.2.1 y1.2.2.1 y1.2.2.2) fun y2=>jc (HV (y2.2.1,y2.2.2.1,y2.2.2.2.1,())) fun y3=>jc (kK.c9 t1 y.1.2.1 y1.1 y2.1 y3.1.hQ.1 y3.1.hQ.2.1 y3.1.hQ.2.2.1 y3.1.hQ.2.2.2 y3.1.kQ some) fun y4=>some (Rose.mk (y4.1,y4.2.1,y4.2.2.1,y4.2.2.2.1) y4.2.2.2.2,y3.2.1,y3.2.2.1,y3.2.2.2.1,())
def kK.mc:xj:=⟨40,kK.pre,⟨[(0,VM)],[(1000100,Vy)]⟩,fun X=>kK X.1 X.2.1 X.2.2.1 X.2.2.2.1⟩
def kK.G:EB Zh:=⟨tb,Tryz.f40,[⟨20,YA.ce,YA.ok⟩],[0,1,4,5,6,7,8,13],[1000100],[(9,[(7,[31]),(8,[31]),(9,[4])])],[(9,kK.c9r.ck),(212297,kK.cO_r.ck)],[⟨37,kn.mc,kn.ok⟩,⟨35,JJ.mc,JJ.ok⟩,⟨36,Jh.mc,Jh.ok⟩,⟨78,Ju.mc,Ju.ok⟩,⟨38,JO.mc,JO.ok⟩,⟨79,HV.mc,HV.ok⟩],[]⟩
def kK.ok:MOk Zh 40 kK.mc:=Ub kK.G (mc:=kK.mc) Tryz.func40 (m:=2) ⟨⟨trivial,kJ kK.cO_r⟩,kR kK.c9r⟩
def kz.pre:Sj:=⟨[(0,VP)],[(1000100,Vy)]⟩
def kz.c2 (ua:Zf)(ub:Int)(uc:Int)(Z:Bool×Zf×Int×Int→Option ρ):Option ρ:= jc (JJ (Z9 [113,117,98,105,116]) ua ub uc) fun y=>br y.1 (Z (true,y.2.1,y.2.2.1,y.2.2.2.1)) (jc (JJ (Z9 [98,105,116]) y.2.1 y.2.2.1 y.2.2.2.1) fun y1=>Z (y1.1,y1.2.1,y1.2.2.1,y1.2.2.2.1))
def kz.c2s:Sj:=(((kz.pre.s 2 rF).s 3 iI).o 2 VQ)
def kz.c2r:RC:=⟨kz.c2s,[((kz.c2s.s 17 Nj),0,[1,101,5,203])],no,[6,7,8],@kz.c2,fun _ _ _ _ _=>jb fun _=>(jt ja (jb fun _=>ja))⟩
def kz.cj_ (kind:Int)(ua:Zf)(ub:Int)(uc:Int)(Z:Int×Zf×Int×Int→Option ρ):Option ρ:= jc (JJ (Z9 [98,105,116]) ua ub uc) fun y=>br y.1 (Z ((3:Int),y.2.1,y.2.2.1,y.2.2.2.1)) (Z (kind,y.2.1,y.2.2.1,y.2.2.2.1))
def kz.cj_s:Sj:=(kz.c2s.s 4 iI)
def kz.cj_r:RC:=⟨kz.cj_s,[(kz.cj_s,0,[1,201,5,203])],no,[1,7,8,9],@kz.cj_,fun _ _ _ _ _ _=>jb fun _=>(jt ja ja)⟩
def kz (ua:Zf) (ub:Int) (uc:Int):Option (Zd×Zf×Int×Int×Unit):= jc (JL ua ub uc) fun y=>jc (kz.c2 y.2.1 y.2.2.1 y.2.2.2.1 some) fun y1=>br y1.1 (jc (kz.cj_ (2:Int) y1.2.1 y1.2.2.1 y1.2.2.2 some) fun y2=>jc (Jh y2.2.1 y2.2.2.1 y2.2.2.2) fun y3=>jc (kn y3.2.1 y3.2.2.1 y3.2.2.2.1) fun y4=>jc (JO (Z9 [91]) y4.2.1 y4.2.2.1 y4.2.2.2.1) fun y5=>jc (YX ((1:Int),y5.2.1,y5.2.2.1,y5.2.2.2.1,())) fun y6=>jc (JO (Z9 [93]) y6.2.1 y6.2.2.1 y6.2.2.2.1) fun y7=>jc (JO (Z9 [59]) y7.2.1 y7.2.2.1 y7.2.2.2.1) fun y8=>jc (YA y2.1 y.1.2.2 y4.1.2.1 (0:Int) [Rose.mk (y6.1.hQ.1,y6.1.hQ.2.1,y6.1.hQ.2.2.1,y6.1.hQ.2.2.2) y6.1.kQ]) fun y9=>some (Rose.mk (y9.hQ.1,y9.hQ.2.1,y9.hQ.2.2.1,y9.hQ.2.2.2) y9.kQ,y8.2.1,y8.2.2.1,y8.2.2.2.1,())) (jc (JJ (Z9 [99,111,110,115,116]) y1.2.1 y1.2.2.1 y1.2.2.2) fun y10=>br y10.1 (jc (Jh y10.2.1 y10.2.2.1 y10.2.2.2.1) fun y11=>jc (kn y11.2.1 y11.2.2.1 y11.2.2.2.1) fun y12=>jc (JO (Z9 [61]) y12.2.1 y12.2.2.1 y12.2.2.2.1) fun y13=>jc (YX ((1:Int),y13.2.1,y13.2.2.1,y13.2.2.2.1,())) fun y14=>jc (JO (Z9 [59]) y14.2.1 y14.2.2.1 y14.2.2.2.1) fun y15=>jc (YA (4:Int) y.1.2.2 y12.1.2.1 (0:Int) [Rose.mk (y14.1.hQ.1,y14.1.hQ.2.1,y14.1.hQ.2.2.1,y14.1.hQ.2.2.2) y14.1.kQ]) fun y16=>some (Rose.mk (y16.hQ.1,y16.hQ.2.1,y16.hQ.2.2.1,y16.hQ.2.2.2) y16.kQ,y15.2.1,y15.2.2.1,y15.2.2.2.1,())) (jc (JJ (Z9 [103,97,116,101]) y10.2.1 y10.2.2.1 y10.2.2.2.1) fun y17=>br y17.1 (jc (Jh y17.2.1 y17.2.2.1 y17.2.2.2.1) fun y18=>jc (kK y.1.2.2 y18.2.1 y18.2.2.1 y18.2.2.2.1) fun y19=>some (Rose.mk (y19.1.hQ.1,y19.1.hQ.2.1,y19.1.hQ.2.2.1,y19.1.hQ.2.2.2) y19.1.kQ,y19.2.1,y19.2.2.1,y19.2.2.2.1,())) (jc (UG (y17.2.1,y17.2.2.1,y17.2.2.2.1,())) fun y20=>some (Rose.mk (y20.1.hQ.1,y20.1.hQ.2.1,y20.1.hQ.2.2.1,y20.1.hQ.2.2.2) y20.1.kQ,y20.2.1,y20.2.2.1,y20.2.2.2.1,()))))
def kz.mc:xj:=⟨19,kz.pre,⟨[(0,VM)],[(1000100,Vy)]⟩,fun X=>kz X.1 X.2.1 X.2.2.1⟩
def kz.G:EB Zh:=⟨tb,Tryz.f19,[⟨20,YA.ce,YA.ok⟩],[0,2,3,4,5,6,7,8,17,19,40,58],[1000100],[],[(216389,kz.cj_r.ck),(2,kz.c2r.ck)],[⟨18,JL.mc,JL.ok⟩,⟨35,JJ.mc,JJ.ok⟩,⟨36,Jh.mc,Jh.ok⟩,⟨37,kn.mc,kn.ok⟩,⟨38,JO.mc,JO.ok⟩,⟨39,YX.mc,YX.ok⟩,⟨40,kK.mc,kK.ok⟩,⟨41,UG.mc,UG.ok⟩],[]⟩
def kz.ok:MOk Zh 19 kz.mc:=Ub kz.G (mc:=kz.mc) Tryz.func19 (m:=2) ⟨⟨trivial,kR kz.c2r⟩,kJ kz.cj_r⟩
abbrev th41:SO:=.box [.val (.int .i64),.val (.int .i64)]
def kq.c5 (t140:Zf)(t141:Int)(t142:Int)(Z:Bool×Zf×Int×Int→Option ρ):Option ρ:= br (decide (t142<0)) (jc (JL t140 t141 t142) fun y=>Z ((y.1.1 !=0),y.2.1,y.2.2.1,y.2.2.2.1)) (Z (false,t140,t141,t142))
def kq.c5s:Sj:=⟨[(0,cL),(2,rF),(3,fV),(4,RA),(5,tg35)],[(2,VQ),(3,th41),(5,lQ),(14,Vy)]⟩
def kq.c5r:RC:=⟨kq.c5s,[((kq.c5s.s 25 Nj),0,[1,101,8,203])],no,[9,10,11],@kq.c5,fun _ _ _ _ _=>jt (jb fun _=>ja) ja⟩
def kq.cd_ (items:Ze)(t140:Zf)(t141:Int)(t142:Int)(Z:(Ze×Zf×Int×Int)⊕(Ze×Zf×Int×Int)→Option ρ):Option ρ:= jc (kq.c5 t140 t141 t142 some) fun y=>br y.1 (jc (kz y.2.1 y.2.2.1 y.2.2.2) fun y1=>jc (Je (decide ((items.length+1)*64≤140737488355328)&&decide (items.length+1≤140737488355328))) fun y2=>Z (.inl ((items++[y1.1]),y1.2.1,y1.2.2.1,y1.2.2.2.1))) (Z (.inr (items,y.2.1,y.2.2.1,y.2.2.2)))
def kq.cd_r:LC:=⟨kq.c5s,[(kq.c5s,2,[8,204])],no,[8,9,10,11],[8,9,10,11],@kq.cd_,fun _ _ _ _ _ _=>jb fun _=>(jt (jb fun _=>(jb fun _=>ja)) ja)⟩
def kq (text:Za):Option (Zd×(Int×Int)):= br (decide ((text.length:Int)>40000)) (jc (Nm (2:Int) (0:Int)) fun y=>some (Rose.mk ((0:Int),(0:Int),[],(0:Int)) [],y.1,y.2)) (jc (jx text) fun y1=>jc (iter (fun s↦kq.cd_ s.1 s.2.1 s.2.2.1 s.2.2.2 some) ([],y1,(0:Int),(-1:Int))) fun y2=>br (decide (y2.2.2.2≥0)) (jc (Nm (1:Int) y2.2.2.2) fun y3=>some (Rose.mk ((0:Int),(0:Int),[],(0:Int)) [],y3.1,y3.2)) (jc (YA (1:Int) (0:Int) (Z9 []) (0:Int) y2.1) fun y4=>some (Rose.mk (y4.hQ.1,y4.hQ.2.1,y4.hQ.2.2.1,y4.hQ.2.2.2) y4.kQ,(0:Int),(0:Int))))
def kq.ce:=Vt tab Tryz.f7 kq
def kq.G:EB Zh:=⟨tb,Tryz.f7,[⟨16,Nm.ce,Nm.ok⟩,⟨17,jx.ce,jx.ok⟩,⟨20,YA.ce,YA.ok⟩],[0,2,3,4,5,8,25,35],[5],[],[(100005,kq.cd_r.ck),(5,kq.c5r.ck)],[⟨18,JL.mc,JL.ok⟩,⟨19,kz.mc,kz.ok⟩],[]⟩
def kq.ok:vj Zh 7 kq.ce:=Uj kq.G Tryz.func7 (m:=2) ⟨⟨trivial,kL kq.cd_r⟩,kR kq.c5r⟩
def jO.qj.pre:Sj:=⟨[(0,VM),(1,VM),(2,Nj)],[]⟩
def jO.qj.post:Sj:=⟨[(0,Nj)],[]⟩
class jO.Self where
  F:jq jO.qj.pre.tys→Option (jq jO.qj.post.tys)
  ok:MOk Zh 9 ⟨9,jO.qj.pre,jO.qj.post,F⟩
section
variable [jO.Self]
def jO.qj (X:jq jO.qj.pre.tys):Option (jq jO.qj.post.tys):=jO.Self.F X
def jO.qj.mc:xj:=⟨9,jO.qj.pre,jO.qj.post,fun X=>jO.qj X⟩
def jO.qj.ok:MOk Zh 9 jO.qj.mc:=jO.Self.ok
def jO.pre:Sj:=⟨[(0,VM),(1,VM),(2,Nj)],[]⟩
def jO.c1 {ρ:Type} (places:Bool)(a0:Int)(a1:Int)(a2:Za)(a3:Int)(a4:Ze)(b0:Int)(b1:Int)(b2:Za)(b3:Int)(b4:Ze)(Z:Bool→Option ρ):Option ρ:= br (a0 !=b0) (Z true) (br (!a2==b2) (Z true) (br (a3 !=b3) (Z true) (br ((a4.length:Int) !=(b4.length:Int)) (Z true) (br places (Z (a1 !=b1)) (Z false)))))
def jO.c1s:Sj:=(((((jO.pre.s 3 fV).s 4 pD).s 6 Nj).o 3 VQ).o 4 VQ)
def jO.c1r:RC:=⟨jO.c1s,[((jO.c1s.s 45 Nj),0,[4,101])],no,[2,4,5,6,7,8,9,10,11,12,13],fun _=>jO.c1,fun _ _ _ _ _ _ _ _ _ _ _ _ _=>jt ja (jt ja (jt ja (jt ja (jt ja ja))))⟩
def jO.c6 {ρ:Type} (places:Bool)(i:Int)(a4:Ze)(b4:Ze)(Z:Bool→Option ρ):Option ρ:= jc (idx a4 i) fun y=>jc (idx b4 i) fun y1=>jc (jO.qj (y,y1,places,())) fun y2=>Z (!y2.1)
def jO.c6s:Sj:=(jO.c1s.s 7 iI)
def jO.c6r:RC:=⟨jO.c6s,[((jO.c6s.s 65 Nj),0,[5,101])],no,[2,4,9,14],fun _=>jO.c6,fun _ _ _ _ _ _=>jb fun _=>(jb fun _=>(jb fun _=>ja))⟩
def jO.ce_ {ρ:Type} (places:Bool)(i:Int)(a4:Ze)(b4:Ze)(Z:Int⊕(Int⊕Int)→Option ρ):Option ρ:= br (decide (i<(a4.length:Int))) (jc (jO.c6 places i a4 b4 some) fun y=>br y (Z (.inr (.inl i))) (Z (.inl (i64.wrap (i+1))))) (Z (.inr (.inr i)))
def jO.ce_r:LC:=⟨jO.c6s,[(jO.c6s,1,[3,400,201,301]),(jO.c6s,2,[4,201])],fun X=>(false,()),[4],[2,4,9,14],fun _=>jO.ce_,fun _ _ _ _ _ _=>jt (jb fun _=>(jt ja ja)) ja⟩
def jO (a:Zd) (b:Zd) (places:Bool):Option (Bool×Unit):= jc (jO.c1 places a.hQ.1 a.hQ.2.1 a.hQ.2.2.1 a.hQ.2.2.2 a.kQ b.hQ.1 b.hQ.2.1 b.hQ.2.2.1 b.hQ.2.2.2 b.kQ some) fun y=>br y (some (false,())) (jc (iter (fun s↦jO.ce_ places s a.kQ b.kQ some) (0:Int)) fun y1=>sel y1 (fun u=>some (false,())) (fun v=>some (true,())))
def jO.mc:xj:=⟨9,jO.pre,⟨[(0,Nj)],[]⟩,fun X=>jO X.1 X.2.1 X.2.2.1⟩
def jO.G:EB Zh:=⟨tb,Tryz.f9,[],[0,1,2,3,4,6,7,45,50,65],[],[(6,[])],[(100004,jO.ce_r.ck),(6,jO.c6r.ck),(1,jO.c1r.ck)],[⟨9,jO.qj.mc,jO.qj.ok⟩],[]⟩
def jO.ok:MOk Zh 9 jO.mc:=Ub jO.G (mc:=jO.mc) Tryz.func9 (m:=3) ⟨⟨⟨trivial,kR jO.c1r⟩,kL jO.ce_r⟩,kR jO.c6r⟩
end
@[reducible] def jO.fuel:Nat→jO.Self
  | 0=>⟨fun _=>none,⟨⟨Tryz.f9,Tryz.func9,by kernel_rfl,by kernel_rfl⟩,fun _ _ _ _ _ _ _ hy=>by cases hy⟩⟩
  | n+1=>⟨fun X=>(@jO.mc (jO.fuel n)).F X,@jO.ok (jO.fuel n)⟩
def HU (X:jq jO.qj.pre.tys):Option (jq jO.qj.post.tys):=(jO.fuel (sizeOf X.1)).F X
def HU.mc:xj:=⟨9,jO.qj.pre,jO.qj.post,fun X=>HU X⟩
def HU.ok:MOk Zh 9 HU.mc:=rR (F:=fun n=>(jO.fuel n).F) (fun n=>(jO.fuel n).ok) (fun X=>sizeOf X.1)
end
end W
end
