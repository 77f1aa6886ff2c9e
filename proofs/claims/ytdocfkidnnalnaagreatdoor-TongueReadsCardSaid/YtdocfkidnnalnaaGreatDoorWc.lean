/- Lifted functions, part 3: each with its contract. -/
import Derived.Test.YtdocfkidnnalnaaGreatDoorWb
import Derived.Test.YtdocfkidnnalnaaGreatDoorLf
import Derived.Test.YtdocfkidnnalnaaGreatDoorProg
set_option linter.all false
section
set_option maxHeartbeats 4000000
set_option maxRecDepth 100000
namespace W
open Go Go.Ql Go.Proofs Go.IntKind
noncomputable section
variable {ρ:Type}
def Uc (code:Int) (t1:Int):Option (Int×Int):= some (code,t1)
def Uc.ce:=ceOf tab Tryz.f16 Uc
def Uc.G:EB Za:=⟨tb,Tryz.f16,[],[0,1,4],[],[],[],[],[]⟩
theorem Uc.ok:CalleeOk Za 16 Uc.ce:=fnB Uc.G Tryz.func16 (m:=0) trivial
abbrev th0:SD:=.one (.val (.int .u8))
abbrev th1:SD:=.one (.val .bool)
def kU.c1 (c:Int)(Z:Bool→Option ρ):Option ρ:= br (decide (c≥48)) (Z (decide (c≤57))) (Z false)
def kU.c1s:Shape:=⟨[(0,th0),(2,th1)],[]⟩
def kU.c1r:RC:=⟨kU.c1s,[(kU.c1s,0,[1,201])],no,[0],@kU.c1,fun _ _ _=>jr ja ja⟩
def kU (c:Int):Option Bool:= bnd (kU.c1 c some) fun y=>some y
def kU.ce:=ceOf tab Tryz.f32 kU
def kU.G:EB Za:=⟨tb,Tryz.f32,[],[0,2],[],[],[(1,kU.c1r.ck)],[],[]⟩
theorem kU.ok:CalleeOk Za 32 kU.ce:=fnB kU.G Tryz.func32 (m:=1) ⟨trivial,kR kU.c1r⟩
def kS.c1 (c:Int)(Z:Bool→Option ρ):Option ρ:= br (decide (c≥97)) (br (decide (c≤122)) (Z true) (br (decide (c≥65)) (br (decide (c≤90)) (Z true) (Z (c==95))) (Z (c==95)))) (br (decide (c≥65)) (br (decide (c≤90)) (Z true) (Z (c==95))) (Z (c==95)))
def kS.c1s:Shape:=⟨[(0,th0),(2,th1)],[]⟩
def kS.c1r:RC:=⟨kS.c1s,[(kS.c1s,0,[1,201])],no,[0],@kS.c1,fun _ _ _=>jr (jr ja (jr (jr ja ja) ja)) (jr (jr ja ja) ja)⟩
def kS (c:Int):Option Bool:= bnd (kS.c1 c some) fun y=>some y
def kS.ce:=ceOf tab Tryz.f33 kS
def kS.G:EB Za:=⟨tb,Tryz.f33,[],[0,2],[],[],[(1,kS.c1r.ck)],[],[]⟩
theorem kS.ok:CalleeOk Za 33 kS.ce:=fnB kS.G Tryz.func33 (m:=1) ⟨trivial,kR kS.c1r⟩
abbrev th2:SD:=.one (.val .str)
abbrev th3:SD:=.one (.val (.sl .str))
abbrev th4:SD:=.one (.val (.int .i64))
def kX.ca_ (w:Z7)(l:List Z7)(i:Int)(Z:Int⊕(Int⊕Int)→Option ρ):Option ρ:= br (decide (i<(l.length:Int))) (bnd (idx l i) fun y=>br (y==w) (Z (.inr (.inl i))) (Z (.inl (i64.wrap (i+1))))) (Z (.inr (.inr i)))
def kX.ca_s:Shape:=⟨[(0,th2),(1,th3),(4,th1),(5,th4)],[]⟩
def kX.ca_r:LC:=⟨kX.ca_s,[(kX.ca_s,1,[2,400,201,301]),(kX.ca_s,2,[3,201])],fun X=>(true,()),[3],[0,1,3],@kX.ca_,fun _ _ _ _ _=>jr (jb fun _=>(jr ja ja)) ja⟩
def kX (w:Z7) (l:List Z7):Option Bool:= bnd (iter (fun s↦kX.ca_ w l s some) (0:Int)) fun y=>sel y (fun u=>some true) (fun v=>some false)
def kX.ce:=ceOf tab Tryz.f34 kX
def kX.G:EB Za:=⟨tb,Tryz.f34,[],[0,1,4,5,9,17],[],[],[(100002,kX.ca_r.ck)],[],[]⟩
theorem kX.ok:CalleeOk Za 34 kX.ce:=fnB kX.G Tryz.func34 (m:=1) ⟨trivial,kL kX.ca_r⟩
abbrev th5:SD:=.one (.val (.sl (.st (.pair (.int .i64) (.pair .str (.int .i64))))))
abbrev th6:SD:=.one (.own 6 0)
abbrev th7:SO:=.arr 0 false 52 (.st (.pair (.int .i64) (.pair .str (.int .i64))))
abbrev th8:SD:=.one (.ref 11 0)
abbrev th9:SO:=.box [.val (.int .i64),.val .str,.val (.int .i64)]
def jt.c8 (c:Int)(Z:Bool→Option ρ):Option ρ:= br (c==32) (Z true) (br (c==9) (Z true) (br (c==10) (Z true) (Z (c==13))))
def jt.c8s:Shape:=⟨[(0,th2),(2,th5),(3,th3),(4,th3),(5,th3),(6,th6),(7,th4),(8,th0)],[(6,th7)]⟩
def jt.c8x0:Shape:=(jt.c8s.s 35 th1)
def jt.c8r:RC:=⟨jt.c8s,[(jt.c8x0,0,[7,101])],no,[6],@jt.c8,fun _ _ _=>jr ja (jr ja (jr ja ja))⟩
def jt.c10 (text:Z7)(i:Int)(c:Int)(Z:Bool→Option ρ):Option ρ:= br (c==47) (br (decide (i64.wrap (i+1)<(text.length:Int))) (bnd (idx text (i64.wrap (i+1))) fun y=>Z ((↑(UInt8.toNat y):Int)==47)) (Z false)) (Z false)
def jt.c10x0:Shape:=(jt.c8s.s 53 th1)
def jt.c10r:RC:=⟨jt.c8s,[(jt.c10x0,0,[7,101])],no,[0,5,6],@jt.c10,fun _ _ _ _ _=>jr (jr (jb fun _=>ja) ja) ja⟩
def jt.c11 (text:Z7)(i:Int)(Z:Bool→Option ρ):Option ρ:= br (decide (i<(text.length:Int))) (bnd (idx text i) fun y=>Z ((↑(UInt8.toNat y):Int) !=10)) (Z false)
def jt.c11x0:Shape:=(jt.c8s.s 63 th1)
def jt.c11r:RC:=⟨jt.c8s,[(jt.c11x0,0,[7,101])],no,[0,5],@jt.c11,fun _ _ _ _=>jr (jb fun _=>ja) ja⟩
def jt.ck_ (text:Z7)(i:Int)(Z:Int⊕Int→Option ρ):Option ρ:= bnd (jt.c11 text i some) fun y=>br y (Z (.inl (i64.wrap (i+1)))) (Z (.inr i))
def jt.ck_r:LC:=⟨jt.c8s,[(jt.c8s,4,[5,201])],no,[5],[0,5],@jt.ck_,fun _ _ _ _=>jb fun _=>(jr ja ja)⟩
def jt.c14 (text:Z7)(c:Int)(j:Int)(Z:Bool→Option ρ):Option ρ:= br (decide (j<(text.length:Int))) (bnd (idx text j) fun y=>bnd (kU (↑(UInt8.toNat y):Int)) fun y1=>br y1 (bnd (kS c) fun y2=>br y2 (Z true) (bnd (kU c) fun y3=>Z y3)) (bnd (idx text j) fun y4=>bnd (kS (↑(UInt8.toNat y4):Int)) fun y5=>br y5 (bnd (kU c) fun y6=>br (!y6) (bnd (kS c) fun y7=>br y7 (Z true) (bnd (kU c) fun y8=>Z y8)) (Z false)) (Z false))) (Z false)
def jt.c14s:Shape:=(jt.c8s.s 9 th4)
def jt.c14x0:Shape:=(jt.c14s.s 95 th1)
def jt.c14r:RC:=⟨jt.c14s,[(jt.c14x0,0,[8,101])],no,[0,6,7],@jt.c14,fun _ _ _ _ _=>jr (jb fun _=>(jb fun _=>(jr (jb fun _=>(jr ja (jb fun _=>ja))) (jb fun _=>(jb fun _=>(jr (jb fun _=>(jr (jb fun _=>(jr ja (jb fun _=>ja))) ja)) ja)))))) ja⟩
def jt.cH_ (text:Z7)(c:Int)(j:Int)(Z:Int⊕Int→Option ρ):Option ρ:= bnd (jt.c14 text c j some) fun y=>br y (Z (.inl (i64.wrap (j+1)))) (Z (.inr j))
def jt.cH_r:LC:=⟨jt.c14s,[(jt.c14s,6,[7,201])],no,[7],[0,6,7],@jt.cH_,fun _ _ _ _ _=>jb fun _=>(jr ja ja)⟩
def jt.c18 (text:Z7)(two:List Z7)(i:Int)(j:Int)(Z:Bool→Option ρ):Option ρ:= br (j==i) (br (decide (i64.wrap (i+1)<(text.length:Int))) (bnd (okIf (decide ((0:Int)≤i)&&decide (i≤i64.wrap (i+2))&&decide (i64.wrap (i+2)≤(text.length:Int)))) fun y=>bnd (kX (List.drop (Int.toNat i) (List.take (Int.toNat (i64.wrap (i+2))) text)) two) fun y1=>Z y1) (Z false)) (Z false)
def jt.c18s:Shape:=(((jt.c14s.s 10 th2).s 11 th8).o 11 th9)
def jt.c18x0:Shape:=(jt.c18s.s 123 th1)
def jt.c18r:RC:=⟨jt.c18s,[(jt.c18x0,0,[9,101])],no,[0,3,5,7],@jt.c18,fun _ _ _ _ _ _=>jr (jr (jb fun _=>(jb fun _=>ja)) ja) ja⟩
def jt.c21 (text:Z7)(one:List Z7)(i:Int)(j:Int)(Z:Bool→Option ρ):Option ρ:= br (j==i) (bnd (okIf (decide ((0:Int)≤i)&&decide (i≤i64.wrap (i+1))&&decide (i64.wrap (i+1)≤(text.length:Int)))) fun y=>bnd (kX (List.drop (Int.toNat i) (List.take (Int.toNat (i64.wrap (i+1))) text)) one) fun y1=>Z y1) (Z false)
def jt.c21x0:Shape:=(jt.c18x0.s 144 th1)
def jt.c21r:RC:=⟨jt.c18x0,[(jt.c21x0,0,[10,101])],no,[0,4,5,7],@jt.c21,fun _ _ _ _ _ _=>jr (jb fun _=>(jb fun _=>ja)) ja⟩
def jt.c24 (i:Int)(c:Int)(j:Int)(w:Z7)(Z:Bool→Option ρ):Option ρ:= br (decide (j>i)) (bnd (kU c) fun y=>br y (br (decide ((w.length:Int)<10)) (br ((w.length:Int)==1) (Z true) (Z (c !=48))) (Z false)) (Z false)) (Z false)
def jt.c24x0:Shape:=(jt.c18x0.s 174 th1)
def jt.c24r:RC:=⟨jt.c18x0,[(jt.c24x0,0,[10,101])],no,[5,6,7,8],@jt.c24,fun _ _ _ _ _ _=>jr (jb fun _=>(jr (jr (jr ja ja) ja) ja)) ja⟩
def jt.c26 (i:Int)(c:Int)(j:Int)(Z:Bool→Option ρ):Option ρ:= br (decide (j>i)) (bnd (kS c) fun y=>Z y) (Z false)
def jt.c26x0:Shape:=(jt.c18x0.s 182 th1)
def jt.c26r:RC:=⟨jt.c18x0,[(jt.c26x0,0,[10,101])],no,[5,6,7],@jt.c26,fun _ _ _ _ _=>jr (jb fun _=>ja) ja⟩
def jt.cX_ (text:Z7)(keys:List Z7)(two:List Z7)(one:List Z7)(i:Int)(c:Int)(j:Int)(w:Z7)(t0:Int)(t1:Z7)(t2_1:Int)(Z:Int×Bool×Int×Z7×Int→Option ρ):Option ρ:= bnd (jt.c18 text two i j some) fun y=>br y (bnd (okIf (decide ((0:Int)≤i)&&decide (i≤i64.wrap (i+2))&&decide (i64.wrap (i+2)≤(text.length:Int)))) fun y1=>Z ((i64.wrap (i+2)),y,(2:Int),(List.drop (Int.toNat i) (List.take (Int.toNat (i64.wrap (i+2))) text)),i)) (bnd (jt.c21 text one i j some) fun y2=>br y2 (bnd (okIf (decide ((0:Int)≤i)&&decide (i≤i64.wrap (i+1))&&decide (i64.wrap (i+1)≤(text.length:Int)))) fun y3=>Z ((i64.wrap (i+1)),y,(2:Int),(List.drop (Int.toNat i) (List.take (Int.toNat (i64.wrap (i+1))) text)),i)) (bnd (jt.c24 i c j w some) fun y4=>br y4 (Z (j,y,(3:Int),t1,t2_1)) (bnd (jt.c26 i c j some) fun y5=>br y5 (bnd (kX w keys) fun y6=>br y6 (Z (j,y,(2:Int),t1,t2_1)) (Z (j,y,(1:Int),t1,t2_1))) (Z (j,y,t0,t1,t2_1)))))
def jt.cX_r:RC:=⟨jt.c18s,[(jt.c18x0,0,[7,201,1,101,1,203])],no,[0,2,3,4,5,6,7,8,10,11,12],@jt.cX_,fun _ _ _ _ _ _ _ _ _ _ _ _ _=>jb fun _=>(jr (jb fun _=>ja) (jb fun _=>(jr (jb fun _=>ja) (jb fun _=>(jr ja (jb fun _=>(jr (jb fun _=>(jr ja ja)) ja)))))))⟩
def jt.cf_ (text:Z7)(keys:List Z7)(two:List Z7)(one:List Z7)(i:Int)(out:List Z8)(Z:(Int×(List Z8))⊕((Int×(List Z8))⊕(Int×(List Z8)))→Option ρ):Option ρ:= br (decide (i<(text.length:Int))) (bnd (idx text i) fun y=>bnd (jt.c8 (↑(UInt8.toNat y):Int) some) fun y1=>br y1 (Z (.inl ((i64.wrap (i+1)),out))) (bnd (jt.c10 text i (↑(UInt8.toNat y):Int) some) fun y2=>br y2 (bnd (iter (fun s↦jt.ck_ text s some) i) fun y3=>Z (.inl (y3,out))) (bnd (iter (fun s↦jt.cH_ text (↑(UInt8.toNat y):Int) s some) i) fun y4=>bnd (okIf (decide ((0:Int)≤i)&&decide (i≤y4)&&decide (y4≤(text.length:Int)))) fun y5=>bnd (jt.cX_ text keys two one i (↑(UInt8.toNat y):Int) y4 (List.drop (Int.toNat i) (List.take (Int.toNat y4) text)) (4:Int) (List.drop (Int.toNat i) (List.take (Int.toNat y4) text)) i some) fun y6=>bnd (okIf (decide ((out.length+1)*32≤140737488355328)&&decide (out.length+1≤140737488355328))) fun y7=>br (y6.2.2.1==4) (Z (.inr (.inl (i,(out++[(y6.2.2.1,y6.2.2.2.1,y6.2.2.2.2)]))))) (Z (.inl (y6.1,(out++[(y6.2.2.1,y6.2.2.2.1,y6.2.2.2.2)]))))))) (Z (.inr (.inr (i,out))))
def jt.cf_s:Shape:=(jt.c8s.d 8)
def jt.cf_x0:Shape:=(jt.cf_s.s 2 th6)
def jt.cf_r:LC:=⟨jt.cf_s,[(jt.cf_x0,1,[1,301,3,202]),(jt.cf_s,2,[5,202])],no,[5,6],[0,2,3,4,5,6],@jt.cf_,fun _ _ _ _ _ _ _ _=>jr (jb fun _=>(jb fun _=>(jr ja (jb fun _=>(jr (jb fun _=>ja) (jb fun _=>(jb fun _=>(jb fun _=>(jb fun _=>(jr ja ja)))))))))) ja⟩
def jt (text:Z7):Option (List Z8):= bnd (iter (fun s↦jt.cf_ text [Z6 [113,117,98,105,116],Z6 [98,105,116],Z6 [99,111,110,115,116],Z6 [103,97,116,101],Z6 [102,111,114],Z6 [105,110],Z6 [119,104,101,110],Z6 [105,102],Z6 [101,108,115,101],Z6 [109,101,97,115,117,114,101],Z6 [114,101,115,101,116],Z6 [119,105,116,104,105,110],Z6 [97,112,112,108,121],Z6 [105,110,118],Z6 [99,116,114,108],Z6 [112,111,119],Z6 [115,105,122,101]] [Z6 [46,46],Z6 [45,62],Z6 [94,61],Z6 [61,61],Z6 [33,61],Z6 [60,61],Z6 [62,61],Z6 [42,42]] [Z6 [123],Z6 [125],Z6 [40],Z6 [41],Z6 [91],Z6 [93],Z6 [59],Z6 [44],Z6 [64],Z6 [61],Z6 [60],Z6 [62],Z6 [43],Z6 [45],Z6 [42],Z6 [47],Z6 [37],Z6 [33],Z6 [38],Z6 [124],Z6 [94]] s.1 s.2 some) ((0:Int),[])) fun y=>sel y (fun u=>some u.2) (fun v=>bnd (okIf (decide ((List.length v.2+1)*32≤140737488355328)&&decide (List.length v.2+1≤140737488355328))) fun y1=>some (v.2++[((0:Int),Z6 [],(text.length:Int))]))
def jt.ce:=ceOf tab Tryz.f17 jt
def jt.G:EB Za:=⟨tb,Tryz.f17,[⟨32,kU.ce,kU.ok⟩,⟨33,kS.ce,kS.ok⟩,⟨34,kX.ce,kX.ok⟩],[0,2,3,4,5,6,7,8,9,10,11,18,35,53,63,95,123,144,174,182,186,194],[6,1002737550123,2000000000123],[],[(100006,jt.cf_r.ck),(273755,jt.cX_r.ck),(26,jt.c26r.ck),(24,jt.c24r.ck),(21,jt.c21r.ck),(18,jt.c18r.ck),(100014,jt.cH_r.ck),(14,jt.c14r.ck),(100011,jt.ck_r.ck),(11,jt.c11r.ck),(10,jt.c10r.ck),(8,jt.c8r.ck)],[],[]⟩
theorem jt.ok:CalleeOk Za 17 jt.ce:=fnB jt.G Tryz.func17 (m:=12) ⟨⟨⟨⟨⟨⟨⟨⟨⟨⟨⟨⟨trivial,kL jt.cf_r⟩,kR jt.c8r⟩,kR jt.c10r⟩,kL jt.ck_r⟩,kR jt.c11r⟩,kL jt.cH_r⟩,kR jt.c14r⟩,kJ jt.cX_r⟩,kR jt.c18r⟩,kR jt.c21r⟩,kR jt.c24r⟩,kR jt.c26r⟩
abbrev th10:SD:=.one (.ref 1000100 0)
abbrev th11:SO:=.box [.val (.sl (.st (.pair (.int .i64) (.pair .str (.int .i64))))),.val (.int .i64),.val (.int .i64)]
abbrev th12:SD:=.one (.val (.st (.pair (.int .i64) (.pair .str (.int .i64)))))
abbrev th13:SD:=.one (.ref 2 0)
def Jo.pre:Shape:=⟨[(0,th10)],[(1000100,th11)]⟩
def Jo.post:Shape:=⟨[(0,th12)],[(1000100,th11)]⟩
def Jo.c1 (ua:List Z8)(ub:Int)(Z:Int×Z7×Int→Option ρ):Option ρ:= bnd (idx ua ub) fun y=>Z (y.1,y.2.1,y.2.2)
def Jo.c1s:Shape:=((Jo.pre.s 2 th13).o 2 th9)
def Jo.c1r:RC:=⟨Jo.c1s,[(Jo.c1s,0,[203])],no,[3,4],@Jo.c1,fun _ _ _ _=>jb fun _=>ja⟩
def Jo (ua:List Z8) (ub:Int) (uc:Int):Option (Z8×(List Z8)×Int×Int×Unit):= bnd (Jo.c1 ua ub some) fun y=>some ((y.1,y.2.1,y.2.2),ua,ub,uc,())
def Jo.mc:MCallee:=⟨18,Jo.pre,Jo.post,fun X=>Jo X.1 X.2.1 X.2.2.1⟩
def Jo.G:EB Za:=⟨tb,Tryz.f18,[],[0,2],[1000100],[(1,[(10,[2])])],[(1,Jo.c1r.ck)],[],[]⟩
theorem Jo.ok:MOk Za 18 Jo.mc:=fnM Jo.G (mc:=Jo.mc) Tryz.func18 (m:=1) ⟨trivial,kR Jo.c1r⟩
def Jn.pre:Shape:=⟨[(0,th10),(1,th2)],[(1000100,th11)]⟩
def Jn.post:Shape:=⟨[(0,th1)],[(1000100,th11)]⟩
def Jn.c1 (w:Z7)(ua:List Z8)(ub:Int)(uc:Int)(Z:Bool×(List Z8)×Int×Int→Option ρ):Option ρ:= br (decide (uc<0)) (bnd (Jo ua ub uc) fun y=>br (y.1.1==2) (bnd (Jo y.2.1 y.2.2.1 y.2.2.2.1) fun y1=>Z ((y1.1.2.1==w),y1.2.1,y1.2.2.1,y1.2.2.2.1)) (Z (false,y.2.1,y.2.2.1,y.2.2.2.1))) (Z (false,ua,ub,uc))
def Jn.c1s:Shape:=(Jn.pre.s 4 th1)
def Jn.c1r:RC:=⟨Jn.c1s,[(Jn.c1s,0,[1,204])],no,[0,2,3,4],@Jn.c1,fun _ _ _ _ _ _=>jr (jb fun _=>(jr (jb fun _=>ja) ja)) ja⟩
def Jn (w:Z7) (ua:List Z8) (ub:Int) (uc:Int):Option (Bool×(List Z8)×Int×Int×Unit):= bnd (Jn.c1 w ua ub uc some) fun y=>some (y.1,y.2.1,y.2.2.1,y.2.2.2,())
def Jn.mc:MCallee:=⟨35,Jn.pre,Jn.post,fun X=>Jn X.1 X.2.1 X.2.2.1 X.2.2.2.1⟩
def Jn.G:EB Za:=⟨tb,Tryz.f35,[],[0,1,4],[1000100],[],[(1,Jn.c1r.ck)],[⟨18,Jo.mc,Jo.ok⟩],[]⟩
theorem Jn.ok:MOk Za 35 Jn.mc:=fnM Jn.G (mc:=Jn.mc) Tryz.func35 (m:=1) ⟨trivial,kR Jn.c1r⟩
abbrev th14:SD:=.one (.ref 3 0)
def jY.pre:Shape:=⟨[(0,th10)],[(1000100,th11)]⟩
def jY.post:Shape:=⟨[(0,th12)],[(1000100,th11)]⟩
def jY.c2 (ua:List Z8)(ub:Int)(uc:Int)(Z:Bool→Option ρ):Option ρ:= br (decide (ub<i64.wrap ((ua.length:Int)-1))) (Z (decide (uc<0))) (Z false)
def jY.c2s:Shape:=((((jY.pre.s 2 th13).s 3 th14).o 2 th9).o 3 th9)
def jY.c2x0:Shape:=(jY.c2s.s 23 th1)
def jY.c2r:RC:=⟨jY.c2s,[(jY.c2x0,0,[101])],no,[6,7,8],@jY.c2,fun _ _ _ _ _=>jr ja ja⟩
def jY.cb_ (ua:List Z8)(ub:Int)(uc:Int)(Z:Int→Option ρ):Option ρ:= bnd (jY.c2 ua ub uc some) fun y=>br y (Z (i64.wrap (ub+1))) (Z ub)
def jY.cb_r:RC:=⟨jY.c2s,[(jY.c2s,0,[7,201])],no,[6,7,8],@jY.cb_,fun _ _ _ _ _=>jb fun _=>(jr ja ja)⟩
def jY (ua:List Z8) (ub:Int) (uc:Int):Option (Z8×(List Z8)×Int×Int×Unit):= bnd (Jo ua ub uc) fun y=>bnd (jY.cb_ y.2.1 y.2.2.1 y.2.2.2.1 some) fun y1=>some ((y.1.1,y.1.2.1,y.1.2.2),y.2.1,y1,y.2.2.2.1,())
def jY.mc:MCallee:=⟨36,jY.pre,jY.post,fun X=>jY X.1 X.2.1 X.2.2.1⟩
def jY.G:EB Za:=⟨tb,Tryz.f36,[],[0,2,3,23],[1000100],[(2,[])],[(208197,jY.cb_r.ck),(2,jY.c2r.ck)],[⟨18,Jo.mc,Jo.ok⟩],[]⟩
theorem jY.ok:MOk Za 36 jY.mc:=fnM jY.G (mc:=jY.mc) Tryz.func36 (m:=2) ⟨⟨trivial,kJ jY.cb_r⟩,kR jY.c2r⟩
def Yx.pre:Shape:=⟨[(0,th10)],[(1000100,th11)]⟩
def Yx.post:Shape:=⟨[],[(1000100,th11)]⟩
def Yx (ua:List Z8) (ub:Int) (uc:Int):Option ((List Z8)×Int×Int×Unit):= br (decide (uc<0)) (bnd (Jo ua ub uc) fun y=>some (y.2.1,y.2.2.1,y.1.2.2,())) (some (ua,ub,uc,()))
def Yx.mc:MCallee:=⟨75,Yx.pre,Yx.post,fun X=>Yx X.1 X.2.1 X.2.2.1⟩
def Yx.G:EB Za:=⟨tb,Tryz.f75,[],[0,6],[1000100],[],[],[⟨18,Jo.mc,Jo.ok⟩],[]⟩
theorem Yx.ok:MOk Za 75 Yx.mc:=fnM Yx.G (mc:=Yx.mc) Tryz.func75 (m:=0) trivial
def JE.pre:Shape:=⟨[(0,th10)],[(1000100,th11)]⟩
def JE.post:Shape:=⟨[(0,th12)],[(1000100,th11)]⟩
def JE.cb_ (t0:Int)(ua:List Z8)(ub:Int)(uc:Int)(Z:(List Z8)×Int×Int→Option ρ):Option ρ:= br (t0 !=1) (bnd (Yx ua ub uc) fun y=>Z (y.1,y.2.1,y.2.2.1)) (Z (ua,ub,uc))
def JE.cb_s:Shape:=((((JE.pre.s 2 th13).s 3 th14).o 2 th9).o 3 th9)
def JE.cb_r:RC:=⟨JE.cb_s,[(JE.cb_s,0,[6,203])],no,[3,6,7,8],@JE.cb_,fun _ _ _ _ _ _=>jr (jb fun _=>ja) ja⟩
def JE (ua:List Z8) (ub:Int) (uc:Int):Option (Z8×(List Z8)×Int×Int×Unit):= bnd (Jo ua ub uc) fun y=>bnd (JE.cb_ y.1.1 y.2.1 y.2.2.1 y.2.2.2.1 some) fun y1=>bnd (jY y1.1 y1.2.1 y1.2.2) fun y2=>some ((y2.1.1,y2.1.2.1,y2.1.2.2),y2.2.1,y2.2.2.1,y2.2.2.2.1,())
def JE.mc:MCallee:=⟨37,JE.pre,JE.post,fun X=>JE X.1 X.2.1 X.2.2.1⟩
def JE.G:EB Za:=⟨tb,Tryz.f37,[],[0,2,3,8],[1000100],[],[(208197,JE.cb_r.ck)],[⟨18,Jo.mc,Jo.ok⟩,⟨75,Yx.mc,Yx.ok⟩,⟨36,jY.mc,jY.ok⟩],[]⟩
theorem JE.ok:MOk Za 37 JE.mc:=fnM JE.G (mc:=JE.mc) Tryz.func37 (m:=1) ⟨trivial,kJ JE.cb_r⟩
def Jq.pre:Shape:=⟨[(0,th10),(1,th2)],[(1000100,th11)]⟩
def Jq.post:Shape:=⟨[(0,th12)],[(1000100,th11)]⟩
def Jq (w:Z7) (ua:List Z8) (ub:Int) (uc:Int):Option (Z8×(List Z8)×Int×Int×Unit):= bnd (Jo ua ub uc) fun y=>bnd (Jn w y.2.1 y.2.2.1 y.2.2.2.1) fun y1=>br (!y1.1) (bnd (Yx y1.2.1 y1.2.2.1 y1.2.2.2.1) fun y2=>some ((y.1.1,y.1.2.1,y.1.2.2),y2.1,y2.2.1,y2.2.2.1,())) (bnd (jY y1.2.1 y1.2.2.1 y1.2.2.2.1) fun y3=>some ((y3.1.1,y3.1.2.1,y3.1.2.2),y3.2.1,y3.2.2.1,y3.2.2.2.1,()))
def Jq.mc:MCallee:=⟨38,Jq.pre,Jq.post,fun X=>Jq X.1 X.2.1 X.2.2.1 X.2.2.2.1⟩
def Jq.G:EB Za:=⟨tb,Tryz.f38,[],[0,1,4,5,11],[1000100],[],[],[⟨18,Jo.mc,Jo.ok⟩,⟨35,Jn.mc,Jn.ok⟩,⟨75,Yx.mc,Yx.ok⟩,⟨36,jY.mc,jY.ok⟩],[]⟩
theorem Jq.ok:MOk Za 38 Jq.mc:=fnM Jq.G (mc:=Jq.mc) Tryz.func38 (m:=0) trivial
def ke.c3 (w:Z7)(Z:Bool→Option ρ):Option ρ:= br (w==Z6 [43]) (Z true) (Z (w==Z6 [45]))
def ke.c3s:Shape:=⟨[(0,th2),(2,th4)],[]⟩
def ke.c3x0:Shape:=(ke.c3s.s 11 th1)
def ke.c3r:RC:=⟨ke.c3s,[(ke.c3x0,0,[2,101])],no,[0],@ke.c3,fun _ _ _=>jr ja ja⟩
def ke.c5 (w:Z7)(Z:Bool→Option ρ):Option ρ:= br (w==Z6 [42]) (Z true) (br (w==Z6 [47]) (Z true) (Z (w==Z6 [37])))
def ke.c5x0:Shape:=(ke.c3s.s 21 th1)
def ke.c5r:RC:=⟨ke.c3s,[(ke.c5x0,0,[2,101])],no,[0],@ke.c5,fun _ _ _=>jr ja (jr ja ja)⟩
def ke (w:Z7):Option Int:= bnd (kX w [Z6 [61,61],Z6 [33,61],Z6 [60],Z6 [60,61],Z6 [62],Z6 [62,61]]) fun y=>br y (some (1:Int)) (bnd (ke.c3 w some) fun y1=>br y1 (some (2:Int)) (bnd (ke.c5 w some) fun y2=>br y2 (some (3:Int)) (br (w==Z6 [42,42]) (some (5:Int)) (some (0:Int)))))
def ke.ce:=ceOf tab Tryz.f77 ke
def ke.G:EB Za:=⟨tb,Tryz.f77,[⟨34,kX.ce,kX.ok⟩],[0,2,5,11,21,23],[],[],[(5,ke.c5r.ck),(3,ke.c3r.ck)],[],[]⟩
theorem ke.ok:CalleeOk Za 77 ke.ce:=fnB ke.G Tryz.func77 (m:=2) ⟨⟨trivial,kR ke.c3r⟩,kR ke.c5r⟩
def kM (kind:Int) (t1:Int) (name:Z7) (n:Int) (kids:List Z9):Option Z9:= some (Rose.mk (kind,t1,name,n) kids)
def kM.ce:=ceOf tab Tryz.f20 kM
def kM.G:EB Za:=⟨tb,Tryz.f20,[],[0,1,2,3,4,10],[],[],[],[],[]⟩
theorem kM.ok:CalleeOk Za 20 kM.ce:=fnB kM.G Tryz.func20 (m:=0) trivial
abbrev th15:SD:=.one (.val (.sl (.int .i64)))
abbrev th16:SD:=.one (.ref 4 0)
abbrev th17:SO:=.box [.val .bool,.val (.sl (.int .i64))]
def km.c2 (d:List Int)(n:Int)(Z:Bool→Option ρ):Option ρ:= br (decide (n>0)) (bnd (idx d (i64.wrap (n-1))) fun y=>Z (y==0)) (Z false)
def km.c2s:Shape:=⟨[(0,th1),(1,th15),(4,th16),(5,th4)],[(4,th17)]⟩
def km.c2x0:Shape:=(km.c2s.s 17 th1)
def km.c2r:RC:=⟨km.c2s,[(km.c2x0,0,[3,101])],no,[1,2],@km.c2,fun _ _ _ _=>jr (jb fun _=>ja) ja⟩
def km.ca_ (d:List Int)(n:Int)(Z:Int⊕Int→Option ρ):Option ρ:= bnd (km.c2 d n some) fun y=>br y (Z (.inl (i64.wrap (n-1)))) (Z (.inr n))
def km.ca_r:LC:=⟨km.c2s,[(km.c2s,2,[2,201])],no,[2],[1,2],@km.ca_,fun _ _ _ _=>jb fun _=>(jr ja ja)⟩
def km (neg:Bool) (d:List Int):Option (Bool×(List Int)):= bnd (iter (fun s↦km.ca_ d s some) ↑(d.length)) fun y=>br (y==0) (some (false,[])) (bnd (okIf (decide ((0:Int)≤y)&&decide (y≤(d.length:Int)))) fun y1=>some (neg,List.take (Int.toNat y) d))
def km.ce:=ceOf tab Tryz.f126 km
def km.G:EB Za:=⟨tb,Tryz.f126,[],[0,1,4,5,17,21],[],[],[(100002,km.ca_r.ck),(2,km.c2r.ck)],[],[]⟩
theorem km.ok:CalleeOk Za 126 km.ce:=fnB km.G Tryz.func126 (m:=2) ⟨⟨trivial,kL km.ca_r⟩,kR km.c2r⟩
abbrev th18:SD:=.one (.own 4 0)
abbrev th19:SO:=.arr 0 false 3 (.int .i64)
def Jt.c1 (text:Z7)(Z:Bool→Option ρ):Option ρ:= br (decide ((text.length:Int)>0)) (bnd (idx text (0:Int)) fun y=>Z ((↑(UInt8.toNat y):Int)==45)) (Z false)
def Jt.c1s:Shape:=⟨[(0,th2),(2,th13)],[(2,th17)]⟩
def Jt.c1x0:Shape:=(Jt.c1s.s 3 th1)
def Jt.c1r:RC:=⟨Jt.c1s,[(Jt.c1x0,0,[1,101])],no,[0],@Jt.c1,fun _ _ _=>jr (jb fun _=>ja) ja⟩
def Jt.cb_ (text:Z7)(neg:Bool)(Z:Z7→Option ρ):Option ρ:= br neg (bnd (okIf (decide ((1:Int)≤(text.length:Int))&&decide ((text.length:Int)≤(text.length:Int)))) fun y=>Z (List.drop (1:Nat) (List.take (Int.toNat (text.length:Int)) text))) (Z text)
def Jt.cb_r:RC:=⟨Jt.c1x0,[(Jt.c1x0,0,[201])],no,[0,1],@Jt.cb_,fun _ _ _ _=>jr (jb fun _=>ja) ja⟩
def Jt.cq_ (text:Z7)(n:Int)(j:Int)(Z:Int→Option ρ):Option ρ:= br (decide (j≥0)) (bnd (idx text j) fun y=>Z (i64.wrap (i64.wrap (n*10)+i64.wrap (u8.wrap ((↑(UInt8.toNat y):Int)-48))))) (Z n)
def Jt.cq_s:Shape:=(((((Jt.c1x0.s 4 th18).s 5 th4).s 6 th4).s 7 th4).o 4 th19)
def Jt.cq_x0:Shape:=(Jt.cq_s.s 33 th1)
def Jt.cq_r:RC:=⟨Jt.cq_s,[(Jt.cq_x0,0,[3,201,1,400])],fun X=>((decide ((q4 X).1≥0)),()),[0,3,4],@Jt.cq_,fun _ _ _ _ _=>jr (jb fun _=>ja) ja⟩
def Jt.cQ_ (text:Z7)(i:Int)(n:Int)(j:Int)(Z:(Int×Int)⊕(Int×Int)→Option ρ):Option ρ:= br (decide (j<i)) (bnd (Jt.cq_ text n j some) fun y=>Z (.inl (y,(i64.wrap (j+1))))) (Z (.inr (n,j)))
def Jt.cQ_r:LC:=⟨Jt.cq_s,[(Jt.cq_s,4,[3,202])],no,[3,4],[0,2,3,4],@Jt.cQ_,fun _ _ _ _ _ _=>jr (jb fun _=>ja) ja⟩
def Jt.cf_ (text:Z7)(i:Int)(d:List Int)(Z:(Int×(List Int))⊕(Int×(List Int))→Option ρ):Option ρ:= br (decide (i>0)) (bnd (iter (fun s↦Jt.cQ_ text i s.1 s.2 some) ((0:Int),i64.wrap (i-4))) fun y=>bnd (okIf (decide ((d.length+1)*8≤140737488355328)&&decide (d.length+1≤140737488355328))) fun y1=>Z (.inl ((i64.wrap (i-4)),(d++[y.1])))) (Z (.inr (i,d)))
def Jt.cf_s:Shape:=((Jt.cq_s.d 6).d 7)
def Jt.cf_r:LC:=⟨Jt.cf_s,[(Jt.cf_s,2,[2,201,2,201])],no,[2,5],[0,2,5],@Jt.cf_,fun _ _ _ _ _=>jr (jb fun _=>(jb fun _=>ja)) ja⟩
def Jt (text:Z7):Option (Bool×(List Int)):= bnd (Jt.c1 text some) fun y=>bnd (Jt.cb_ text y some) fun y1=>bnd (iter (fun s↦Jt.cf_ y1 s.1 s.2 some) ((y1.length:Int),[])) fun y2=>bnd (km y y2.2) fun y3=>some (y3.1,y3.2)
def Jt.ce:=ceOf tab Tryz.f107 Jt
def Jt.G:EB Za:=⟨tb,Tryz.f107,[⟨126,km.ce,km.ok⟩],[0,2,3,4,5,6,7,16,22,29,33],[4,1002491580033,2000000000033],[],[(100006,Jt.cf_r.ck),(100010,Jt.cQ_r.ck),(249158,Jt.cq_r.ck),(208197,Jt.cb_r.ck),(1,Jt.c1r.ck)],[],[]⟩
theorem Jt.ok:CalleeOk Za 107 Jt.ce:=fnB Jt.G Tryz.func107 (m:=5) ⟨⟨⟨⟨⟨trivial,kR Jt.c1r⟩,kJ Jt.cb_r⟩,kL Jt.cf_r⟩,kL Jt.cQ_r⟩,kJ Jt.cq_r⟩
abbrev th20:SD:=.one (.val (.int .u64))
def Yw.cb_ (n:Int)(u:Int)(Z:Int→Option ρ):Option ρ:= br (decide (n<0)) (Z (u64.wrap ((0:Int)-u))) (Z u)
def Yw.cb_s:Shape:=⟨[(0,th4),(2,th13),(3,th20)],[(2,th17)]⟩
def Yw.cb_r:RC:=⟨Yw.cb_s,[(Yw.cb_s,0,[1,201])],no,[0,1],@Yw.cb_,fun _ _ _ _=>jr ja ja⟩
def Yw.cc_ (u:Int)(d:List Int)(Z:(Int×(List Int))⊕(Int×(List Int))→Option ρ):Option ρ:= br (decide (u>0)) (bnd (okIf (decide ((d.length+1)*8≤140737488355328)&&decide (d.length+1≤140737488355328))) fun y=>Z (.inl ((u64.wrap (Int.tdiv u (10000:Int))),(d++[i64.wrap (Int.tmod u (10000:Int))])))) (Z (.inr (u,d)))
def Yw.cc_s:Shape:=((Yw.cb_s.s 4 th18).o 4 th19)
def Yw.cc_r:LC:=⟨Yw.cc_s,[(Yw.cc_s,2,[1,201,2,201])],no,[1,4],[1,4],@Yw.cc_,fun _ _ _ _=>jr (jb fun _=>ja) ja⟩
def Yw (n:Int):Option (Bool×(List Int)):= bnd (Yw.cb_ n (IntKind.wrap IntKind.u64 n) some) fun y=>bnd (iter (fun s↦Yw.cc_ s.1 s.2 some) (y,[])) fun y1=>bnd (km (decide (n<0)) y1.2) fun y2=>some (y2.1,y2.2)
def Yw.ce:=ceOf tab Tryz.f121 Yw
def Yw.G:EB Za:=⟨tb,Tryz.f121,[⟨126,km.ce,km.ok⟩],[0,2,3,4,8,12],[4],[],[(100005,Yw.cc_r.ck),(208197,Yw.cb_r.ck)],[],[]⟩
theorem Yw.ok:CalleeOk Za 121 Yw.ce:=fnB Yw.G Tryz.func121 (m:=2) ⟨⟨trivial,kJ Yw.cb_r⟩,kL Yw.cc_r⟩
def UC (a:Bool×(List Int)):Option (Bool×(List Int)):= bnd (km (!a.1) a.2) fun y=>some (y.1,y.2)
def UC.ce:=ceOf tab Tryz.f138 UC
def UC.G:EB Za:=⟨tb,Tryz.f138,[⟨126,km.ce,km.ok⟩],[0,1,2],[],[],[],[],[]⟩
theorem UC.ok:CalleeOk Za 138 UC.ce:=fnB UC.G Tryz.func138 (m:=0) trivial
abbrev th21:SD:=.one (.own 5 0)
def JU.c4 (a:List Int)(b:List Int)(c:Int)(i:Int)(Z:Bool→Option ρ):Option ρ:= br (decide (i<(a.length:Int))) (Z true) (br (decide (i<(b.length:Int))) (Z true) (Z (decide (c>0))))
def JU.c4s:Shape:=⟨[(0,th15),(1,th15),(4,th15),(5,th21),(6,th4),(7,th4)],[(5,th19)]⟩
def JU.c4x0:Shape:=(JU.c4s.s 21 th1)
def JU.c4r:RC:=⟨JU.c4s,[(JU.c4x0,0,[5,101])],no,[0,1,3,4],@JU.c4,fun _ _ _ _ _ _=>jr ja (jr ja ja)⟩
def JU.cj_ (a:List Int)(c:Int)(i:Int)(Z:Int→Option ρ):Option ρ:= br (decide (i<(a.length:Int))) (bnd (idx a i) fun y=>Z (i64.wrap (c+y))) (Z c)
def JU.cj_x0:Shape:=(JU.c4s.s 27 th1)
def JU.cj_r:RC:=⟨JU.c4s,[(JU.cj_x0,0,[3,201,1,400])],fun X=>((decide ((q4 X).1<(X.1.length:Int))),()),[0,3,4],@JU.cj_,fun _ _ _ _ _=>jr (jb fun _=>ja) ja⟩
def JU.cp_ (b:List Int)(c:Int)(i:Int)(Z:Int→Option ρ):Option ρ:= br (decide (i<(b.length:Int))) (bnd (idx b i) fun y=>Z (i64.wrap (c+y))) (Z c)
def JU.cp_x0:Shape:=(JU.cj_x0.s 37 th1)
def JU.cp_r:RC:=⟨JU.cj_x0,[(JU.cp_x0,0,[3,201,2,400])],fun X=>((decide ((q4 X).1<(X.2.1.length:Int))),()),[1,3,4],@JU.cp_,fun _ _ _ _ _=>jr (jb fun _=>ja) ja⟩
def JU.ce_ (a:List Int)(b:List Int)(c:Int)(i:Int)(out:List Int)(Z:(Int×Int×(List Int))⊕(Int×Int×(List Int))→Option ρ):Option ρ:= bnd (JU.c4 a b c i some) fun y=>br y (bnd (JU.cj_ a c i some) fun y1=>bnd (JU.cp_ b y1 i some) fun y2=>bnd (okIf (decide ((out.length+1)*8≤140737488355328)&&decide (out.length+1≤140737488355328))) fun y3=>Z (.inl ((i64.wrap (Int.tdiv y2 (10000:Int))),(i64.wrap (i+1)),(out++[Int.tmod y2 (10000:Int)])))) (Z (.inr (c,i,out)))
def JU.ce_r:LC:=⟨JU.c4s,[(JU.c4s,2,[3,203])],no,[3,4,5],[0,1,3,4,5],@JU.ce_,fun _ _ _ _ _ _ _=>jb fun _=>(jr (jb fun _=>(jb fun _=>(jb fun _=>ja))) ja)⟩
def JU (a:List Int) (b:List Int):Option (List Int):= bnd (iter (fun s↦JU.ce_ a b s.1 s.2.1 s.2.2 some) ((0:Int),(0:Int),[])) fun y=>some y.2.2
def JU.ce:=ceOf tab Tryz.f145 JU
def JU.G:EB Za:=⟨tb,Tryz.f145,[],[0,1,4,5,6,7,21,27,37],[5,1002245810027,1002327730037,2000000000027,2000000000037],[],[(100004,JU.ce_r.ck),(232773,JU.cp_r.ck),(224581,JU.cj_r.ck),(4,JU.c4r.ck)],[],[]⟩
theorem JU.ok:CalleeOk Za 145 JU.ce:=fnB JU.G Tryz.func145 (m:=4) ⟨⟨⟨⟨trivial,kL JU.ce_r⟩,kR JU.c4r⟩,kJ JU.cj_r⟩,kJ JU.cp_r⟩
def kA.c8 (a:List Int)(b:List Int)(i:Int)(Z:Bool→Option ρ):Option ρ:= bnd (idx a i) fun y=>bnd (idx b i) fun y1=>Z (decide (y<y1))
def kA.c8s:Shape:=⟨[(0,th15),(1,th15),(4,th4),(5,th4)],[]⟩
def kA.c8x0:Shape:=(kA.c8s.s 31 th1)
def kA.c8r:RC:=⟨kA.c8s,[(kA.c8x0,0,[4,101])],no,[0,1,3],@kA.c8,fun _ _ _ _ _=>jb fun _=>(jb fun _=>ja)⟩
def kA.c10 (a:List Int)(b:List Int)(i:Int)(Z:Bool→Option ρ):Option ρ:= bnd (idx a i) fun y=>bnd (idx b i) fun y1=>Z (decide (y>y1))
def kA.c10x0:Shape:=(kA.c8s.s 40 th1)
def kA.c10r:RC:=⟨kA.c8s,[(kA.c10x0,0,[4,101])],no,[0,1,3],@kA.c10,fun _ _ _ _ _=>jb fun _=>(jb fun _=>ja)⟩
def kA.cf_ (a:List Int)(b:List Int)(i:Int)(Z:Int⊕((Int×Int)⊕Int)→Option ρ):Option ρ:= br (decide (i≥0)) (bnd (kA.c8 a b i some) fun y=>br y (Z (.inr (.inl ((-1:Int),i)))) (bnd (kA.c10 a b i some) fun y1=>br y1 (Z (.inr (.inl ((1:Int),i)))) (Z (.inl (i64.wrap (i-1)))))) (Z (.inr (.inr i)))
def kA.cf_r:LC:=⟨kA.c8s,[(kA.c8s,1,[2,202]),(kA.c8s,2,[3,201])],no,[3],[0,1,3],@kA.cf_,fun _ _ _ _ _=>jr (jb fun _=>(jr ja (jb fun _=>(jr ja ja)))) ja⟩
def kA (a:List Int) (b:List Int):Option Int:= br ((a.length:Int) !=(b.length:Int)) (br (decide ((a.length:Int)<(b.length:Int))) (some (-1:Int)) (some (1:Int))) (bnd (iter (fun s↦kA.cf_ a b s some) (i64.wrap ((a.length:Int)-1))) fun y=>sel y (fun u=>some u.1) (fun v=>some (0:Int)))
def kA.ce:=ceOf tab Tryz.f146 kA
def kA.G:EB Za:=⟨tb,Tryz.f146,[],[0,1,4,5,10,15,20,31,40],[],[(10,[]),(8,[])],[(100006,kA.cf_r.ck),(10,kA.c10r.ck),(8,kA.c8r.ck)],[],[]⟩
theorem kA.ok:CalleeOk Za 146 kA.ce:=fnB kA.G Tryz.func146 (m:=3) ⟨⟨⟨trivial,kL kA.cf_r⟩,kR kA.c8r⟩,kR kA.c10r⟩
def kr.cv_ (b:List Int)(i:Int)(x:Int)(Z:Int→Option ρ):Option ρ:= br (decide (i<(b.length:Int))) (bnd (idx b i) fun y=>Z (i64.wrap (x-y))) (Z x)
def kr.cv_s:Shape:=⟨[(0,th15),(1,th15),(4,th15),(5,th21),(6,th4),(7,th4),(8,th4)],[(5,th19)]⟩
def kr.cv_x0:Shape:=(kr.cv_s.s 24 th1)
def kr.cv_r:RC:=⟨kr.cv_s,[(kr.cv_x0,0,[5,101,400,301])],fun X=>((decide ((q4 X).1<(X.2.1.length:Int))),()),[1,4,5],@kr.cv_,fun _ _ _ _ _=>jr (jb fun _=>ja) ja⟩
def kr.cN_ (c:Int)(x:Int)(Z:Int×Int→Option ρ):Option ρ:= br (decide (x<0)) (Z ((1:Int),(i64.wrap (x+10000)))) (Z (c,x))
def kr.cN_x0:Shape:=(kr.cv_x0.s 32 th1)
def kr.cN_r:RC:=⟨kr.cv_x0,[(kr.cN_x0,0,[3,201,1,201,1,400])],fun X=>((decide ((q4 X).2.1<0)),()),[3,5],@kr.cN_,fun _ _ _ _=>jr ja ja⟩
def kr.ce_ (a:List Int)(b:List Int)(c:Int)(i:Int)(out:List Int)(Z:(Int×Int×(List Int))⊕(Int×Int×(List Int))→Option ρ):Option ρ:= br (decide (i<(a.length:Int))) (bnd (idx a i) fun y=>bnd (kr.cv_ b i (i64.wrap (y-c)) some) fun y1=>bnd (kr.cN_ (0:Int) y1 some) fun y2=>bnd (okIf (decide ((out.length+1)*8≤140737488355328)&&decide (out.length+1≤140737488355328))) fun y3=>Z (.inl (y2.1,(i64.wrap (i+1)),(out++[y2.2])))) (Z (.inr (c,i,out)))
def kr.ce_s:Shape:=(kr.cv_s.d 8)
def kr.ce_r:LC:=⟨kr.ce_s,[(kr.ce_s,2,[3,203])],no,[3,4,5],[0,1,3,4,5],@kr.ce_,fun _ _ _ _ _ _ _=>jr (jb fun _=>(jb fun _=>(jb fun _=>(jb fun _=>ja)))) ja⟩
def kr (a:List Int) (b:List Int):Option (List Int):= bnd (iter (fun s↦kr.ce_ a b s.1 s.2.1 s.2.2 some) ((0:Int),(0:Int),[])) fun y=>some y.2.2
def kr.ce:=ceOf tab Tryz.f147 kr
def kr.G:EB Za:=⟨tb,Tryz.f147,[],[0,1,4,5,6,7,8,12,24,32],[5,1002286770024,1002409670032,2000000000024,2000000000032],[],[(100004,kr.ce_r.ck),(240967,kr.cN_r.ck),(228677,kr.cv_r.ck)],[],[]⟩
theorem kr.ok:CalleeOk Za 147 kr.ce:=fnB kr.G Tryz.func147 (m:=3) ⟨⟨⟨trivial,kL kr.ce_r⟩,kJ kr.cv_r⟩,kJ kr.cN_r⟩
abbrev th22:SD:=.one (.val (.st (.pair .bool (.sl (.int .i64)))))
def kQ.c6 (a0:Bool)(a1:List Int)(b1:List Int)(Z:Bool×(List Int)→Option ρ):Option ρ:= bnd (JU a1 b1) fun y=>bnd (km a0 y) fun y1=>Z (y1.1,y1.2)
def kQ.c6s:Shape:=⟨[(0,th22),(1,th22),(2,th13),(3,th14),(4,th16)],[(2,th17),(3,th17),(4,th17)]⟩
def kQ.c6r:RC:=⟨kQ.c6s,[(kQ.c6s,0,[6,202])],no,[2,3,5],@kQ.c6,fun _ _ _ _ _=>jb fun _=>(jb fun _=>ja)⟩
def kQ.c8 (a0:Bool)(a1:List Int)(b1:List Int)(Z:Bool×(List Int)→Option ρ):Option ρ:= bnd (kr a1 b1) fun y=>bnd (km a0 y) fun y1=>Z (y1.1,y1.2)
def kQ.c8r:RC:=⟨kQ.c6s,[(kQ.c6s,0,[6,202])],no,[2,3,5],@kQ.c8,fun _ _ _ _ _=>jb fun _=>(jb fun _=>ja)⟩
def kQ.c9 (a1:List Int)(b0:Bool)(b1:List Int)(Z:Bool×(List Int)→Option ρ):Option ρ:= bnd (kr b1 a1) fun y=>bnd (km b0 y) fun y1=>Z (y1.1,y1.2)
def kQ.c9r:RC:=⟨kQ.c6s,[(kQ.c6s,0,[6,202])],no,[3,4,5],@kQ.c9,fun _ _ _ _ _=>jb fun _=>(jb fun _=>ja)⟩
def kQ (a:Bool×(List Int)) (b:Bool×(List Int)):Option (Bool×(List Int)):= br ((↑(List.length a.2):Int)==0) (some (b.1,b.2)) (br ((↑(List.length b.2):Int)==0) (some (a.1,a.2)) (br (a.1==b.1) (bnd (kQ.c6 a.1 a.2 b.2 some) fun y=>some (y.1,y.2)) (bnd (kA a.2 b.2) fun y1=>br (decide (y1≥0)) (bnd (kQ.c8 a.1 a.2 b.2 some) fun y2=>some (y2.1,y2.2)) (bnd (kQ.c9 a.2 b.1 b.2 some) fun y3=>some (y3.1,y3.2)))))
def kQ.ce:=ceOf tab Tryz.f137 kQ
def kQ.G:EB Za:=⟨tb,Tryz.f137,[⟨145,JU.ce,JU.ok⟩,⟨126,km.ce,km.ok⟩,⟨146,kA.ce,kA.ok⟩,⟨147,kr.ce,kr.ok⟩],[0,1,2,3,4,8,13,19,33],[],[(9,[(8,[4])]),(8,[(8,[4])]),(6,[(8,[4])])],[(9,kQ.c9r.ck),(8,kQ.c8r.ck),(6,kQ.c6r.ck)],[],[]⟩
theorem kQ.ok:CalleeOk Za 137 kQ.ce:=fnB kQ.G Tryz.func137 (m:=3) ⟨⟨⟨trivial,kR kQ.c6r⟩,kR kQ.c8r⟩,kR kQ.c9r⟩
def YV.c1 (a0:Bool)(a1:List Int)(b0:Bool)(b1:List Int)(Z:Bool×(List Int)→Option ρ):Option ρ:= bnd (UC (b0,b1)) fun y=>bnd (kQ (a0,a1) y) fun y1=>Z (y1.1,y1.2)
def YV.c1s:Shape:=⟨[(0,th22),(1,th22),(2,th13),(3,th14),(4,th16)],[(2,th17),(3,th17),(4,th17)]⟩
def YV.c1r:RC:=⟨YV.c1s,[(YV.c1s,0,[6,202])],no,[2,3,4,5],@YV.c1,fun _ _ _ _ _ _=>jb fun _=>(jb fun _=>ja)⟩
def YV (a:Bool×(List Int)) (b:Bool×(List Int)):Option (Bool×(List Int)):= bnd (YV.c1 a.1 a.2 b.1 b.2 some) fun y=>some (y.1,y.2)
def YV.ce:=ceOf tab Tryz.f134 YV
def YV.G:EB Za:=⟨tb,Tryz.f134,[⟨138,UC.ce,UC.ok⟩,⟨137,kQ.ce,kQ.ok⟩],[0,1,2,3,4],[],[(1,[(4,[4])])],[(1,YV.c1r.ck)],[],[]⟩
theorem YV.ok:CalleeOk Za 134 YV.ce:=fnB YV.G Tryz.func134 (m:=1) ⟨trivial,kR YV.c1r⟩
def Uh (a:Bool×(List Int)):Option Int:= br ((↑(List.length a.2):Int)==0) (some (0:Int)) (br a.1 (some (-1:Int)) (some (1:Int)))
def Uh.ce:=ceOf tab Tryz.f133 Uh
def Uh.G:EB Za:=⟨tb,Tryz.f133,[],[0,1,2,6,8],[],[],[],[],[]⟩
theorem Uh.ok:CalleeOk Za 133 Uh.ce:=fnB Uh.G Tryz.func133 (m:=0) trivial
def Uw (a:Bool×(List Int)) (b:Bool×(List Int)):Option Int:= bnd (YV (a.1,a.2) (b.1,b.2)) fun y=>bnd (Uh y) fun y1=>some y1
def Uw.ce:=ceOf tab Tryz.f125 Uw
def Uw.G:EB Za:=⟨tb,Tryz.f125,[⟨134,YV.ce,YV.ok⟩,⟨133,Uh.ce,Uh.ok⟩],[0,1,2,3,4],[],[],[],[],[]⟩
theorem Uw.ok:CalleeOk Za 125 Uw.ce:=fnB Uw.G Tryz.func125 (m:=0) trivial
abbrev th23:SD:=.one (.ref 1 0)
def JS.c1 (a0:Bool)(a1:List Int)(Z:Bool→Option ρ):Option ρ:= bnd (Yw (-9223372036854775808:Int)) fun y=>bnd (Uw (a0,a1) y) fun y1=>br (decide (y1<0)) (Z true) (bnd (Yw (9223372036854775807:Int)) fun y2=>bnd (Uw (a0,a1) y2) fun y3=>Z (decide (y3>0)))
def JS.c1s:Shape:=⟨[(0,th22),(1,th23),(2,th4),(3,th1)],[(1,th17)]⟩
def JS.c1x0:Shape:=(JS.c1s.s 15 th1)
def JS.c1r:RC:=⟨JS.c1s,[(JS.c1x0,0,[3,101])],no,[3,4],@JS.c1,fun _ _ _ _=>jb fun _=>(jb fun _=>(jr ja (jb fun _=>(jb fun _=>ja))))⟩
def JS.cc_ (n:Int)(i:Int)(a1:List Int)(Z:(Int×Int)⊕(Int×Int)→Option ρ):Option ρ:= br (decide (i≥0)) (bnd (idx a1 i) fun y=>Z (.inl ((i64.wrap (i64.wrap (n*10000)-y)),(i64.wrap (i-1))))) (Z (.inr (n,i)))
def JS.cc_s:Shape:=((JS.c1s.s 4 th4).s 5 th4)
def JS.cc_r:LC:=⟨JS.cc_s,[(JS.cc_s,2,[3,202])],no,[3,4],[3,4,6],@JS.cc_,fun _ _ _ _ _=>jr (jb fun _=>ja) ja⟩
def JS.cp_ (n:Int)(a0:Bool)(Z:Int→Option ρ):Option ρ:= br (!a0) (Z (i64.wrap ((0:Int)-n))) (Z n)
def JS.cp_r:RC:=⟨JS.cc_s,[(JS.cc_s,0,[3,201])],no,[3,5],@JS.cp_,fun _ _ _ _=>jr ja ja⟩
def JS (a:Bool×(List Int)):Option (Int×Bool):= bnd (JS.c1 a.1 a.2 some) fun y=>br y (some ((0:Int),false)) (bnd (iter (fun s↦JS.cc_ s.1 s.2 a.2 some) ((0:Int),i64.wrap ((↑(List.length a.2):Int)-1))) fun y1=>bnd (JS.cp_ y1.1 a.1 some) fun y2=>some (y2,true))
def JS.ce:=ceOf tab Tryz.f106 JS
def JS.G:EB Za:=⟨tb,Tryz.f106,[⟨121,Yw.ce,Yw.ok⟩,⟨125,Uw.ce,Uw.ok⟩],[0,1,2,3,4,5,15,21,34],[],[(1,[])],[(232773,JS.cp_r.ck),(100005,JS.cc_r.ck),(1,JS.c1r.ck)],[],[]⟩
theorem JS.ok:CalleeOk Za 106 JS.ce:=fnB JS.G Tryz.func106 (m:=3) ⟨⟨⟨trivial,kR JS.c1r⟩,kL JS.cc_r⟩,kJ JS.cp_r⟩
abbrev th24:SD:=.one (.val (.st (.node (.pair (.int .i64) (.pair (.int .i64) (.pair .str (.int .i64)))))))
abbrev th25:SD:=.one (.ref 5 0)
abbrev th26:SO:=.box [.val (.int .i64),.val (.int .i64),.val .str,.val (.int .i64),.val (.sl (.st (.node (.pair (.int .i64) (.pair (.int .i64) (.pair .str (.int .i64)))))))]
abbrev th27:SD:=.one (.ref 6 0)
def jP.self.pre:Shape:=⟨[(0,th10),(1,th4)],[(1000100,th11)]⟩
def jP.self.post:Shape:=⟨[(0,th24)],[(1000100,th11)]⟩
def jE.self.pre:Shape:=⟨[(0,th10)],[(1000100,th11)]⟩
def jE.self.post:Shape:=⟨[(0,th24)],[(1000100,th11)]⟩
class ku.Self where
  F_R_rp_expr_b:densU jP.self.pre.tys→Option (densU jP.self.post.tys)
  ok_R_rp_expr_b:MOk Za 39 ⟨39,jP.self.pre,jP.self.post,F_R_rp_expr_b⟩
  F_R_rp_signed_b:densU jE.self.pre.tys→Option (densU jE.self.post.tys)
  ok_R_rp_signed_b:MOk Za 76 ⟨76,jE.self.pre,jE.self.post,F_R_rp_signed_b⟩
section
variable [ku.Self]
def jP.self (X:densU jP.self.pre.tys):Option (densU jP.self.post.tys):=ku.Self.F_R_rp_expr_b X
def jP.self.mc:MCallee:=⟨39,jP.self.pre,jP.self.post,fun X=>jP.self X⟩
theorem jP.self.ok:MOk Za 39 jP.self.mc:=ku.Self.ok_R_rp_expr_b
def jE.self (X:densU jE.self.pre.tys):Option (densU jE.self.post.tys):=ku.Self.F_R_rp_signed_b X
def jE.self.mc:MCallee:=⟨76,jE.self.pre,jE.self.post,fun X=>jE.self X⟩
theorem jE.self.ok:MOk Za 76 jE.self.mc:=ku.Self.ok_R_rp_signed_b
def jP.pre:Shape:=⟨[(0,th10),(1,th4)],[(1000100,th11)]⟩
def jP.post:Shape:=⟨[(0,th24)],[(1000100,th11)]⟩
def jP.c4 {ρ:Type} (level:Int)(ua:List Z8)(ub:Int)(uc:Int)(Z:Bool×(List Z8)×Int×Int→Option ρ):Option ρ:= br (decide (uc<0)) (bnd (Jo ua ub uc) fun y=>br (y.1.1==2) (bnd (Jo y.2.1 y.2.2.1 y.2.2.2.1) fun y1=>bnd (ke y1.1.2.1) fun y2=>Z ((y2==level),y1.2.1,y1.2.2.1,y1.2.2.2.1)) (Z (false,y.2.1,y.2.2.1,y.2.2.2.1))) (Z (false,ua,ub,uc))
def jP.c4s:Shape:=((((jP.pre.s 4 th16).s 5 th25).o 4 th26).o 5 th26)
def jP.c4x0:Shape:=(jP.c4s.s 33 th1)
def jP.c4r:RC:=⟨jP.c4s,[(jP.c4x0,0,[1,101,10,203])],no,[0,11,12,13],fun _=>jP.c4,fun _ _ _ _ _ _=>jr (jb fun _=>(jr (jb fun _=>(jb fun _=>ja)) ja)) ja⟩
def jP.c6 {ρ:Type} (level:Int)(a0:Int)(a1:Int)(a2:Z7)(a3:Int)(a4:List Z9)(t1:Z7)(t2:Int)(ua:List Z8)(ub:Int)(uc:Int)(Z:Int×Int×Z7×Int×(List Z9)×(List Z8)×Int×Int→Option ρ):Option ρ:= bnd (jP.self (i64.wrap (level+1),ua,ub,uc,())) fun y=>bnd (kM (24:Int) t2 t1 (0:Int) [Rose.mk (a0,a1,a2,a3) a4,y.1]) fun y1=>Z (y1.head.1,y1.head.2.1,y1.head.2.2.1,y1.head.2.2.2,y1.kids,y.2.1,y.2.2.1,y.2.2.2.1)
def jP.c6s:Shape:=((jP.c4s.s 6 th27).o 6 th9)
def jP.c6r:RC:=⟨jP.c6s,[(jP.c6s,0,[6,205,3,203])],no,[0,6,7,8,9,10,12,13,14,15,16],fun _=>jP.c6,fun _ _ _ _ _ _ _ _ _ _ _ _ _=>jb fun _=>(jb fun _=>ja)⟩
def jP.ce_ {ρ:Type} (level:Int)(a0:Int)(a1:Int)(a2:Z7)(a3:Int)(a4:List Z9)(ua:List Z8)(ub:Int)(uc:Int)(Z:(Int×Int×Z7×Int×(List Z9)×(List Z8)×Int×Int)⊕(Int×Int×Z7×Int×(List Z9)×(List Z8)×Int×Int)→Option ρ):Option ρ:= bnd (jP.c4 level ua ub uc some) fun y=>br y.1 (bnd (jY y.2.1 y.2.2.1 y.2.2.2) fun y1=>bnd (jP.c6 level a0 a1 a2 a3 a4 y1.1.2.1 y1.1.2.2 y1.2.1 y1.2.2.1 y1.2.2.2.1 some) fun y2=>br (level==1) (Z (.inr (y2.1,y2.2.1,y2.2.2.1,y2.2.2.2.1,y2.2.2.2.2.1,y2.2.2.2.2.2.1,y2.2.2.2.2.2.2.1,y2.2.2.2.2.2.2.2))) (Z (.inl (y2.1,y2.2.1,y2.2.2.1,y2.2.2.2.1,y2.2.2.2.2.1,y2.2.2.2.2.2.1,y2.2.2.2.2.2.2.1,y2.2.2.2.2.2.2.2)))) (Z (.inr (a0,a1,a2,a3,a4,y.2.1,y.2.2.1,y.2.2.2)))
def jP.ce_r:LC:=⟨jP.c4s,[(jP.c4s,2,[6,208])],no,[6,7,8,9,10,11,12,13],[0,6,7,8,9,10,11,12,13],fun _=>jP.ce_,fun _ _ _ _ _ _ _ _ _ _ _=>jb fun _=>(jr (jb fun _=>(jb fun _=>(jr ja ja))) ja)⟩
def jP (level:Int) (ua:List Z8) (ub:Int) (uc:Int):Option (Z9×(List Z8)×Int×Int×Unit):= br (level==4) (bnd (jE.self (ua,ub,uc,())) fun y=>some (Rose.mk (y.1.head.1,y.1.head.2.1,y.1.head.2.2.1,y.1.head.2.2.2) y.1.kids,y.2.1,y.2.2.1,y.2.2.2.1,())) (bnd (jP.self (i64.wrap (level+1),ua,ub,uc,())) fun y1=>bnd (iter (fun s↦jP.ce_ level s.1 s.2.1 s.2.2.1 s.2.2.2.1 s.2.2.2.2.1 s.2.2.2.2.2.1 s.2.2.2.2.2.2.1 s.2.2.2.2.2.2.2 some) (y1.1.head.1,y1.1.head.2.1,y1.1.head.2.2.1,y1.1.head.2.2.2,Rose.kids y1.1,y1.2.1,y1.2.2.1,y1.2.2.2.1)) fun y2=>some (Rose.mk (y2.1,y2.2.1,y2.2.2.1,y2.2.2.2.1) y2.2.2.2.2.1,y2.2.2.2.2.2.1,y2.2.2.2.2.2.2.1,y2.2.2.2.2.2.2.2,()))
def jP.mc:MCallee:=⟨39,jP.pre,jP.post,fun X=>jP X.1 X.2.1 X.2.2.1 X.2.2.2.1⟩
def jP.G:EB Za:=⟨tb,Tryz.f39,[⟨77,ke.ce,ke.ok⟩,⟨20,kM.ce,kM.ok⟩],[0,1,4,5,6,8,33,48],[1000100],[(6,[(8,[1000100]),(9,[45]),(10,[45]),(11,[5])])],[(100004,jP.ce_r.ck),(6,jP.c6r.ck),(4,jP.c4r.ck)],[⟨76,jE.self.mc,jE.self.ok⟩,⟨39,jP.self.mc,jP.self.ok⟩,⟨18,Jo.mc,Jo.ok⟩,⟨36,jY.mc,jY.ok⟩],[]⟩
theorem jP.ok:MOk Za 39 jP.mc:=fnM jP.G (mc:=jP.mc) Tryz.func39 (m:=3) ⟨⟨⟨trivial,kL jP.ce_r⟩,kR jP.c4r⟩,kR jP.c6r⟩
def jE.pre:Shape:=⟨[(0,th10)],[(1000100,th11)]⟩
def jE.post:Shape:=⟨[(0,th24)],[(1000100,th11)]⟩
def jE.c4 {ρ:Type} (t2:Int)(ua:List Z8)(ub:Int)(uc:Int)(Z:Int×Int×Z7×Int×(List Z9)×(List Z8)×Int×Int→Option ρ):Option ρ:= bnd (jE.self (ua,ub,uc,())) fun y=>bnd (kM (23:Int) t2 (Z6 []) (0:Int) [y.1]) fun y1=>Z (y1.head.1,y1.head.2.1,y1.head.2.2.1,y1.head.2.2.2,y1.kids,y.2.1,y.2.2.1,y.2.2.2.1)
def jE.c4s:Shape:=((((jE.pre.s 2 th13).s 3 th14).o 2 th26).o 3 th9)
def jE.c4r:RC:=⟨jE.c4s,[(jE.c4s,0,[205,3,203])],no,[7,8,9,10],fun _=>jE.c4,fun _ _ _ _ _ _=>jb fun _=>(jb fun _=>ja)⟩
def jE.cu_ {ρ:Type} (a0:Int)(a1:Int)(a2:Z7)(a3:Int)(a4:List Z9)(ua:List Z8)(ub:Int)(uc:Int)(Z:Int×Int×Z7×Int×(List Z9)×(List Z8)×Int×Int→Option ρ):Option ρ:= br (decide (uc<0)) (bnd (jP.self ((1:Int),ua,ub,uc,())) fun y=>Z (y.1.head.1,y.1.head.2.1,y.1.head.2.2.1,y.1.head.2.2.2,y.1.kids,y.2.1,y.2.2.1,y.2.2.2.1)) (Z (a0,a1,a2,a3,a4,ua,ub,uc))
def jE.cu_s:Shape:=((jE.c4s.s 4 th16).o 4 th26)
def jE.cu_r:RC:=⟨jE.cu_s,[(jE.cu_s,0,[8,208])],no,[8,9,10,11,12,13,14,15],fun _=>jE.cu_,fun _ _ _ _ _ _ _ _ _ _=>jr (jb fun _=>ja) ja⟩
def jE.cT_ {ρ:Type} (t0:Int)(t1:Z7)(t2:Int)(a0:Int)(a1:Int)(a2:Z7)(a3:Int)(a4:List Z9)(ua:List Z8)(ub:Int)(uc:Int)(Z:Int×Int×Z7×Int×(List Z9)×(List Z8)×Int×Int→Option ρ):Option ρ:= br (t0==3) (bnd (jY ua ub uc) fun y=>bnd (Jt t1) fun y1=>bnd (JS y1) fun y2=>bnd (kM (20:Int) t2 (Z6 []) y2.1 []) fun y3=>Z (y3.head.1,y3.head.2.1,y3.head.2.2.1,y3.head.2.2.2,y3.kids,y.2.1,y.2.2.1,y.2.2.2.1)) (br (t0==1) (bnd (jY ua ub uc) fun y4=>bnd (kM (21:Int) t2 t1 (0:Int) []) fun y5=>Z (y5.head.1,y5.head.2.1,y5.head.2.2.1,y5.head.2.2.2,y5.kids,y4.2.1,y4.2.2.1,y4.2.2.2.1)) (bnd (Jn (Z6 [115,105,122,101]) ua ub uc) fun y6=>br y6.1 (bnd (jY y6.2.1 y6.2.2.1 y6.2.2.2.1) fun y7=>bnd (Jq (Z6 [40]) y7.2.1 y7.2.2.1 y7.2.2.2.1) fun y8=>bnd (JE y8.2.1 y8.2.2.1 y8.2.2.2.1) fun y9=>bnd (Jq (Z6 [41]) y9.2.1 y9.2.2.1 y9.2.2.2.1) fun y10=>bnd (kM (22:Int) t2 y9.1.2.1 (0:Int) []) fun y11=>Z (y11.head.1,y11.head.2.1,y11.head.2.2.1,y11.head.2.2.2,y11.kids,y10.2.1,y10.2.2.1,y10.2.2.2.1)) (bnd (Jq (Z6 [40]) y6.2.1 y6.2.2.1 y6.2.2.2.1) fun y12=>bnd (jE.cu_ a0 a1 a2 a3 a4 y12.2.1 y12.2.2.1 y12.2.2.2.1 some) fun y13=>bnd (Jq (Z6 [41]) y13.2.2.2.2.2.1 y13.2.2.2.2.2.2.1 y13.2.2.2.2.2.2.2) fun y14=>Z (y13.1,y13.2.1,y13.2.2.1,y13.2.2.2.1,y13.2.2.2.2.1,y14.2.1,y14.2.2.1,y14.2.2.2.1))))
def jE.cT_r:RC:=⟨jE.cu_s,[(jE.cu_s,0,[8,208])],no,[5,6,7,8,9,10,11,12,13,14,15],fun _=>jE.cT_,fun _ _ _ _ _ _ _ _ _ _ _ _ _=>jr (jb fun _=>(jb fun _=>(jb fun _=>(jb fun _=>ja)))) (jr (jb fun _=>(jb fun _=>ja)) (jb fun _=>(jr (jb fun _=>(jb fun _=>(jb fun _=>(jb fun _=>(jb fun _=>ja))))) (jb fun _=>(jb fun _=>(jb fun _=>ja))))))⟩
def jE.c25 {ρ:Type} (t1:Z7)(t2:Int)(a0:Int)(a1:Int)(a2:Z7)(a3:Int)(a4:List Z9)(ua:List Z8)(ub:Int)(uc:Int)(Z:Int×Int×Z7×Int×(List Z9)×(List Z8)×Int×Int→Option ρ):Option ρ:= bnd (jE.self (ua,ub,uc,())) fun y=>bnd (kM (24:Int) t2 t1 (0:Int) [Rose.mk (a0,a1,a2,a3) a4,y.1]) fun y1=>Z (y1.head.1,y1.head.2.1,y1.head.2.2.1,y1.head.2.2.2,y1.kids,y.2.1,y.2.2.1,y.2.2.2.1)
def jE.c25r:RC:=⟨jE.cu_s,[(jE.cu_s,0,[8,208])],no,[6,7,8,9,10,11,12,13,14,15],fun _=>jE.c25,fun _ _ _ _ _ _ _ _ _ _ _ _=>jb fun _=>(jb fun _=>ja)⟩
def jE.cZ_ {ρ:Type} (t0:Int)(t1:Z7)(t2:Int)(a0:Int)(a1:Int)(a2:Z7)(a3:Int)(a4:List Z9)(ua:List Z8)(ub:Int)(uc:Int)(Z:Int×Z7×Int×Int×Int×Z7×Int×(List Z9)×(List Z8)×Int×Int→Option ρ):Option ρ:= bnd (Jn (Z6 [42,42]) ua ub uc) fun y=>br y.1 (bnd (jY y.2.1 y.2.2.1 y.2.2.2.1) fun y1=>bnd (jE.c25 y1.1.2.1 y1.1.2.2 a0 a1 a2 a3 a4 y1.2.1 y1.2.2.1 y1.2.2.2.1 some) fun y2=>Z (y1.1.1,y1.1.2.1,y1.1.2.2,y2.1,y2.2.1,y2.2.2.1,y2.2.2.2.1,y2.2.2.2.2.1,y2.2.2.2.2.2.1,y2.2.2.2.2.2.2.1,y2.2.2.2.2.2.2.2)) (Z (t0,t1,t2,a0,a1,a2,a3,a4,y.2.1,y.2.2.1,y.2.2.2.1))
def jE.cZ_r:RC:=⟨jE.cu_s,[(jE.cu_s,0,[5,211])],no,[5,6,7,8,9,10,11,12,13,14,15],fun _=>jE.cZ_,fun _ _ _ _ _ _ _ _ _ _ _ _ _=>jb fun _=>(jr (jb fun _=>(jb fun _=>ja)) ja)⟩
def jE (ua:List Z8) (ub:Int) (uc:Int):Option (Z9×(List Z8)×Int×Int×Unit):= bnd (Jo ua ub uc) fun y=>bnd (Jn (Z6 [45]) y.2.1 y.2.2.1 y.2.2.2.1) fun y1=>br y1.1 (bnd (jY y1.2.1 y1.2.2.1 y1.2.2.2.1) fun y2=>bnd (jE.c4 y.1.2.2 y2.2.1 y2.2.2.1 y2.2.2.2.1 some) fun y3=>some (Rose.mk (y3.1,y3.2.1,y3.2.2.1,y3.2.2.2.1) y3.2.2.2.2.1,y3.2.2.2.2.2.1,y3.2.2.2.2.2.2.1,y3.2.2.2.2.2.2.2,())) (bnd (jE.cT_ y.1.1 y.1.2.1 y.1.2.2 (0:Int) (0:Int) [] (0:Int) [] y1.2.1 y1.2.2.1 y1.2.2.2.1 some) fun y4=>bnd (jE.cZ_ y.1.1 y.1.2.1 y.1.2.2 y4.1 y4.2.1 y4.2.2.1 y4.2.2.2.1 y4.2.2.2.2.1 y4.2.2.2.2.2.1 y4.2.2.2.2.2.2.1 y4.2.2.2.2.2.2.2 some) fun y5=>some (Rose.mk (y5.2.2.2.1,y5.2.2.2.2.1,y5.2.2.2.2.2.1,y5.2.2.2.2.2.2.1) y5.2.2.2.2.2.2.2.1,y5.2.2.2.2.2.2.2.2.1,y5.2.2.2.2.2.2.2.2.2.1,y5.2.2.2.2.2.2.2.2.2.2,()))
def jE.mc:MCallee:=⟨76,jE.pre,jE.post,fun X=>jE X.1 X.2.1 X.2.2.1⟩
def jE.G:EB Za:=⟨tb,Tryz.f76,[⟨20,kM.ce,kM.ok⟩,⟨107,Jt.ce,Jt.ok⟩,⟨106,JS.ce,JS.ok⟩],[0,2,3,4,5,7,11,22,38,47,67,73],[1000100],[(25,[(6,[1000100]),(7,[83]),(8,[83]),(9,[4])]),(4,[(3,[1000100]),(4,[18]),(5,[18]),(6,[2])])],[(294215,jE.cZ_r.ck),(25,jE.c25r.ck),(224611,jE.cT_r.ck),(281925,jE.cu_r.ck),(4,jE.c4r.ck)],[⟨18,Jo.mc,Jo.ok⟩,⟨35,Jn.mc,Jn.ok⟩,⟨36,jY.mc,jY.ok⟩,⟨76,jE.self.mc,jE.self.ok⟩,⟨38,Jq.mc,Jq.ok⟩,⟨37,JE.mc,JE.ok⟩,⟨39,jP.self.mc,jP.self.ok⟩],[]⟩
theorem jE.ok:MOk Za 76 jE.mc:=fnM jE.G (mc:=jE.mc) Tryz.func76 (m:=5) ⟨⟨⟨⟨⟨trivial,kR jE.c4r⟩,kJ jE.cT_r⟩,kJ jE.cu_r⟩,kJ jE.cZ_r⟩,kR jE.c25r⟩
end
@[reducible] def ku.fuel:Nat→ku.Self
  | 0=>{ F_R_rp_expr_b:=fun _=>none,ok_R_rp_expr_b:=⟨⟨Tryz.f39,Tryz.func39,by kernel_rfl,by kernel_rfl⟩,fun _ _ _ _ _ _ _ hy=>by cases hy⟩,F_R_rp_signed_b:=fun _=>none,ok_R_rp_signed_b:=⟨⟨Tryz.f76,Tryz.func76,by kernel_rfl,by kernel_rfl⟩,fun _ _ _ _ _ _ _ hy=>by cases hy⟩ }
  | n+1=>{ F_R_rp_expr_b:=fun X=>(@jP.mc (ku.fuel n)).F X,ok_R_rp_expr_b:=@jP.ok (ku.fuel n),F_R_rp_signed_b:=fun X=>(@jE.mc (ku.fuel n)).F X,ok_R_rp_signed_b:=@jE.ok (ku.fuel n) }
def kZ (X:densU jP.self.pre.tys):Option (densU jP.self.post.tys):=(ku.fuel (1000000)).F_R_rp_expr_b X
def kZ.mc:MCallee:=⟨39,jP.self.pre,jP.self.post,fun X=>kZ X⟩
theorem kZ.ok:MOk Za 39 kZ.mc:=(ku.fuel (1000000)).ok_R_rp_expr_b
abbrev th28:SD:=.one (.val (.sl (.st (.node (.pair (.int .i64) (.pair (.int .i64) (.pair .str (.int .i64))))))))
abbrev th29:SO:=.arr 0 false 24 (.st (.node (.pair (.int .i64) (.pair (.int .i64) (.pair .str (.int .i64))))))
def Jg.pre:Shape:=⟨[(0,th10),(1,th1)],[(1000100,th11)]⟩
def Jg.post:Shape:=⟨[(0,th28)],[(1000100,th11)]⟩
def Jg.c5 (wires:Bool)(ua:List Z8)(ub:Int)(uc:Int)(Z:Bool×(List Z8)×Int×Int→Option ρ):Option ρ:= br wires (bnd (Jn (Z6 [91]) ua ub uc) fun y=>Z (y.1,y.2.1,y.2.2.1,y.2.2.2.1)) (Z (false,ua,ub,uc))
def Jg.c5s:Shape:=((((((Jg.pre.s 4 th28).s 5 th21).s 6 th27).s 7 th4).o 5 th29).o 6 th9)
def Jg.c5x0:Shape:=(Jg.c5s.s 19 th1)
def Jg.c5r:RC:=⟨Jg.c5s,[(Jg.c5x0,0,[3,101,4,203])],no,[0,7,8,9],@Jg.c5,fun _ _ _ _ _ _=>jr (jb fun _=>ja) ja⟩
def Jg.cJ_ (wires:Bool)(n:Int)(ua:List Z8)(ub:Int)(uc:Int)(Z:Int×Bool×(List Z8)×Int×Int→Option ρ):Option ρ:= bnd (Jg.c5 wires ua ub uc some) fun y=>br y.1 (bnd (jY y.2.1 y.2.2.1 y.2.2.2) fun y1=>bnd (Jq (Z6 [93]) y1.2.1 y1.2.2.1 y1.2.2.2.1) fun y2=>Z ((1:Int),y.1,y2.2.1,y2.2.2.1,y2.2.2.2.1)) (Z (n,y.1,y.2.1,y.2.2.1,y.2.2.2))
def Jg.cJ_r:RC:=⟨Jg.c5s,[(Jg.c5x0,0,[2,201,101,4,203])],no,[0,2,7,8,9],@Jg.cJ_,fun _ _ _ _ _ _ _=>jb fun _=>(jr (jb fun _=>(jb fun _=>ja)) ja)⟩
def Jg.ca_ (wires:Bool)(out:List Z9)(ua:List Z8)(ub:Int)(uc:Int)(Z:((List Z9)×(List Z8)×Int×Int)⊕((List Z9)×(List Z8)×Int×Int)→Option ρ):Option ρ:= br (decide (uc<0)) (bnd (JE ua ub uc) fun y=>bnd (Jg.cJ_ wires (0:Int) y.2.1 y.2.2.1 y.2.2.2.1 some) fun y1=>bnd (kM (6:Int) y.1.2.2 y.1.2.1 y1.1 []) fun y2=>bnd (okIf (decide ((out.length+1)*64≤140737488355328)&&decide (out.length+1≤140737488355328))) fun y3=>bnd (Jn (Z6 [44]) y1.2.2.1 y1.2.2.2.1 y1.2.2.2.2) fun y4=>br (!y4.1) (Z (.inr ((out++[y2]),y4.2.1,y4.2.2.1,y4.2.2.2.1))) (bnd (jY y4.2.1 y4.2.2.1 y4.2.2.2.1) fun y5=>Z (.inl ((out++[y2]),y5.2.1,y5.2.2.1,y5.2.2.2.1)))) (Z (.inr (out,ua,ub,uc)))
def Jg.ca_s:Shape:=(((Jg.c5s.d 6).d 7).g 6)
def Jg.ca_r:LC:=⟨Jg.ca_s,[(Jg.ca_s,2,[2,204])],no,[2,3,4,5],[0,2,3,4,5],@Jg.ca_,fun _ _ _ _ _ _ _=>jr (jb fun _=>(jb fun _=>(jb fun _=>(jb fun _=>(jb fun _=>(jr ja (jb fun _=>ja))))))) ja⟩
def Jg (wires:Bool) (ua:List Z8) (ub:Int) (uc:Int):Option ((List Z9)×(List Z8)×Int×Int×Unit):= bnd (iter (fun s↦Jg.ca_ wires s.1 s.2.1 s.2.2.1 s.2.2.2 some) ([],ua,ub,uc)) fun y=>some (y.1,y.2.1,y.2.2.1,y.2.2.2,())
def Jg.mc:MCallee:=⟨78,Jg.pre,Jg.post,fun X=>Jg X.1 X.2.1 X.2.2.1 X.2.2.2.1⟩
def Jg.G:EB Za:=⟨tb,Tryz.f78,[⟨20,kM.ce,kM.ok⟩],[0,1,4,5,6,7,12,19,35],[5,1000100,1002204890019,2000000000019],[],[(100002,Jg.ca_r.ck),(220489,Jg.cJ_r.ck),(5,Jg.c5r.ck)],[⟨37,JE.mc,JE.ok⟩,⟨35,Jn.mc,Jn.ok⟩,⟨36,jY.mc,jY.ok⟩,⟨38,Jq.mc,Jq.ok⟩],[]⟩
theorem Jg.ok:MOk Za 78 Jg.mc:=fnM Jg.G (mc:=Jg.mc) Tryz.func78 (m:=3) ⟨⟨⟨trivial,kL Jg.ca_r⟩,kJ Jg.cJ_r⟩,kR Jg.c5r⟩
abbrev th30:SD:=.one (.own 18 0)
def kC.pre:Shape:=⟨[(0,th10),(1,th12)],[(1000100,th11)]⟩
def kC.post:Shape:=⟨[(0,th24)],[(1000100,th11)]⟩
def kC.cM_ (t18:List Z9)(ua:List Z8)(ub:Int)(uc:Int)(Z:(List Z9)×(List Z8)×Int×Int→Option ρ):Option ρ:= bnd (Jn (Z6 [46,46]) ua ub uc) fun y=>br y.1 (bnd (jY y.2.1 y.2.2.1 y.2.2.2.1) fun y1=>bnd (kZ ((1:Int),y1.2.1,y1.2.2.1,y1.2.2.2.1,())) fun y2=>bnd (okIf (decide ((t18.length+1)*64≤140737488355328)&&decide (t18.length+1≤140737488355328))) fun y3=>Z ((t18++[y2.1]),y2.2.1,y2.2.2.1,y2.2.2.2.1)) (Z (t18,y.2.1,y.2.2.1,y.2.2.2.1))
def kC.cM_s:Shape:=((((((kC.pre.s 3 th14).s 4 th16).s 5 th30).o 3 th9).o 4 th26).o 18 th29)
def kC.cM_r:RC:=⟨kC.cM_s,[(kC.cM_s,0,[9,204])],no,[9,10,11,12],@kC.cM_,fun _ _ _ _ _ _=>jb fun _=>(jr (jb fun _=>(jb fun _=>(jb fun _=>ja))) ja)⟩
def kC (w:Int×(Z7×Int)) (ua:List Z8) (ub:Int) (uc:Int):Option (Z9×(List Z8)×Int×Int×Unit):= bnd (Jn (Z6 [91]) ua ub uc) fun y=>br (!y.1) (bnd (kM (19:Int) w.2.2 w.2.1 (0:Int) []) fun y1=>some (Rose.mk (y1.head.1,y1.head.2.1,y1.head.2.2.1,y1.head.2.2.2) y1.kids,y.2.1,y.2.2.1,y.2.2.2.1,())) (bnd (jY y.2.1 y.2.2.1 y.2.2.2.1) fun y2=>bnd (kZ ((1:Int),y2.2.1,y2.2.2.1,y2.2.2.2.1,())) fun y3=>bnd (kC.cM_ [y3.1] y3.2.1 y3.2.2.1 y3.2.2.2.1 some) fun y4=>bnd (Jq (Z6 [93]) y4.2.1 y4.2.2.1 y4.2.2.2) fun y5=>bnd (kM (19:Int) w.2.2 w.2.1 (↑(List.length y4.1):Int) y4.1) fun y6=>some (Rose.mk (y6.head.1,y6.head.2.1,y6.head.2.2.1,y6.head.2.2.2) y6.kids,y5.2.1,y5.2.2.1,y5.2.2.2.1,()))
def kC.mc:MCallee:=⟨81,kC.pre,kC.post,fun X=>kC X.1 X.2.1 X.2.2.1 X.2.2.2.1⟩
def kC.G:EB Za:=⟨tb,Tryz.f81,[⟨20,kM.ce,kM.ok⟩],[0,1,3,4,5,8,20],[18,1000100],[],[(220487,kC.cM_r.ck)],[⟨35,Jn.mc,Jn.ok⟩,⟨36,jY.mc,jY.ok⟩,⟨39,kZ.mc,kZ.ok⟩,⟨38,Jq.mc,Jq.ok⟩],[]⟩
theorem kC.ok:MOk Za 81 kC.mc:=fnM kC.G (mc:=kC.mc) Tryz.func81 (m:=1) ⟨trivial,kJ kC.cM_r⟩
def Yk.pre:Shape:=⟨[(0,th10)],[(1000100,th11)]⟩
def Yk.post:Shape:=⟨[(0,th24)],[(1000100,th11)]⟩
def Yk (ua:List Z8) (ub:Int) (uc:Int):Option (Z9×(List Z8)×Int×Int×Unit):= bnd (JE ua ub uc) fun y=>bnd (kC y.1 y.2.1 y.2.2.1 y.2.2.2.1) fun y1=>some (Rose.mk (y1.1.head.1,y1.1.head.2.1,y1.1.head.2.2.1,y1.1.head.2.2.2) y1.1.kids,y1.2.1,y1.2.2.1,y1.2.2.2.1,())
def Yk.mc:MCallee:=⟨80,Yk.pre,Yk.post,fun X=>Yk X.1 X.2.1 X.2.2.1⟩
def Yk.G:EB Za:=⟨tb,Tryz.f80,[],[0,2],[1000100],[],[],[⟨37,JE.mc,JE.ok⟩,⟨81,kC.mc,kC.ok⟩],[]⟩
theorem Yk.ok:MOk Za 80 Yk.mc:=fnM Yk.G (mc:=Yk.mc) Tryz.func80 (m:=0) trivial
abbrev th31:SD:=.one (.ref 7 0)
abbrev th32:SD:=.one (.ref 8 0)
def jp.self.pre:Shape:=⟨[(0,th10),(1,th4)],[(1000100,th11)]⟩
def jp.self.post:Shape:=⟨[(0,th24)],[(1000100,th11)]⟩
class jp.Self where
  F:densU jp.self.pre.tys→Option (densU jp.self.post.tys)
  ok:MOk Za 82 ⟨82,jp.self.pre,jp.self.post,F⟩
section
variable [jp.Self]
def jp.self (X:densU jp.self.pre.tys):Option (densU jp.self.post.tys):=jp.Self.F X
def jp.self.mc:MCallee:=⟨82,jp.self.pre,jp.self.post,fun X=>jp.self X⟩
theorem jp.self.ok:MOk Za 82 jp.self.mc:=jp.Self.ok
def jp.pre:Shape:=⟨[(0,th10),(1,th4)],[(1000100,th11)]⟩
def jp.post:Shape:=⟨[(0,th24)],[(1000100,th11)]⟩
def jp.c8 {ρ:Type} (level:Int)(kinds:List Int)(t2:Int)(a0:Int)(a1:Int)(a2:Z7)(a3:Int)(a4:List Z9)(ua:List Z8)(ub:Int)(uc:Int)(Z:Int×Int×Z7×Int×(List Z9)×(List Z8)×Int×Int→Option ρ):Option ρ:= bnd (idx kinds level) fun y=>bnd (jp.self (i64.wrap (level+1),ua,ub,uc,())) fun y1=>bnd (kM y t2 (Z6 []) (0:Int) [Rose.mk (a0,a1,a2,a3) a4,y1.1]) fun y2=>Z (y2.head.1,y2.head.2.1,y2.head.2.2.1,y2.head.2.2.2,y2.kids,y1.2.1,y1.2.2.1,y1.2.2.2.1)
def jp.c8s:Shape:=((((((((jp.pre.s 4 th16).s 5 th3).s 6 th15).s 7 th31).s 8 th32).o 4 th26).o 7 th9).o 8 th26)
def jp.c8r:RC:=⟨jp.c8s,[(jp.c8s,0,[11,208])],no,[0,2,10,11,12,13,14,15,16,17,18],fun _=>jp.c8,fun _ _ _ _ _ _ _ _ _ _ _ _ _=>jb fun _=>(jb fun _=>(jb fun _=>ja))⟩
def jp.cf_ {ρ:Type} (level:Int)(words:List Z7)(kinds:List Int)(t0:Int)(t1:Z7)(t2:Int)(a0:Int)(a1:Int)(a2:Z7)(a3:Int)(a4:List Z9)(ua:List Z8)(ub:Int)(uc:Int)(Z:(Int×Z7×Int×Int×Int×Z7×Int×(List Z9)×(List Z8)×Int×Int)⊕(Int×Z7×Int×Int×Int×Z7×Int×(List Z9)×(List Z8)×Int×Int)→Option ρ):Option ρ:= bnd (idx words level) fun y=>bnd (Jn y ua ub uc) fun y1=>br y1.1 (bnd (jY y1.2.1 y1.2.2.1 y1.2.2.2.1) fun y2=>bnd (jp.c8 level kinds y2.1.2.2 a0 a1 a2 a3 a4 y2.2.1 y2.2.2.1 y2.2.2.2.1 some) fun y3=>Z (.inl (y2.1.1,y2.1.2.1,y2.1.2.2,y3.1,y3.2.1,y3.2.2.1,y3.2.2.2.1,y3.2.2.2.2.1,y3.2.2.2.2.2.1,y3.2.2.2.2.2.2.1,y3.2.2.2.2.2.2.2))) (Z (.inr (t0,t1,t2,a0,a1,a2,a3,a4,y1.2.1,y1.2.2.1,y1.2.2.2.1)))
def jp.cf_r:LC:=⟨jp.c8s,[(jp.c8s,2,[8,211])],no,[8,9,10,11,12,13,14,15,16,17,18],[0,1,2,8,9,10,11,12,13,14,15,16,17,18],fun _=>jp.cf_,fun _ _ _ _ _ _ _ _ _ _ _ _ _ _ _ _=>jb fun _=>(jb fun _=>(jr (jb fun _=>(jb fun _=>ja)) ja))⟩
def jp.c12 {ρ:Type} (t2:Int)(ua:List Z8)(ub:Int)(uc:Int)(Z:Int×Int×Z7×Int×(List Z9)×(List Z8)×Int×Int→Option ρ):Option ρ:= bnd (jp.self ((4:Int),ua,ub,uc,())) fun y=>bnd (kM (27:Int) t2 (Z6 []) (0:Int) [y.1]) fun y1=>Z (y1.head.1,y1.head.2.1,y1.head.2.2.1,y1.head.2.2.2,y1.kids,y.2.1,y.2.2.1,y.2.2.2.1)
def jp.c12s:Shape:=((jp.c8s.d 8).g 8)
def jp.c12r:RC:=⟨jp.c12s,[(jp.c12s,0,[3,205,3,203])],no,[10,11,12,13],fun _=>jp.c12,fun _ _ _ _ _ _=>jb fun _=>(jb fun _=>ja)⟩
def jp.c18 {ρ:Type} (t0:Int)(t1:Z7)(Z:Bool→Option ρ):Option ρ:= br (t0==3) (br (t1==Z6 [48]) (Z true) (Z (t1==Z6 [49]))) (Z false)
def jp.c18x0:Shape:=(jp.c12s.s 73 th1)
def jp.c18r:RC:=⟨jp.c12s,[(jp.c18x0,0,[3,101])],no,[8,9],fun _=>jp.c18,fun _ _ _ _=>jr (jr ja ja) ja⟩
def jp.c20 {ρ:Type} (t1:Z7)(t2:Int)(Z:Int×Int×Z7×Int×(List Z9)→Option ρ):Option ρ:= bnd (idx t1 (0:Int)) fun y=>bnd (kM (26:Int) t2 (Z6 []) (i64.wrap (u8.wrap ((↑(UInt8.toNat y):Int)-48))) []) fun y1=>Z (y1.head.1,y1.head.2.1,y1.head.2.2.1,y1.head.2.2.2,y1.kids)
def jp.c20r:RC:=⟨jp.c12s,[(jp.c12s,0,[3,205])],no,[9,10],fun _=>jp.c20,fun _ _ _ _=>jb fun _=>(jb fun _=>ja)⟩
def jp (level:Int) (ua:List Z8) (ub:Int) (uc:Int):Option (Z9×(List Z8)×Int×Int×Unit):= bnd (Jo ua ub uc) fun y=>br (decide (level<4)) (bnd (jp.self (i64.wrap (level+1),y.2.1,y.2.2.1,y.2.2.2.1,())) fun y1=>bnd (iter (fun s↦jp.cf_ level [Z6 [],Z6 [124],Z6 [94],Z6 [38]] [(0:Int),(29:Int),(30:Int),(28:Int)] s.1 s.2.1 s.2.2.1 s.2.2.2.1 s.2.2.2.2.1 s.2.2.2.2.2.1 s.2.2.2.2.2.2.1 s.2.2.2.2.2.2.2.1 s.2.2.2.2.2.2.2.2.1 s.2.2.2.2.2.2.2.2.2.1 s.2.2.2.2.2.2.2.2.2.2 some) (y.1.1,y.1.2.1,y.1.2.2,y1.1.head.1,y1.1.head.2.1,y1.1.head.2.2.1,y1.1.head.2.2.2,Rose.kids y1.1,y1.2.1,y1.2.2.1,y1.2.2.2.1)) fun y2=>some (Rose.mk (y2.2.2.2.1,y2.2.2.2.2.1,y2.2.2.2.2.2.1,y2.2.2.2.2.2.2.1) y2.2.2.2.2.2.2.2.1,y2.2.2.2.2.2.2.2.2.1,y2.2.2.2.2.2.2.2.2.2.1,y2.2.2.2.2.2.2.2.2.2.2,())) (bnd (Jn (Z6 [33]) y.2.1 y.2.2.1 y.2.2.2.1) fun y3=>br y3.1 (bnd (jY y3.2.1 y3.2.2.1 y3.2.2.2.1) fun y4=>bnd (jp.c12 y.1.2.2 y4.2.1 y4.2.2.1 y4.2.2.2.1 some) fun y5=>some (Rose.mk (y5.1,y5.2.1,y5.2.2.1,y5.2.2.2.1) y5.2.2.2.2.1,y5.2.2.2.2.2.1,y5.2.2.2.2.2.2.1,y5.2.2.2.2.2.2.2,())) (bnd (Jn (Z6 [40]) y3.2.1 y3.2.2.1 y3.2.2.2.1) fun y6=>br y6.1 (bnd (jY y6.2.1 y6.2.2.1 y6.2.2.2.1) fun y7=>bnd (jp.self ((1:Int),y7.2.1,y7.2.2.1,y7.2.2.2.1,())) fun y8=>bnd (Jq (Z6 [41]) y8.2.1 y8.2.2.1 y8.2.2.2.1) fun y9=>some (Rose.mk (y8.1.head.1,y8.1.head.2.1,y8.1.head.2.2.1,y8.1.head.2.2.2) y8.1.kids,y9.2.1,y9.2.2.1,y9.2.2.2.1,())) (bnd (jp.c18 y.1.1 y.1.2.1 some) fun y10=>br y10 (bnd (jY y6.2.1 y6.2.2.1 y6.2.2.2.1) fun y11=>bnd (jp.c20 y.1.2.1 y.1.2.2 some) fun y12=>some (Rose.mk (y12.1,y12.2.1,y12.2.2.1,y12.2.2.2.1) y12.2.2.2.2,y11.2.1,y11.2.2.1,y11.2.2.2.1,())) (bnd (Yk y6.2.1 y6.2.2.1 y6.2.2.2.1) fun y13=>some (Rose.mk (y13.1.head.1,y13.1.head.2.1,y13.1.head.2.2.1,y13.1.head.2.2.2) y13.1.kids,y13.2.1,y13.2.2.1,y13.2.2.2.1,())))))
def jp.mc:MCallee:=⟨82,jp.pre,jp.post,fun X=>jp X.1 X.2.1 X.2.2.1 X.2.2.2.1⟩
def jp.G:EB Za:=⟨tb,Tryz.f82,[⟨20,kM.ce,kM.ok⟩],[0,1,4,5,6,7,8,9,15,25,43,53,73],[1000100],[(20,[(8,[4])]),(12,[(3,[1000100]),(4,[50]),(5,[50]),(6,[4])]),(8,[(10,[1000100]),(11,[39]),(12,[39]),(13,[8])])],[(20,jp.c20r.ck),(18,jp.c18r.ck),(12,jp.c12r.ck),(100006,jp.cf_r.ck),(8,jp.c8r.ck)],[⟨18,Jo.mc,Jo.ok⟩,⟨82,jp.self.mc,jp.self.ok⟩,⟨35,Jn.mc,Jn.ok⟩,⟨36,jY.mc,jY.ok⟩,⟨38,Jq.mc,Jq.ok⟩,⟨80,Yk.mc,Yk.ok⟩],[]⟩
theorem jp.ok:MOk Za 82 jp.mc:=fnM jp.G (mc:=jp.mc) Tryz.func82 (m:=5) ⟨⟨⟨⟨⟨trivial,kL jp.cf_r⟩,kR jp.c8r⟩,kR jp.c12r⟩,kR jp.c18r⟩,kR jp.c20r⟩
end
@[reducible] def jp.fuel:Nat→jp.Self
  | 0=>⟨fun _=>none,⟨⟨Tryz.f82,Tryz.func82,by kernel_rfl,by kernel_rfl⟩,fun _ _ _ _ _ _ _ hy=>by cases hy⟩⟩
  | n+1=>⟨fun X=>(@jp.mc (jp.fuel n)).F X,@jp.ok (jp.fuel n)⟩
def VT (X:densU jp.self.pre.tys):Option (densU jp.self.post.tys):=(jp.fuel (1000000)).F X
def VT.mc:MCallee:=⟨82,jp.self.pre,jp.self.post,fun X=>VT X⟩
theorem VT.ok:MOk Za 82 VT.mc:=mok_diag (F:=fun n=>(jp.fuel n).F) (fun n=>(jp.fuel n).ok) (fun X=>1000000)
abbrev th33:SD:=.one (.own 9 0)
abbrev th34:SD:=.one (.own 10 0)
def Jd.pre:Shape:=⟨[(0,th10),(1,th4),(2,th2),(3,th28)],[(1000100,th11)]⟩
def Jd.post:Shape:=⟨[(0,th24)],[(1000100,th11)]⟩
def Jd.cc_ (args:List Z9)(ua:List Z8)(ub:Int)(uc:Int)(Z:((List Z9)×(List Z8)×Int×Int)⊕((List Z9)×(List Z8)×Int×Int)→Option ρ):Option ρ:= bnd (Jn (Z6 [44]) ua ub uc) fun y=>br y.1 (bnd (jY y.2.1 y.2.2.1 y.2.2.2.1) fun y1=>bnd (kZ ((1:Int),y1.2.1,y1.2.2.1,y1.2.2.2.1,())) fun y2=>bnd (okIf (decide ((args.length+1)*64≤140737488355328)&&decide (args.length+1≤140737488355328))) fun y3=>Z (.inl ((args++[y2.1]),y2.2.1,y2.2.2.1,y2.2.2.2.1))) (Z (.inr (args,y.2.1,y.2.2.1,y.2.2.2.1)))
def Jd.cc_s:Shape:=((((((Jd.pre.s 8 th32).s 9 th33).s 10 th34).o 8 th26).o 9 th29).o 10 th29)
def Jd.cc_r:LC:=⟨Jd.cc_s,[(Jd.cc_s,2,[8,201,1,203])],no,[8,10,11,12],[8,10,11,12],@Jd.cc_,fun _ _ _ _ _ _=>jb fun _=>(jr (jb fun _=>(jb fun _=>(jb fun _=>ja))) ja)⟩
def Jd.cR_ (args:List Z9)(ua:List Z8)(ub:Int)(uc:Int)(Z:(List Z9)×(List Z8)×Int×Int→Option ρ):Option ρ:= bnd (Jn (Z6 [40]) ua ub uc) fun y=>br y.1 (bnd (jY y.2.1 y.2.2.1 y.2.2.2.1) fun y1=>bnd (kZ ((1:Int),y1.2.1,y1.2.2.1,y1.2.2.2.1,())) fun y2=>bnd (okIf (decide ((args.length+1)*64≤140737488355328)&&decide (args.length+1≤140737488355328))) fun y3=>bnd (iter (fun s↦Jd.cc_ s.1 s.2.1 s.2.2.1 s.2.2.2 some) (args++[y2.1],y2.2.1,y2.2.2.1,y2.2.2.2.1)) fun y4=>bnd (Jq (Z6 [41]) y4.2.1 y4.2.2.1 y4.2.2.2) fun y5=>Z (y4.1,y5.2.1,y5.2.2.1,y5.2.2.2.1)) (Z (args,y.2.1,y.2.2.1,y.2.2.2.1))
def Jd.cR_r:RC:=⟨Jd.cc_s,[(Jd.cc_s,0,[8,201,1,203])],no,[8,10,11,12],@Jd.cR_,fun _ _ _ _ _ _=>jb fun _=>(jr (jb fun _=>(jb fun _=>(jb fun _=>(jb fun _=>(jb fun _=>ja))))) ja)⟩
def Jd.c9 (ua:List Z8)(ub:Int)(uc:Int)(Z:Bool×(List Z8)×Int×Int→Option ρ):Option ρ:= br (decide (uc<0)) (bnd (Jo ua ub uc) fun y=>Z ((y.1.1==1),y.2.1,y.2.2.1,y.2.2.2.1)) (Z (false,ua,ub,uc))
def Jd.c9x0:Shape:=(Jd.cc_s.s 41 th1)
def Jd.c9r:RC:=⟨Jd.cc_s,[(Jd.c9x0,0,[3,101,7,203])],no,[10,11,12],@Jd.c9,fun _ _ _ _ _=>jr (jb fun _=>ja) ja⟩
def Jd.ck_ (refs:List Z9)(ua:List Z8)(ub:Int)(uc:Int)(Z:((List Z9)×(List Z8)×Int×Int)⊕((List Z9)×(List Z8)×Int×Int)→Option ρ):Option ρ:= bnd (Jn (Z6 [44]) ua ub uc) fun y=>br y.1 (bnd (jY y.2.1 y.2.2.1 y.2.2.2.1) fun y1=>bnd (Yk y1.2.1 y1.2.2.1 y1.2.2.2.1) fun y2=>bnd (okIf (decide ((refs.length+1)*64≤140737488355328)&&decide (refs.length+1≤140737488355328))) fun y3=>Z (.inl ((refs++[y2.1]),y2.2.1,y2.2.2.1,y2.2.2.2.1))) (Z (.inr (refs,y.2.1,y.2.2.1,y.2.2.2.1)))
def Jd.ck_r:LC:=⟨Jd.cc_s,[(Jd.cc_s,4,[9,204])],no,[9,10,11,12],[9,10,11,12],@Jd.ck_,fun _ _ _ _ _ _=>jb fun _=>(jr (jb fun _=>(jb fun _=>(jb fun _=>ja))) ja)⟩
def Jd.cU_ (refs:List Z9)(ua:List Z8)(ub:Int)(uc:Int)(Z:(List Z9)×(List Z8)×Int×Int→Option ρ):Option ρ:= bnd (Jd.c9 ua ub uc some) fun y=>br y.1 (bnd (Yk y.2.1 y.2.2.1 y.2.2.2) fun y1=>bnd (okIf (decide ((refs.length+1)*64≤140737488355328)&&decide (refs.length+1≤140737488355328))) fun y2=>bnd (iter (fun s↦Jd.ck_ s.1 s.2.1 s.2.2.1 s.2.2.2 some) (refs++[y1.1],y1.2.1,y1.2.2.1,y1.2.2.2.1)) fun y3=>Z (y3.1,y3.2.1,y3.2.2.1,y3.2.2.2)) (Z (refs,y.2.1,y.2.2.1,y.2.2.2))
def Jd.cU_r:RC:=⟨Jd.cc_s,[(Jd.cc_s,0,[9,204])],no,[9,10,11,12],@Jd.cU_,fun _ _ _ _ _ _=>jb fun _=>(jr (jb fun _=>(jb fun _=>(jb fun _=>ja))) ja)⟩
def Jd (t1:Int) (name:Z7) (mods:List Z9) (ua:List Z8) (ub:Int) (uc:Int):Option (Z9×(List Z8)×Int×Int×Unit):= bnd (Jd.cR_ [] ua ub uc some) fun y=>bnd (Jd.cU_ [] y.2.1 y.2.2.1 y.2.2.2 some) fun y1=>bnd (Jq (Z6 [59]) y1.2.1 y1.2.2.1 y1.2.2.2) fun y2=>bnd (kM (25:Int) (0:Int) (Z6 []) (0:Int) mods) fun y3=>bnd (kM (25:Int) (0:Int) (Z6 []) (0:Int) y.1) fun y4=>bnd (kM (25:Int) (0:Int) (Z6 []) (0:Int) y1.1) fun y5=>bnd (kM (8:Int) t1 name (0:Int) [y3,y4,y5]) fun y6=>some (Rose.mk (y6.head.1,y6.head.2.1,y6.head.2.2.1,y6.head.2.2.2) y6.kids,y2.2.1,y2.2.2.1,y2.2.2.2.1,())
def Jd.mc:MCallee:=⟨83,Jd.pre,Jd.post,fun X=>Jd X.1 X.2.1 X.2.2.1 X.2.2.2.1 (q4 X).1 (q4 X).2.1⟩
def Jd.G:EB Za:=⟨tb,Tryz.f83,[⟨20,kM.ce,kM.ok⟩],[0,1,2,3,8,9,10,12,21,41,48],[9,10,1000100],[],[(236882,Jd.cU_r.ck),(100011,Jd.ck_r.ck),(9,Jd.c9r.ck),(208214,Jd.cR_r.ck),(100005,Jd.cc_r.ck)],[⟨35,Jn.mc,Jn.ok⟩,⟨36,jY.mc,jY.ok⟩,⟨39,kZ.mc,kZ.ok⟩,⟨38,Jq.mc,Jq.ok⟩,⟨18,Jo.mc,Jo.ok⟩,⟨80,Yk.mc,Yk.ok⟩],[]⟩
theorem Jd.ok:MOk Za 83 Jd.mc:=fnM Jd.G (mc:=Jd.mc) Tryz.func83 (m:=5) ⟨⟨⟨⟨⟨trivial,kJ Jd.cR_r⟩,kL Jd.cc_r⟩,kJ Jd.cU_r⟩,kR Jd.c9r⟩,kL Jd.ck_r⟩
abbrev th35:SD:=.one (.own 68 0)
abbrev th36:SD:=.one (.own 98 0)
abbrev th37:SD:=.one (.ref 12 0)
abbrev th38:SD:=.one (.own 13 0)
abbrev th39:SD:=.one (.ref 14 0)
abbrev th40:SD:=.one (.ref 16 0)
def jS.self.pre:Shape:=⟨[(0,th10)],[(1000100,th11)]⟩
def jS.self.post:Shape:=⟨[(0,th24)],[(1000100,th11)]⟩
def je.self.pre:Shape:=⟨[(0,th10)],[(1000100,th11)]⟩
def je.self.post:Shape:=⟨[(0,th24)],[(1000100,th11)]⟩
class Yc.Self where
  F_R_rp_block_b:densU jS.self.pre.tys→Option (densU jS.self.post.tys)
  ok_R_rp_block_b:MOk Za 79 ⟨79,jS.self.pre,jS.self.post,F_R_rp_block_b⟩
  F_R_rp_statement_b:densU je.self.pre.tys→Option (densU je.self.post.tys)
  ok_R_rp_statement_b:MOk Za 41 ⟨41,je.self.pre,je.self.post,F_R_rp_statement_b⟩
section
variable [Yc.Self]
def jS.self (X:densU jS.self.pre.tys):Option (densU jS.self.post.tys):=Yc.Self.F_R_rp_block_b X
def jS.self.mc:MCallee:=⟨79,jS.self.pre,jS.self.post,fun X=>jS.self X⟩
theorem jS.self.ok:MOk Za 79 jS.self.mc:=Yc.Self.ok_R_rp_block_b
def je.self (X:densU je.self.pre.tys):Option (densU je.self.post.tys):=Yc.Self.F_R_rp_statement_b X
def je.self.mc:MCallee:=⟨41,je.self.pre,je.self.post,fun X=>je.self X⟩
theorem je.self.ok:MOk Za 41 je.self.mc:=Yc.Self.ok_R_rp_statement_b
def jS.pre:Shape:=⟨[(0,th10)],[(1000100,th11)]⟩
def jS.post:Shape:=⟨[(0,th24)],[(1000100,th11)]⟩
def jS.c3 {ρ:Type} (ua:List Z8)(ub:Int)(uc:Int)(Z:Bool×(List Z8)×Int×Int→Option ρ):Option ρ:= br (decide (uc<0)) (bnd (Jn (Z6 [125]) ua ub uc) fun y=>Z ((!y.1),y.2.1,y.2.2.1,y.2.2.2.1)) (Z (false,ua,ub,uc))
def jS.c3s:Shape:=(((((jS.pre.s 2 th13).s 3 th4).s 4 th18).o 2 th26).o 4 th29)
def jS.c3x0:Shape:=(jS.c3s.s 17 th1)
def jS.c3r:RC:=⟨jS.c3s,[(jS.c3x0,0,[1,101,6,203])],no,[7,8,9],fun _=>jS.c3,fun _ _ _ _ _=>jr (jb fun _=>ja) ja⟩
def jS.cd_ {ρ:Type} (l:List Z9)(ua:List Z8)(ub:Int)(uc:Int)(Z:((List Z9)×(List Z8)×Int×Int)⊕((List Z9)×(List Z8)×Int×Int)→Option ρ):Option ρ:= bnd (jS.c3 ua ub uc some) fun y=>br y.1 (bnd (je.self (y.2.1,y.2.2.1,y.2.2.2,())) fun y1=>bnd (okIf (decide ((l.length+1)*64≤140737488355328)&&decide (l.length+1≤140737488355328))) fun y2=>Z (.inl ((l++[y1.1]),y1.2.1,y1.2.2.1,y1.2.2.2.1))) (Z (.inr (l,y.2.1,y.2.2.1,y.2.2.2)))
def jS.cd_r:LC:=⟨jS.c3s,[(jS.c3s,2,[6,204])],no,[6,7,8,9],[6,7,8,9],fun _=>jS.cd_,fun _ _ _ _ _ _=>jb fun _=>(jr (jb fun _=>(jb fun _=>ja)) ja)⟩
def jS (ua:List Z8) (ub:Int) (uc:Int):Option (Z9×(List Z8)×Int×Int×Unit):= bnd (Jq (Z6 [123]) ua ub uc) fun y=>bnd (iter (fun s↦jS.cd_ s.1 s.2.1 s.2.2.1 s.2.2.2 some) ([],y.2.1,y.2.2.1,y.2.2.2.1)) fun y1=>bnd (Jq (Z6 [125]) y1.2.1 y1.2.2.1 y1.2.2.2) fun y2=>bnd (kM (7:Int) y.1.2.2 (Z6 []) (0:Int) y1.1) fun y3=>some (Rose.mk (y3.head.1,y3.head.2.1,y3.head.2.2.1,y3.head.2.2.2) y3.kids,y2.2.1,y2.2.2.1,y2.2.2.2.1,())
def jS.mc:MCallee:=⟨79,jS.pre,jS.post,fun X=>jS X.1 X.2.1 X.2.2.1⟩
def jS.G:EB Za:=⟨tb,Tryz.f79,[⟨20,kM.ce,kM.ok⟩],[0,2,3,4,17],[4,1000100],[],[(100003,jS.cd_r.ck),(3,jS.c3r.ck)],[⟨38,Jq.mc,Jq.ok⟩,⟨35,Jn.mc,Jn.ok⟩,⟨41,je.self.mc,je.self.ok⟩],[]⟩
theorem jS.ok:MOk Za 79 jS.mc:=fnM jS.G (mc:=jS.mc) Tryz.func79 (m:=2) ⟨⟨trivial,kL jS.cd_r⟩,kR jS.c3r⟩
def je.pre:Shape:=⟨[(0,th10)],[(1000100,th11)]⟩
def je.post:Shape:=⟨[(0,th24)],[(1000100,th11)]⟩
def je.c9 {ρ:Type} (name:Z7)(t2:Int)(lo0:Int)(lo1:Int)(lo2:Z7)(lo3:Int)(lo4:List Z9)(hi0:Int)(hi1:Int)(hi2:Z7)(hi3:Int)(hi4:List Z9)(ua:List Z8)(ub:Int)(uc:Int)(Z:Int×Int×Z7×Int×(List Z9)×(List Z8)×Int×Int→Option ρ):Option ρ:= bnd (jS.self (ua,ub,uc,())) fun y=>bnd (kM (12:Int) t2 name (0:Int) [Rose.mk (lo0,lo1,lo2,lo3) lo4,Rose.mk (hi0,hi1,hi2,hi3) hi4,y.1]) fun y1=>Z (y1.head.1,y1.head.2.1,y1.head.2.2.1,y1.head.2.2.2,y1.kids,y.2.1,y.2.2.1,y.2.2.2.1)
def je.c9s:Shape:=(((((((((je.pre.s 2 th13).s 3 th14).s 4 th2).s 5 th25).s 6 th27).o 2 th26).o 3 th9).o 5 th26).o 6 th26)
def je.c9r:RC:=⟨je.c9s,[(je.c9s,0,[1,205,13,203])],no,[0,8,9,10,11,12,13,14,15,16,17,18,19,20,21],fun _=>je.c9,fun _ _ _ _ _ _ _ _ _ _ _ _ _ _ _ _ _=>jb fun _=>(jb fun _=>ja)⟩
def je.c13 {ρ:Type} (t2:Int)(e0:Int)(e1:Int)(e2:Z7)(e3:Int)(e4:List Z9)(ua:List Z8)(ub:Int)(uc:Int)(Z:Int×Int×Z7×Int×(List Z9)×(List Z8)×Int×Int→Option ρ):Option ρ:= bnd (jS.self (ua,ub,uc,())) fun y=>bnd (kM (13:Int) t2 (Z6 []) (0:Int) [Rose.mk (e0,e1,e2,e3) e4,y.1]) fun y1=>Z (y1.head.1,y1.head.2.1,y1.head.2.2.1,y1.head.2.2.2,y1.kids,y.2.1,y.2.2.1,y.2.2.2.1)
def je.c13s:Shape:=(((((((je.c9s.d 4).d 5).d 6).s 7 th31).g 5).g 6).o 7 th26)
def je.c13r:RC:=⟨je.c13s,[(je.c13s,0,[205,8,203])],no,[7,8,9,10,11,12,13,14,15],fun _=>je.c13,fun _ _ _ _ _ _ _ _ _ _ _=>jb fun _=>(jb fun _=>ja)⟩
def je.cD_ {ρ:Type} (n:Int)(ua:List Z8)(ub:Int)(uc:Int)(Z:Int×(List Z8)×Int×Int→Option ρ):Option ρ:= bnd (Jn (Z6 [33]) ua ub uc) fun y=>br y.1 (bnd (jY y.2.1 y.2.2.1 y.2.2.2.1) fun y1=>Z ((1:Int),y1.2.1,y1.2.2.1,y1.2.2.2.1)) (Z (n,y.2.1,y.2.2.1,y.2.2.2.1))
def je.cD_s:Shape:=(((je.c13s.d 7).s 8 th4).g 7)
def je.cD_r:RC:=⟨je.cD_s,[(je.cD_s,0,[201,8,203])],no,[0,9,10,11],fun _=>je.cD_,fun _ _ _ _ _ _=>jb fun _=>(jr (jb fun _=>ja) ja)⟩
def je.cP_ {ρ:Type} (t68:List Z9)(ua:List Z8)(ub:Int)(uc:Int)(Z:(List Z9)×(List Z8)×Int×Int→Option ρ):Option ρ:= bnd (Jn (Z6 [101,108,115,101]) ua ub uc) fun y=>br y.1 (bnd (jY y.2.1 y.2.2.1 y.2.2.2.1) fun y1=>bnd (jS.self (y1.2.1,y1.2.2.1,y1.2.2.2.1,())) fun y2=>bnd (okIf (decide ((t68.length+1)*64≤140737488355328)&&decide (t68.length+1≤140737488355328))) fun y3=>Z ((t68++[y2.1]),y2.2.1,y2.2.2.1,y2.2.2.2.1)) (Z (t68,y.2.1,y.2.2.1,y.2.2.2.1))
def je.cP_s:Shape:=((je.cD_s.s 9 th35).o 68 th29)
def je.cP_r:RC:=⟨je.cP_s,[(je.cP_s,0,[9,204])],no,[9,10,11,12],fun _=>je.cP_,fun _ _ _ _ _ _=>jb fun _=>(jr (jb fun _=>(jb fun _=>(jb fun _=>ja))) ja)⟩
def je.c26 {ρ:Type} (ua:List Z8)(ub:Int)(uc:Int)(Z:Bool×(List Z8)×Int×Int→Option ρ):Option ρ:= bnd (Jn (Z6 [109,101,97,115,117,114,101]) ua ub uc) fun y=>br y.1 (Z (true,y.2.1,y.2.2.1,y.2.2.2.1)) (bnd (Jn (Z6 [114,101,115,101,116]) y.2.1 y.2.2.1 y.2.2.2.1) fun y1=>Z (y1.1,y1.2.1,y1.2.2.1,y1.2.2.2.1))
def je.c26s:Shape:=(je.cD_s.d 8)
def je.c26x0:Shape:=(je.c26s.s 93 th1)
def je.c26r:RC:=⟨je.c26s,[(je.c26x0,0,[101,8,203])],no,[8,9,10],fun _=>je.c26,fun _ _ _ _ _=>jb fun _=>(jr ja (jb fun _=>ja))⟩
def je.cL_ {ρ:Type} (kind:Int)(t1:Z7)(t98:List Z9)(ua:List Z8)(ub:Int)(uc:Int)(Z:Int×(List Z9)×(List Z8)×Int×Int→Option ρ):Option ρ:= br (t1==Z6 [109,101,97,115,117,114,101]) (bnd (Jq (Z6 [45,62]) ua ub uc) fun y=>bnd (Yk y.2.1 y.2.2.1 y.2.2.2.1) fun y1=>bnd (okIf (decide ((t98.length+1)*64≤140737488355328)&&decide (t98.length+1≤140737488355328))) fun y2=>Z ((15:Int),(t98++[y1.1]),y1.2.1,y1.2.2.1,y1.2.2.2.1)) (Z (kind,t98,ua,ub,uc))
def je.cL_s:Shape:=(((je.c26s.s 10 th36).s 11 th4).o 98 th29)
def je.cL_r:RC:=⟨je.cL_s,[(je.cL_s,0,[201,8,204])],no,[0,7,9,10,11,12],fun _=>je.cL_,fun _ _ _ _ _ _ _ _=>jr (jb fun _=>(jb fun _=>(jb fun _=>ja))) ja⟩
def je.c40 {ρ:Type} (t2:Int)(a0:Int)(a1:Int)(a2:Z7)(a3:Int)(a4:List Z9)(ua:List Z8)(ub:Int)(uc:Int)(Z:Int×Int×Z7×Int×(List Z9)×(List Z8)×Int×Int→Option ρ):Option ρ:= bnd (jS.self (ua,ub,uc,())) fun y=>bnd (kM (17:Int) t2 (Z6 []) (0:Int) [Rose.mk (a0,a1,a2,a3) a4,y.1]) fun y1=>Z (y1.head.1,y1.head.2.1,y1.head.2.2.1,y1.head.2.2.2,y1.kids,y.2.1,y.2.2.1,y.2.2.2.1)
def je.c40s:Shape:=((je.c26s.s 12 th37).o 12 th26)
def je.c40r:RC:=⟨je.c40s,[(je.c40s,0,[205,8,203])],no,[7,8,9,10,11,12,13,14,15],fun _=>je.c40,fun _ _ _ _ _ _ _ _ _ _ _=>jb fun _=>(jb fun _=>ja)⟩
def je.c42 {ρ:Type} (ua:List Z8)(ub:Int)(uc:Int)(Z:Bool×(List Z8)×Int×Int→Option ρ):Option ρ:= bnd (Jn (Z6 [105,110,118]) ua ub uc) fun y=>br y.1 (Z (true,y.2.1,y.2.2.1,y.2.2.2.1)) (bnd (Jn (Z6 [99,116,114,108]) y.2.1 y.2.2.1 y.2.2.2.1) fun y1=>br y1.1 (Z (true,y1.2.1,y1.2.2.1,y1.2.2.2.1)) (bnd (Jn (Z6 [112,111,119]) y1.2.1 y1.2.2.1 y1.2.2.2.1) fun y2=>Z (y2.1,y2.2.1,y2.2.2.1,y2.2.2.2.1)))
def je.c42s:Shape:=((je.c26s.s 13 th38).o 13 th29)
def je.c42x0:Shape:=(je.c42s.s 140 th1)
def je.c42r:RC:=⟨je.c42s,[(je.c42x0,0,[101,9,203])],no,[9,10,11],fun _=>je.c42,fun _ _ _ _ _=>jb fun _=>(jr ja (jb fun _=>(jr ja (jb fun _=>ja))))⟩
def je.cz_ {ρ:Type} (mods:List Z9)(m1:Z7)(m2:Int)(ua:List Z8)(ub:Int)(uc:Int)(Z:(List Z9)×(List Z8)×Int×Int→Option ρ):Option ρ:= br (m1==Z6 [105,110,118]) (bnd (kM (9:Int) m2 (Z6 []) (0:Int) []) fun y=>bnd (okIf (decide ((mods.length+1)*64≤140737488355328)&&decide (mods.length+1≤140737488355328))) fun y1=>Z ((mods++[y]),ua,ub,uc)) (br (m1==Z6 [99,116,114,108]) (bnd (kM (10:Int) m2 (Z6 []) (0:Int) []) fun y2=>bnd (okIf (decide ((mods.length+1)*64≤140737488355328)&&decide (mods.length+1≤140737488355328))) fun y3=>Z ((mods++[y2]),ua,ub,uc)) (bnd (Jq (Z6 [40]) ua ub uc) fun y4=>bnd (kZ ((1:Int),y4.2.1,y4.2.2.1,y4.2.2.2.1,())) fun y5=>bnd (Jq (Z6 [41]) y5.2.1 y5.2.2.1 y5.2.2.2.1) fun y6=>bnd (kM (11:Int) m2 (Z6 []) (0:Int) [Rose.mk (y5.1.head.1,y5.1.head.2.1,y5.1.head.2.2.1,y5.1.head.2.2.2) y5.1.kids]) fun y7=>bnd (okIf (decide ((mods.length+1)*64≤140737488355328)&&decide (mods.length+1≤140737488355328))) fun y8=>Z ((mods++[y7]),y6.2.1,y6.2.2.1,y6.2.2.2.1)))
def je.cz_s:Shape:=((je.c42s.s 14 th39).o 14 th9)
def je.cz_x0:Shape:=(je.cz_s.s 145 th1)
def je.cz_r:RC:=⟨je.cz_s,[(je.cz_x0,0,[400,8,201,3,203])],fun X=>(((q8 X).2.2.1==Z6 [105,110,118]),()),[8,10,11,12,13,14],fun _=>je.cz_,fun _ _ _ _ _ _ _ _=>jr (jb fun _=>(jb fun _=>ja)) (jr (jb fun _=>(jb fun _=>ja)) (jb fun _=>(jb fun _=>(jb fun _=>(jb fun _=>(jb fun _=>ja))))))⟩
def je.cw_ {ρ:Type} (mods:List Z9)(ua:List Z8)(ub:Int)(uc:Int)(Z:((List Z9)×(List Z8)×Int×Int)⊕((List Z9)×(List Z8)×Int×Int)→Option ρ):Option ρ:= bnd (je.c42 ua ub uc some) fun y=>br y.1 (bnd (jY y.2.1 y.2.2.1 y.2.2.2) fun y1=>bnd (je.cz_ mods y1.1.2.1 y1.1.2.2 y1.2.1 y1.2.2.1 y1.2.2.2.1 some) fun y2=>bnd (Jq (Z6 [64]) y2.2.1 y2.2.2.1 y2.2.2.2) fun y3=>Z (.inl (y2.1,y3.2.1,y3.2.2.1,y3.2.2.2.1))) (Z (.inr (mods,y.2.1,y.2.2.1,y.2.2.2)))
def je.cw_r:LC:=⟨je.c42s,[(je.c42s,2,[8,204])],no,[8,9,10,11],[8,9,10,11],fun _=>je.cw_,fun _ _ _ _ _ _=>jb fun _=>(jr (jb fun _=>(jb fun _=>(jb fun _=>ja))) ja)⟩
def je.c54 {ρ:Type} (mods:List Z9)(ua:List Z8)(ub:Int)(uc:Int)(Z:Bool×(List Z8)×Int×Int→Option ρ):Option ρ:= br ((mods.length:Int)==0) (bnd (Jn (Z6 [91]) ua ub uc) fun y=>br y.1 (Z (true,y.2.1,y.2.2.1,y.2.2.2.1)) (bnd (Jn (Z6 [94,61]) y.2.1 y.2.2.1 y.2.2.2.1) fun y1=>Z (y1.1,y1.2.1,y1.2.2.1,y1.2.2.2.1))) (Z (false,ua,ub,uc))
def je.c54s:Shape:=((je.c42s.s 16 th40).o 16 th9)
def je.c54x0:Shape:=(je.c54s.s 189 th1)
def je.c54r:RC:=⟨je.c54s,[(je.c54x0,0,[101,12,203])],no,[8,12,13,14],fun _=>je.c54,fun _ _ _ _ _ _=>jr (jb fun _=>(jr ja (jb fun _=>ja))) ja⟩
def je (ua:List Z8) (ub:Int) (uc:Int):Option (Z9×(List Z8)×Int×Int×Unit):= bnd (Jo ua ub uc) fun y=>bnd (Jn (Z6 [102,111,114]) y.2.1 y.2.2.1 y.2.2.2.1) fun y1=>br y1.1 (bnd (jY y1.2.1 y1.2.2.1 y1.2.2.2.1) fun y2=>bnd (JE y2.2.1 y2.2.2.1 y2.2.2.2.1) fun y3=>bnd (Jq (Z6 [105,110]) y3.2.1 y3.2.2.1 y3.2.2.2.1) fun y4=>bnd (kZ ((1:Int),y4.2.1,y4.2.2.1,y4.2.2.2.1,())) fun y5=>bnd (Jq (Z6 [46,46]) y5.2.1 y5.2.2.1 y5.2.2.2.1) fun y6=>bnd (kZ ((1:Int),y6.2.1,y6.2.2.1,y6.2.2.2.1,())) fun y7=>bnd (je.c9 y3.1.2.1 y.1.2.2 y5.1.head.1 y5.1.head.2.1 y5.1.head.2.2.1 y5.1.head.2.2.2 y5.1.kids y7.1.head.1 y7.1.head.2.1 y7.1.head.2.2.1 y7.1.head.2.2.2 y7.1.kids y7.2.1 y7.2.2.1 y7.2.2.2.1 some) fun y8=>some (Rose.mk (y8.1,y8.2.1,y8.2.2.1,y8.2.2.2.1) y8.2.2.2.2.1,y8.2.2.2.2.2.1,y8.2.2.2.2.2.2.1,y8.2.2.2.2.2.2.2,())) (bnd (Jn (Z6 [119,104,101,110]) y1.2.1 y1.2.2.1 y1.2.2.2.1) fun y9=>br y9.1 (bnd (jY y9.2.1 y9.2.2.1 y9.2.2.2.1) fun y10=>bnd (kZ ((1:Int),y10.2.1,y10.2.2.1,y10.2.2.2.1,())) fun y11=>bnd (je.c13 y.1.2.2 y11.1.head.1 y11.1.head.2.1 y11.1.head.2.2.1 y11.1.head.2.2.2 y11.1.kids y11.2.1 y11.2.2.1 y11.2.2.2.1 some) fun y12=>some (Rose.mk (y12.1,y12.2.1,y12.2.2.1,y12.2.2.2.1) y12.2.2.2.2.1,y12.2.2.2.2.2.1,y12.2.2.2.2.2.2.1,y12.2.2.2.2.2.2.2,())) (bnd (Jn (Z6 [105,102]) y9.2.1 y9.2.2.1 y9.2.2.2.1) fun y13=>br y13.1 (bnd (jY y13.2.1 y13.2.2.1 y13.2.2.2.1) fun y14=>bnd (je.cD_ (0:Int) y14.2.1 y14.2.2.1 y14.2.2.2.1 some) fun y15=>bnd (Yk y15.2.1 y15.2.2.1 y15.2.2.2) fun y16=>bnd (jS.self (y16.2.1,y16.2.2.1,y16.2.2.2.1,())) fun y17=>bnd (okIf (decide (((1:Nat)+1)*64≤140737488355328)&&decide ((1:Nat)+1≤140737488355328))) fun y18=>bnd (je.cP_ ([y16.1]++[y17.1]) y17.2.1 y17.2.2.1 y17.2.2.2.1 some) fun y19=>bnd (kM (14:Int) y.1.2.2 (Z6 []) y15.1 y19.1) fun y20=>some (Rose.mk (y20.head.1,y20.head.2.1,y20.head.2.2.1,y20.head.2.2.2) y20.kids,y19.2.1,y19.2.2.1,y19.2.2.2,())) (bnd (je.c26 y13.2.1 y13.2.2.1 y13.2.2.2.1 some) fun y21=>br y21.1 (bnd (jY y21.2.1 y21.2.2.1 y21.2.2.2) fun y22=>bnd (Yk y22.2.1 y22.2.2.1 y22.2.2.2.1) fun y23=>bnd (je.cL_ (16:Int) y.1.2.1 [y23.1] y23.2.1 y23.2.2.1 y23.2.2.2.1 some) fun y24=>bnd (Jq (Z6 [59]) y24.2.2.1 y24.2.2.2.1 y24.2.2.2.2) fun y25=>bnd (kM y24.1 y.1.2.2 (Z6 []) (0:Int) y24.2.1) fun y26=>some (Rose.mk (y26.head.1,y26.head.2.1,y26.head.2.2.1,y26.head.2.2.2) y26.kids,y25.2.1,y25.2.2.1,y25.2.2.2.1,())) (bnd (Jn (Z6 [119,105,116,104,105,110]) y21.2.1 y21.2.2.1 y21.2.2.2) fun y27=>br y27.1 (bnd (jY y27.2.1 y27.2.2.1 y27.2.2.2.1) fun y28=>bnd (jS.self (y28.2.1,y28.2.2.1,y28.2.2.2.1,())) fun y29=>bnd (Jq (Z6 [97,112,112,108,121]) y29.2.1 y29.2.2.1 y29.2.2.2.1) fun y30=>bnd (je.c40 y.1.2.2 y29.1.head.1 y29.1.head.2.1 y29.1.head.2.2.1 y29.1.head.2.2.2 y29.1.kids y30.2.1 y30.2.2.1 y30.2.2.2.1 some) fun y31=>some (Rose.mk (y31.1,y31.2.1,y31.2.2.1,y31.2.2.2.1) y31.2.2.2.2.1,y31.2.2.2.2.2.1,y31.2.2.2.2.2.2.1,y31.2.2.2.2.2.2.2,())) (bnd (iter (fun s↦je.cw_ s.1 s.2.1 s.2.2.1 s.2.2.2 some) ([],y27.2.1,y27.2.2.1,y27.2.2.2.1)) fun y32=>bnd (JE y32.2.1 y32.2.2.1 y32.2.2.2) fun y33=>bnd (je.c54 y32.1 y33.2.1 y33.2.2.1 y33.2.2.2.1 some) fun y34=>br y34.1 (bnd (kC (y33.1.1,y33.1.2.1,y33.1.2.2) y34.2.1 y34.2.2.1 y34.2.2.2) fun y35=>bnd (Jq (Z6 [94,61]) y35.2.1 y35.2.2.1 y35.2.2.2.1) fun y36=>bnd (VT ((1:Int),y36.2.1,y36.2.2.1,y36.2.2.2.1,())) fun y37=>bnd (Jq (Z6 [59]) y37.2.1 y37.2.2.1 y37.2.2.2.1) fun y38=>bnd (kM (18:Int) y.1.2.2 (Z6 []) (0:Int) [Rose.mk (y35.1.head.1,y35.1.head.2.1,y35.1.head.2.2.1,y35.1.head.2.2.2) y35.1.kids,Rose.mk (y37.1.head.1,y37.1.head.2.1,y37.1.head.2.2.1,y37.1.head.2.2.2) y37.1.kids]) fun y39=>some (Rose.mk (y39.head.1,y39.head.2.1,y39.head.2.2.1,y39.head.2.2.2) y39.kids,y38.2.1,y38.2.2.1,y38.2.2.2.1,())) (bnd (Jd y.1.2.2 y33.1.2.1 y32.1 y34.2.1 y34.2.2.1 y34.2.2.2) fun y40=>some (Rose.mk (y40.1.head.1,y40.1.head.2.1,y40.1.head.2.2.1,y40.1.head.2.2.2) y40.1.kids,y40.2.1,y40.2.2.1,y40.2.2.2.1,())))))))
def je.mc:MCallee:=⟨41,je.pre,je.post,fun X=>je X.1 X.2.1 X.2.2.1⟩
def je.G:EB Za:=⟨tb,Tryz.f41,[⟨20,kM.ce,kM.ok⟩],[0,2,3,4,5,6,7,8,9,10,11,12,13,14,15,16,17,18,22,46,59,63,75,93,101,117,140,145,154,189],[13,68,98,1000100,1003802390013,1003802390145,2000000000013,2000000000145],[(40,[(4,[1000100]),(5,[129]),(6,[129]),(7,[2])]),(13,[(4,[1000100]),(5,[56]),(6,[56]),(7,[2])]),(9,[(6,[1000100]),(7,[43]),(8,[43]),(9,[2])])],[(54,je.c54r.ck),(100042,je.cw_r.ck),(380239,je.cz_r.ck),(42,je.c42r.ck),(40,je.c40r.ck),(322889,je.cL_r.ck),(26,je.c26r.ck),(290119,je.cP_r.ck),(269639,je.cD_r.ck),(13,je.c13r.ck),(9,je.c9r.ck)],[⟨18,Jo.mc,Jo.ok⟩,⟨35,Jn.mc,Jn.ok⟩,⟨36,jY.mc,jY.ok⟩,⟨37,JE.mc,JE.ok⟩,⟨38,Jq.mc,Jq.ok⟩,⟨39,kZ.mc,kZ.ok⟩,⟨79,jS.self.mc,jS.self.ok⟩,⟨80,Yk.mc,Yk.ok⟩,⟨81,kC.mc,kC.ok⟩,⟨82,VT.mc,VT.ok⟩,⟨83,Jd.mc,Jd.ok⟩],[]⟩
theorem je.ok:MOk Za 41 je.mc:=fnM je.G (mc:=je.mc) Tryz.func41 (m:=11) ⟨⟨⟨⟨⟨⟨⟨⟨⟨⟨⟨trivial,kR je.c9r⟩,kR je.c13r⟩,kJ je.cD_r⟩,kJ je.cP_r⟩,kR je.c26r⟩,kJ je.cL_r⟩,kR je.c40r⟩,kL je.cw_r⟩,kR je.c42r⟩,kJ je.cz_r⟩,kR je.c54r⟩
end
@[reducible] def Yc.fuel:Nat→Yc.Self
  | 0=>{ F_R_rp_block_b:=fun _=>none,ok_R_rp_block_b:=⟨⟨Tryz.f79,Tryz.func79,by kernel_rfl,by kernel_rfl⟩,fun _ _ _ _ _ _ _ hy=>by cases hy⟩,F_R_rp_statement_b:=fun _=>none,ok_R_rp_statement_b:=⟨⟨Tryz.f41,Tryz.func41,by kernel_rfl,by kernel_rfl⟩,fun _ _ _ _ _ _ _ hy=>by cases hy⟩ }
  | n+1=>{ F_R_rp_block_b:=fun X=>(@jS.mc (Yc.fuel n)).F X,ok_R_rp_block_b:=@jS.ok (Yc.fuel n),F_R_rp_statement_b:=fun X=>(@je.mc (Yc.fuel n)).F X,ok_R_rp_statement_b:=@je.ok (Yc.fuel n) }
def VS (X:densU jS.self.pre.tys):Option (densU jS.self.post.tys):=(Yc.fuel (1000000)).F_R_rp_block_b X
def VS.mc:MCallee:=⟨79,jS.self.pre,jS.self.post,fun X=>VS X⟩
theorem VS.ok:MOk Za 79 VS.mc:=(Yc.fuel (1000000)).ok_R_rp_block_b
def YZ (X:densU je.self.pre.tys):Option (densU je.self.post.tys):=(Yc.fuel (1000000)).F_R_rp_statement_b X
def YZ.mc:MCallee:=⟨41,je.self.pre,je.self.post,fun X=>YZ X⟩
theorem YZ.ok:MOk Za 41 YZ.mc:=(Yc.fuel (1000000)).ok_R_rp_statement_b
end
end W
end

section
set_option maxHeartbeats 4000000
set_option maxRecDepth 100000
namespace W
open Go Go.Ql Go.Proofs Go.IntKind
noncomputable section
variable {ρ:Type}
def JW.pre:Shape:=⟨[(0,th10),(1,th4)],[(1000100,th11)]⟩
def JW.post:Shape:=⟨[(0,th24)],[(1000100,th11)]⟩
def JW.cI_ (ints:List Z9)(ua:List Z8)(ub:Int)(uc:Int)(Z:(List Z9)×(List Z8)×Int×Int→Option ρ):Option ρ:= bnd (Jn (Z6 [40]) ua ub uc) fun y=>br y.1 (bnd (jY y.2.1 y.2.2.1 y.2.2.2.1) fun y1=>bnd (Jg false y1.2.1 y1.2.2.1 y1.2.2.2.1) fun y2=>bnd (Jq (Z6 [41]) y2.2.1 y2.2.2.1 y2.2.2.2.1) fun y3=>Z (y2.1,y3.2.1,y3.2.2.1,y3.2.2.2.1)) (Z (ints,y.2.1,y.2.2.1,y.2.2.2.1))
def JW.cI_s:Shape:=((((JW.pre.s 4 th16).s 5 th2).s 6 th28).o 4 th26)
def JW.cI_r:RC:=⟨JW.cI_s,[(JW.cI_s,0,[2,201,5,203])],no,[2,8,9,10],@JW.cI_,fun _ _ _ _ _ _=>jb fun _=>(jr (jb fun _=>(jb fun _=>(jb fun _=>ja))) ja)⟩
def JW.c9 (t1:Int)(name:Z7)(ints:List Z9)(wires:List Z9)(b0:Int)(b1:Int)(b2:Z7)(b3:Int)(b4:List Z9)(Z:Int×Int×Z7×Int×(List Z9)→Option ρ):Option ρ:= bnd (kM (25:Int) (0:Int) (Z6 []) (0:Int) ints) fun y=>bnd (kM (25:Int) (0:Int) (Z6 []) (0:Int) wires) fun y1=>bnd (kM (5:Int) t1 name (0:Int) [y,y1,Rose.mk (b0,b1,b2,b3) b4]) fun y2=>Z (y2.head.1,y2.head.2.1,y2.head.2.2.1,y2.head.2.2.2,y2.kids)
def JW.c9s:Shape:=(((JW.cI_s.s 7 th28).s 8 th32).o 8 th26)
def JW.c9r:RC:=⟨JW.c9s,[(JW.c9s,0,[4,205])],no,[0,1,2,3,9,10,11,12,13],@JW.c9,fun _ _ _ _ _ _ _ _ _ _ _=>jb fun _=>(jb fun _=>(jb fun _=>ja))⟩
def JW (t1:Int) (ua:List Z8) (ub:Int) (uc:Int):Option (Z9×(List Z8)×Int×Int×Unit):= bnd (JE ua ub uc) fun y=>bnd (JW.cI_ [] y.2.1 y.2.2.1 y.2.2.2.1 some) fun y1=>bnd (Jg true y1.2.1 y1.2.2.1 y1.2.2.2) fun y2=>bnd (VS (y2.2.1,y2.2.2.1,y2.2.2.2.1,())) fun y3=>bnd (JW.c9 t1 y.1.2.1 y1.1 y2.1 y3.1.head.1 y3.1.head.2.1 y3.1.head.2.2.1 y3.1.head.2.2.2 y3.1.kids some) fun y4=>some (Rose.mk (y4.1,y4.2.1,y4.2.2.1,y4.2.2.2.1) y4.2.2.2.2,y3.2.1,y3.2.2.1,y3.2.2.2.1,())
def JW.mc:MCallee:=⟨40,JW.pre,JW.post,fun X=>JW X.1 X.2.1 X.2.2.1 X.2.2.2.1⟩
def JW.G:EB Za:=⟨tb,Tryz.f40,[⟨20,kM.ce,kM.ok⟩],[0,1,4,5,6,7,8,13],[1000100],[(9,[(7,[31]),(8,[31]),(9,[4])])],[(9,JW.c9r.ck),(212297,JW.cI_r.ck)],[⟨37,JE.mc,JE.ok⟩,⟨35,Jn.mc,Jn.ok⟩,⟨36,jY.mc,jY.ok⟩,⟨78,Jg.mc,Jg.ok⟩,⟨38,Jq.mc,Jq.ok⟩,⟨79,VS.mc,VS.ok⟩],[]⟩
theorem JW.ok:MOk Za 40 JW.mc:=fnM JW.G (mc:=JW.mc) Tryz.func40 (m:=2) ⟨⟨trivial,kJ JW.cI_r⟩,kR JW.c9r⟩
def JP.pre:Shape:=⟨[(0,th10)],[(1000100,th11)]⟩
def JP.post:Shape:=⟨[(0,th24)],[(1000100,th11)]⟩
def JP.c2 (ua:List Z8)(ub:Int)(uc:Int)(Z:Bool×(List Z8)×Int×Int→Option ρ):Option ρ:= bnd (Jn (Z6 [113,117,98,105,116]) ua ub uc) fun y=>br y.1 (Z (true,y.2.1,y.2.2.1,y.2.2.2.1)) (bnd (Jn (Z6 [98,105,116]) y.2.1 y.2.2.1 y.2.2.2.1) fun y1=>Z (y1.1,y1.2.1,y1.2.2.1,y1.2.2.2.1))
def JP.c2s:Shape:=(((JP.pre.s 2 th13).s 3 th4).o 2 th26)
def JP.c2x0:Shape:=(JP.c2s.s 17 th1)
def JP.c2r:RC:=⟨JP.c2s,[(JP.c2x0,0,[1,101,5,203])],no,[6,7,8],@JP.c2,fun _ _ _ _ _=>jb fun _=>(jr ja (jb fun _=>ja))⟩
def JP.co_ (kind:Int)(ua:List Z8)(ub:Int)(uc:Int)(Z:Int×(List Z8)×Int×Int→Option ρ):Option ρ:= bnd (Jn (Z6 [98,105,116]) ua ub uc) fun y=>br y.1 (Z ((3:Int),y.2.1,y.2.2.1,y.2.2.2.1)) (Z (kind,y.2.1,y.2.2.1,y.2.2.2.1))
def JP.co_s:Shape:=(JP.c2s.s 4 th4)
def JP.co_r:RC:=⟨JP.co_s,[(JP.co_s,0,[1,201,5,203])],no,[1,7,8,9],@JP.co_,fun _ _ _ _ _ _=>jb fun _=>(jr ja ja)⟩
def JP (ua:List Z8) (ub:Int) (uc:Int):Option (Z9×(List Z8)×Int×Int×Unit):= bnd (Jo ua ub uc) fun y=>bnd (JP.c2 y.2.1 y.2.2.1 y.2.2.2.1 some) fun y1=>br y1.1 (bnd (JP.co_ (2:Int) y1.2.1 y1.2.2.1 y1.2.2.2 some) fun y2=>bnd (jY y2.2.1 y2.2.2.1 y2.2.2.2) fun y3=>bnd (JE y3.2.1 y3.2.2.1 y3.2.2.2.1) fun y4=>bnd (Jq (Z6 [91]) y4.2.1 y4.2.2.1 y4.2.2.2.1) fun y5=>bnd (kZ ((1:Int),y5.2.1,y5.2.2.1,y5.2.2.2.1,())) fun y6=>bnd (Jq (Z6 [93]) y6.2.1 y6.2.2.1 y6.2.2.2.1) fun y7=>bnd (Jq (Z6 [59]) y7.2.1 y7.2.2.1 y7.2.2.2.1) fun y8=>bnd (kM y2.1 y.1.2.2 y4.1.2.1 (0:Int) [Rose.mk (y6.1.head.1,y6.1.head.2.1,y6.1.head.2.2.1,y6.1.head.2.2.2) y6.1.kids]) fun y9=>some (Rose.mk (y9.head.1,y9.head.2.1,y9.head.2.2.1,y9.head.2.2.2) y9.kids,y8.2.1,y8.2.2.1,y8.2.2.2.1,())) (bnd (Jn (Z6 [99,111,110,115,116]) y1.2.1 y1.2.2.1 y1.2.2.2) fun y10=>br y10.1 (bnd (jY y10.2.1 y10.2.2.1 y10.2.2.2.1) fun y11=>bnd (JE y11.2.1 y11.2.2.1 y11.2.2.2.1) fun y12=>bnd (Jq (Z6 [61]) y12.2.1 y12.2.2.1 y12.2.2.2.1) fun y13=>bnd (kZ ((1:Int),y13.2.1,y13.2.2.1,y13.2.2.2.1,())) fun y14=>bnd (Jq (Z6 [59]) y14.2.1 y14.2.2.1 y14.2.2.2.1) fun y15=>bnd (kM (4:Int) y.1.2.2 y12.1.2.1 (0:Int) [Rose.mk (y14.1.head.1,y14.1.head.2.1,y14.1.head.2.2.1,y14.1.head.2.2.2) y14.1.kids]) fun y16=>some (Rose.mk (y16.head.1,y16.head.2.1,y16.head.2.2.1,y16.head.2.2.2) y16.kids,y15.2.1,y15.2.2.1,y15.2.2.2.1,())) (bnd (Jn (Z6 [103,97,116,101]) y10.2.1 y10.2.2.1 y10.2.2.2.1) fun y17=>br y17.1 (bnd (jY y17.2.1 y17.2.2.1 y17.2.2.2.1) fun y18=>bnd (JW y.1.2.2 y18.2.1 y18.2.2.1 y18.2.2.2.1) fun y19=>some (Rose.mk (y19.1.head.1,y19.1.head.2.1,y19.1.head.2.2.1,y19.1.head.2.2.2) y19.1.kids,y19.2.1,y19.2.2.1,y19.2.2.2.1,())) (bnd (YZ (y17.2.1,y17.2.2.1,y17.2.2.2.1,())) fun y20=>some (Rose.mk (y20.1.head.1,y20.1.head.2.1,y20.1.head.2.2.1,y20.1.head.2.2.2) y20.1.kids,y20.2.1,y20.2.2.1,y20.2.2.2.1,()))))
def JP.mc:MCallee:=⟨19,JP.pre,JP.post,fun X=>JP X.1 X.2.1 X.2.2.1⟩
def JP.G:EB Za:=⟨tb,Tryz.f19,[⟨20,kM.ce,kM.ok⟩],[0,2,3,4,5,6,7,8,17,19,40,58],[1000100],[],[(216389,JP.co_r.ck),(2,JP.c2r.ck)],[⟨18,Jo.mc,Jo.ok⟩,⟨35,Jn.mc,Jn.ok⟩,⟨36,jY.mc,jY.ok⟩,⟨37,JE.mc,JE.ok⟩,⟨38,Jq.mc,Jq.ok⟩,⟨39,kZ.mc,kZ.ok⟩,⟨40,JW.mc,JW.ok⟩,⟨41,YZ.mc,YZ.ok⟩],[]⟩
theorem JP.ok:MOk Za 19 JP.mc:=fnM JP.G (mc:=JP.mc) Tryz.func19 (m:=2) ⟨⟨trivial,kR JP.c2r⟩,kJ JP.co_r⟩
abbrev th41:SO:=.box [.val (.int .i64),.val (.int .i64)]
def JH.c5 (t140:List Z8)(t141:Int)(t142:Int)(Z:Bool×(List Z8)×Int×Int→Option ρ):Option ρ:= br (decide (t142<0)) (bnd (Jo t140 t141 t142) fun y=>Z ((y.1.1 !=0),y.2.1,y.2.2.1,y.2.2.2.1)) (Z (false,t140,t141,t142))
def JH.c5s:Shape:=⟨[(0,th2),(2,th13),(3,th14),(4,th39),(5,th21)],[(2,th26),(3,th41),(5,th29),(14,th11)]⟩
def JH.c5x0:Shape:=(JH.c5s.s 25 th1)
def JH.c5r:RC:=⟨JH.c5s,[(JH.c5x0,0,[1,101,8,203])],no,[9,10,11],@JH.c5,fun _ _ _ _ _=>jr (jb fun _=>ja) ja⟩
def JH.cc_ (items:List Z9)(t140:List Z8)(t141:Int)(t142:Int)(Z:((List Z9)×(List Z8)×Int×Int)⊕((List Z9)×(List Z8)×Int×Int)→Option ρ):Option ρ:= bnd (JH.c5 t140 t141 t142 some) fun y=>br y.1 (bnd (JP y.2.1 y.2.2.1 y.2.2.2) fun y1=>bnd (okIf (decide ((items.length+1)*64≤140737488355328)&&decide (items.length+1≤140737488355328))) fun y2=>Z (.inl ((items++[y1.1]),y1.2.1,y1.2.2.1,y1.2.2.2.1))) (Z (.inr (items,y.2.1,y.2.2.1,y.2.2.2)))
def JH.cc_r:LC:=⟨JH.c5s,[(JH.c5s,2,[8,204])],no,[8,9,10,11],[8,9,10,11],@JH.cc_,fun _ _ _ _ _ _=>jb fun _=>(jr (jb fun _=>(jb fun _=>ja)) ja)⟩
def JH (text:Z7):Option (Z9×(Int×Int)):= br (decide ((text.length:Int)>40000)) (bnd (Uc (2:Int) (0:Int)) fun y=>some (Rose.mk ((0:Int),(0:Int),[],(0:Int)) [],y.1,y.2)) (bnd (jt text) fun y1=>bnd (iter (fun s↦JH.cc_ s.1 s.2.1 s.2.2.1 s.2.2.2 some) ([],y1,(0:Int),(-1:Int))) fun y2=>br (decide (y2.2.2.2≥0)) (bnd (Uc (1:Int) y2.2.2.2) fun y3=>some (Rose.mk ((0:Int),(0:Int),[],(0:Int)) [],y3.1,y3.2)) (bnd (kM (1:Int) (0:Int) (Z6 []) (0:Int) y2.1) fun y4=>some (Rose.mk (y4.head.1,y4.head.2.1,y4.head.2.2.1,y4.head.2.2.2) y4.kids,(0:Int),(0:Int))))
def JH.ce:=ceOf tab Tryz.f7 JH
def JH.G:EB Za:=⟨tb,Tryz.f7,[⟨16,Uc.ce,Uc.ok⟩,⟨17,jt.ce,jt.ok⟩,⟨20,kM.ce,kM.ok⟩],[0,2,3,4,5,8,25,35],[5],[],[(100005,JH.cc_r.ck),(5,JH.c5r.ck)],[⟨18,Jo.mc,Jo.ok⟩,⟨19,JP.mc,JP.ok⟩],[]⟩
theorem JH.ok:CalleeOk Za 7 JH.ce:=fnB JH.G Tryz.func7 (m:=2) ⟨⟨trivial,kL JH.cc_r⟩,kR JH.c5r⟩
def jG.self.pre:Shape:=⟨[(0,th24),(1,th24),(2,th1)],[]⟩
def jG.self.post:Shape:=⟨[(0,th1)],[]⟩
class jG.Self where
  F:densU jG.self.pre.tys→Option (densU jG.self.post.tys)
  ok:MOk Za 9 ⟨9,jG.self.pre,jG.self.post,F⟩
section
variable [jG.Self]
def jG.self (X:densU jG.self.pre.tys):Option (densU jG.self.post.tys):=jG.Self.F X
def jG.self.mc:MCallee:=⟨9,jG.self.pre,jG.self.post,fun X=>jG.self X⟩
theorem jG.self.ok:MOk Za 9 jG.self.mc:=jG.Self.ok
def jG.pre:Shape:=⟨[(0,th24),(1,th24),(2,th1)],[]⟩
def jG.post:Shape:=⟨[(0,th1)],[]⟩
def jG.c1 {ρ:Type} (places:Bool)(a0:Int)(a1:Int)(a2:Z7)(a3:Int)(a4:List Z9)(b0:Int)(b1:Int)(b2:Z7)(b3:Int)(b4:List Z9)(Z:Bool→Option ρ):Option ρ:= br (a0 !=b0) (Z true) (br (!a2==b2) (Z true) (br (a3 !=b3) (Z true) (br ((a4.length:Int) !=(b4.length:Int)) (Z true) (br places (Z (a1 !=b1)) (Z false)))))
def jG.c1s:Shape:=(((((jG.pre.s 3 th14).s 4 th16).s 6 th1).o 3 th26).o 4 th26)
def jG.c1x0:Shape:=(jG.c1s.s 45 th1)
def jG.c1r:RC:=⟨jG.c1s,[(jG.c1x0,0,[4,101])],no,[2,4,5,6,7,8,9,10,11,12,13],fun _=>jG.c1,fun _ _ _ _ _ _ _ _ _ _ _ _ _=>jr ja (jr ja (jr ja (jr ja (jr ja ja))))⟩
def jG.c6 {ρ:Type} (places:Bool)(i:Int)(a4:List Z9)(b4:List Z9)(Z:Bool→Option ρ):Option ρ:= bnd (idx a4 i) fun y=>bnd (idx b4 i) fun y1=>bnd (jG.self (y,y1,places,())) fun y2=>Z (!y2.1)
def jG.c6s:Shape:=(jG.c1s.s 7 th4)
def jG.c6x0:Shape:=(jG.c6s.s 65 th1)
def jG.c6r:RC:=⟨jG.c6s,[(jG.c6x0,0,[5,101])],no,[2,4,9,14],fun _=>jG.c6,fun _ _ _ _ _ _=>jb fun _=>(jb fun _=>(jb fun _=>ja))⟩
def jG.ce_ {ρ:Type} (places:Bool)(i:Int)(a4:List Z9)(b4:List Z9)(Z:Int⊕(Int⊕Int)→Option ρ):Option ρ:= br (decide (i<(a4.length:Int))) (bnd (jG.c6 places i a4 b4 some) fun y=>br y (Z (.inr (.inl i))) (Z (.inl (i64.wrap (i+1))))) (Z (.inr (.inr i)))
def jG.ce_r:LC:=⟨jG.c6s,[(jG.c6s,1,[3,400,201,301]),(jG.c6s,2,[4,201])],fun X=>(false,()),[4],[2,4,9,14],fun _=>jG.ce_,fun _ _ _ _ _ _=>jr (jb fun _=>(jr ja ja)) ja⟩
def jG (a:Z9) (b:Z9) (places:Bool):Option (Bool×Unit):= bnd (jG.c1 places a.head.1 a.head.2.1 a.head.2.2.1 a.head.2.2.2 a.kids b.head.1 b.head.2.1 b.head.2.2.1 b.head.2.2.2 b.kids some) fun y=>br y (some (false,())) (bnd (iter (fun s↦jG.ce_ places s a.kids b.kids some) (0:Int)) fun y1=>sel y1 (fun u=>some (false,())) (fun v=>some (true,())))
def jG.mc:MCallee:=⟨9,jG.pre,jG.post,fun X=>jG X.1 X.2.1 X.2.2.1⟩
def jG.G:EB Za:=⟨tb,Tryz.f9,[],[0,1,2,3,4,6,7,45,50,65],[],[(6,[])],[(100004,jG.ce_r.ck),(6,jG.c6r.ck),(1,jG.c1r.ck)],[⟨9,jG.self.mc,jG.self.ok⟩],[]⟩
theorem jG.ok:MOk Za 9 jG.mc:=fnM jG.G (mc:=jG.mc) Tryz.func9 (m:=3) ⟨⟨⟨trivial,kR jG.c1r⟩,kL jG.ce_r⟩,kR jG.c6r⟩
end
@[reducible] def jG.fuel:Nat→jG.Self
  | 0=>⟨fun _=>none,⟨⟨Tryz.f9,Tryz.func9,by kernel_rfl,by kernel_rfl⟩,fun _ _ _ _ _ _ _ hy=>by cases hy⟩⟩
  | n+1=>⟨fun X=>(@jG.mc (jG.fuel n)).F X,@jG.ok (jG.fuel n)⟩
def VR (X:densU jG.self.pre.tys):Option (densU jG.self.post.tys):=(jG.fuel (sizeOf X.1)).F X
def VR.mc:MCallee:=⟨9,jG.self.pre,jG.self.post,fun X=>VR X⟩
theorem VR.ok:MOk Za 9 VR.mc:=mok_diag (F:=fun n=>(jG.fuel n).F) (fun n=>(jG.fuel n).ok) (fun X=>sizeOf X.1)
end
end W
end
