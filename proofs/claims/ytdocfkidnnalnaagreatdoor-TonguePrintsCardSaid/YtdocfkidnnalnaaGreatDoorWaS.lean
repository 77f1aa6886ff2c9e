/- Lifted functions, part 1: each with its contract. -/
import Derived.Test.YtdocfkidnnalnaaGreatDoorCaS
import Derived.Test.YtdocfkidnnalnaaGreatDoorLfS
import Derived.Test.YtdocfkidnnalnaaGreatDoorProg
set_option linter.all false
section
set_option maxHeartbeats 4000000
set_option maxRecDepth 100000
namespace W
open Go Go.Ql Go.Proofs Go.IntKind
noncomputable section
variable {ρ:Type}
abbrev VP:SD:=.one (.ref 1000100 0)
abbrev cL:SD:=.one (.val .str)
abbrev kc:SO:=.box [.val .str,.val (.int .i64),.val (.int .i64),.val .str,.val (.int .i64)]
abbrev Nj:SD:=.one (.val .bool)
abbrev q4 {a b c d e:Type} (x:a×b×c×d×e):e:=x.2.2.2.2
abbrev q8 {a b c d e f g h i:Type} (x:a×b×c×d×e×f×g×h×i):i:=x.2.2.2.2.2.2.2.2
abbrev YO:=Int×(Int×(Zg×(Int×(Int×Zg))))
abbrev YD:=Bool×Zg
abbrev YP:=Int×(Int×Bool)
abbrev YN:=(List YD)×Int
def jZ.pre:Sj:=⟨[(0,VP),(1,cL)],[(1000100,kc)]⟩
def jZ.c1 (w:Za)(uc:Int)(ud:Za)(Z:Bool→Option ρ):Option ρ:= br (uc==4) (Z (ud==w)) (br (uc==2) (Z (ud==w)) (Z false))
def jZ.c1s:Sj:=(jZ.pre.s 4 Nj)
def jZ.c1r:RC:=⟨jZ.c1s,[(jZ.c1s,0,[1,201])],no,[0,4,5],@jZ.c1,fun _ _ _ _ _=>jt ja (jt ja ja)⟩
def jZ (w:Za) (ua:Za) (ub:Int) (uc:Int) (ud:Za) (ue:Int):Option (Bool×Za×Int×Int×Za×Int×Unit):= jc (jZ.c1 w uc ud some) fun y=>some (y,ua,ub,uc,ud,ue,())
def jZ.mc:xj:=⟨58,jZ.pre,⟨[(0,Nj)],[(1000100,kc)]⟩,fun X=>jZ X.1 X.2.1 X.2.2.1 X.2.2.2.1 (q4 X).1 (q4 X).2.1⟩
def jZ.G:EB Zh:=⟨tb,Tryz.f58,[],[0,1,4],[1000100],[],[(1,jZ.c1r.ck)],[],[]⟩
def jZ.ok:MOk Zh 58 jZ.mc:=Ub jZ.G (mc:=jZ.mc) Tryz.func58 (m:=1) ⟨trivial,kR jZ.c1r⟩
abbrev B1:SD:=.one (.val (.int .u8))
def jk.pre:Sj:=⟨[(0,VP)],[(1000100,kc)]⟩
def jk.c0  (Z:Unit→Option ρ):Option ρ:= Z ()
def jk.c0r:RC:=⟨jk.pre,[((jk.pre.s 12 Nj),0,[400])],fun X=>((decide (X.2.1<(X.1.length:Int))),()),[],@jk.c0,fun _ _=>ja⟩
def jk.c1 (ua:Za)(ub:Int)(Z:Int→Option ρ):Option ρ:= jc (idx ua ub) fun y=>Z (↑(UInt8.toNat y):Int)
def jk.c1x0:Sj:=(jk.pre.s 2 B1)
def jk.c1r:RC:=⟨jk.pre,[(jk.c1x0,0,[101])],no,[0,1],@jk.c1,fun _ _ _ _=>jb fun _=>ja⟩
def jk.c2 (c:Int)(Z:Bool→Option ρ):Option ρ:= br (c==32) (Z true) (br (c==9) (Z true) (br (c==10) (Z true) (Z (c==13))))
def jk.c2r:RC:=⟨jk.c1x0,[((jk.c1x0.s 22 Nj),0,[1,101])],no,[0],@jk.c2,fun _ _ _=>jt ja (jt ja (jt ja ja))⟩
def jk.c4 (c:Int)(ua:Za)(ub:Int)(Z:Bool→Option ρ):Option ρ:= br (c==47) (br (decide (i64.wrap (ub+1)<(ua.length:Int))) (jc (idx ua (i64.wrap (ub+1))) fun y=>Z ((↑(UInt8.toNat y):Int)==47)) (Z false)) (Z false)
def jk.c4r:RC:=⟨jk.c1x0,[((jk.c1x0.s 44 Nj),0,[1,101])],no,[0,1,2],@jk.c4,fun _ _ _ _ _=>jt (jt (jb fun _=>ja) ja) ja⟩
def jk.c5 (ua:Za)(ub:Int)(Z:Bool→Option ρ):Option ρ:= br (decide (ub<(ua.length:Int))) (jc (idx ua ub) fun y=>Z ((↑(UInt8.toNat y):Int) !=10)) (Z false)
def jk.c5r:RC:=⟨jk.c1x0,[((jk.c1x0.s 94 Nj),0,[1,101])],no,[1,2],@jk.c5,fun _ _ _ _=>jt (jb fun _=>ja) ja⟩
def jk.cd_ (ua:Za)(ub:Int)(Z:Int⊕Int→Option ρ):Option ρ:= jc (jk.c5 ua ub some) fun y=>br y (Z (.inl (i64.wrap (ub+1)))) (Z (.inr ub))
def jk.cd_r:LC:=⟨jk.c1x0,[(jk.c1x0,5,[2,201])],no,[2],[1,2],@jk.cd_,fun _ _ _ _=>jb fun _=>(jt ja ja)⟩
def jk.cN_ (ua:Za)(ub:Int)(Z:Int⊕(Int⊕Int)→Option ρ):Option ρ:= jc (jk.c0 some) fun y=>br (decide (ub<(ua.length:Int))) (jc (jk.c1 ua ub some) fun y1=>jc (jk.c2 y1 some) fun y2=>br y2 (Z (.inl (i64.wrap (ub+1)))) (jc (jk.c4 y1 ua ub some) fun y3=>br y3 (jc (iter (fun s↦jk.cd_ ua s some) ub) fun y4=>Z (.inl y4)) (Z (.inr (.inl ub))))) (Z (.inr (.inr ub)))
def jk.cN_r:LC:=⟨jk.pre,[(jk.pre,1,[1,201]),(jk.pre,2,[1,201])],no,[1],[0,1],@jk.cN_,fun _ _ _ _=>jb fun _=>(jt (jb fun _=>(jb fun _=>(jt ja (jb fun _=>(jt (jb fun _=>ja) ja))))) ja)⟩
def jk (ua:Za) (ub:Int) (uc:Int) (ud:Za) (ue:Int):Option (Za×Int×Int×Za×Int×Unit):= jc (iter (fun s↦jk.cN_ ua s some) ub) fun y=>sel y (fun u=>some (ua,u,uc,ud,ue,())) (fun v=>some (ua,v,uc,ud,ue,()))
def jk.mc:xj:=⟨51,jk.pre,⟨[],[(1000100,kc)]⟩,fun X=>jk X.1 X.2.1 X.2.2.1 X.2.2.2.1 (q4 X).1⟩
def jk.G:EB Zh:=⟨tb,Tryz.f51,[],[0,2,12,22,44,94],[1000100],[(5,[]),(4,[]),(1,[]),(0,[])],[(100000,jk.cN_r.ck),(100005,jk.cd_r.ck),(5,jk.c5r.ck),(4,jk.c4r.ck),(2,jk.c2r.ck),(1,jk.c1r.ck),(0,jk.c0r.ck)],[],[]⟩
def jk.ok:MOk Zh 51 jk.mc:=Ub jk.G (mc:=jk.mc) Tryz.func51 (m:=7) ⟨⟨⟨⟨⟨⟨⟨trivial,kL jk.cN_r⟩,kR jk.c0r⟩,kR jk.c1r⟩,kR jk.c2r⟩,kR jk.c4r⟩,kL jk.cd_r⟩,kR jk.c5r⟩
def Yc.c1 (c:Int)(Z:Bool→Option ρ):Option ρ:= br (decide ((97:Int)≤c)) (br (decide (c≤122)) (Z true) (br (decide ((65:Int)≤c)) (br (decide (c≤90)) (Z true) (Z (c==95))) (Z (c==95)))) (br (decide ((65:Int)≤c)) (br (decide (c≤90)) (Z true) (Z (c==95))) (Z (c==95)))
def Yc.c1s:Sj:=⟨[(0,B1),(2,Nj)],[]⟩
def Yc.c1r:RC:=⟨Yc.c1s,[(Yc.c1s,0,[1,201])],no,[0],@Yc.c1,fun _ _ _=>jt (jt ja (jt (jt ja ja) ja)) (jt (jt ja ja) ja)⟩
def Yc (c:Int):Option Bool:= jc (Yc.c1 c some) fun y=>some y
def Yc.ce:=Vt tab Tryz.f52 Yc
def Yc.G:EB Zh:=⟨tb,Tryz.f52,[],[0,2],[],[],[(1,Yc.c1r.ck)],[],[]⟩
def Yc.ok:vj Zh 52 Yc.ce:=Uj Yc.G Tryz.func52 (m:=1) ⟨trivial,kR Yc.c1r⟩
def kX.c1 (c:Int)(Z:Bool→Option ρ):Option ρ:= br (decide ((48:Int)≤c)) (Z (decide (c≤57))) (Z false)
def kX.c1s:Sj:=⟨[(0,B1),(2,Nj)],[]⟩
def kX.c1r:RC:=⟨kX.c1s,[(kX.c1s,0,[1,201])],no,[0],@kX.c1,fun _ _ _=>jt ja ja⟩
def kX (c:Int):Option Bool:= jc (kX.c1 c some) fun y=>some y
def kX.ce:=Vt tab Tryz.f55 kX
def kX.G:EB Zh:=⟨tb,Tryz.f55,[],[0,2],[],[],[(1,kX.c1r.ck)],[],[]⟩
def kX.ok:vj Zh 55 kX.ce:=Uj kX.G Tryz.func55 (m:=1) ⟨trivial,kR kX.c1r⟩
def kj.c1 (c:Int)(Z:Bool→Option ρ):Option ρ:= jc (Yc c) fun y=>br y (Z true) (jc (kX c) fun y1=>Z y1)
def kj.c1s:Sj:=⟨[(0,B1),(2,Nj)],[]⟩
def kj.c1r:RC:=⟨kj.c1s,[(kj.c1s,0,[1,201])],no,[0],@kj.c1,fun _ _ _=>jb fun _=>(jt ja (jb fun _=>ja))⟩
def kj (c:Int):Option Bool:= jc (kj.c1 c some) fun y=>some y
def kj.ce:=Vt tab Tryz.f54 kj
def kj.G:EB Zh:=⟨tb,Tryz.f54,[⟨52,Yc.ce,Yc.ok⟩,⟨55,kX.ce,kX.ok⟩],[0,2],[],[],[(1,kj.c1r.ck)],[],[]⟩
def kj.ok:vj Zh 54 kj.ce:=Uj kj.G Tryz.func54 (m:=1) ⟨trivial,kR kj.c1r⟩
abbrev tg5:SD:=.one (.fn 54)
abbrev iI:SD:=.one (.val (.int .i64))
def jE.pre:Sj:=⟨[(0,VP),(1,tg5)],[(1000100,kc)]⟩
def jE.c2 (ua:Za)(ub:Int)(Z:Bool→Option ρ):Option ρ:= br (decide (ub<(ua.length:Int))) (jc (idx ua ub) fun y=>jc (kj (↑(UInt8.toNat y):Int)) fun y1=>Z y1) (Z false)
def jE.c2s:Sj:=((jE.pre.s 4 cL).s 5 iI)
def jE.c2r:RC:=⟨jE.c2s,[((jE.c2s.s 32 Nj),0,[2,101])],no,[2,3],@jE.c2,fun _ _ _ _=>jt (jb fun _=>(jb fun _=>ja)) ja⟩
def jE.ca_ (ua:Za)(ub:Int)(Z:Int⊕Int→Option ρ):Option ρ:= jc (jE.c2 ua ub some) fun y=>br y (Z (.inl (i64.wrap (ub+1)))) (Z (.inr ub))
def jE.ca_r:LC:=⟨jE.c2s,[(jE.c2s,2,[3,201])],no,[3],[2,3],@jE.ca_,fun _ _ _ _=>jb fun _=>(jt ja ja)⟩
def jE.c4 (t5:Int)(ua:Za)(ub:Int)(Z:Unit→Option ρ):Option ρ:= jc (Je (decide ((0:Int)≤t5)&&decide (t5≤ub)&&decide (ub≤(ua.length:Int)))) fun y=>Z ()
def jE.c4r:RC:=⟨jE.c2s,[(jE.c2s,0,[400,301])],fun X=>((List.drop (Int.toNat X.2.1) (List.take (Int.toNat X.2.2.2.1) X.2.2.1)),()),[1,2,3],@jE.c4,fun _ _ _ _ _=>jb fun _=>ja⟩
def jE (ua:Za) (ub:Int) (uc:Int) (ud:Za) (ue:Int):Option (Za×Za×Int×Int×Za×Int×Unit):= jc (iter (fun s↦jE.ca_ ua s some) ub) fun y=>jc (jE.c4 ub ua y some) fun y1=>some (List.drop (Int.toNat ub) (List.take (Int.toNat y) ua),ua,y,uc,ud,ue,())
def jE.mc:xj:=⟨53,jE.pre,⟨[(0,cL)],[(1000100,kc)]⟩,fun X=>jE X.1 X.2.1 X.2.2.1 X.2.2.2.1 (q4 X).1⟩
def jE.G:EB Zh:=⟨tb,Tryz.f53,[⟨54,kj.ce,kj.ok⟩],[0,1,4,5,32],[1000100],[(4,[]),(2,[])],[(4,jE.c4r.ck),(100002,jE.ca_r.ck),(2,jE.c2r.ck)],[],[]⟩
def jE.ok:MOk Zh 53 jE.mc:=Ub jE.G (mc:=jE.mc) Tryz.func53 (m:=3) ⟨⟨⟨trivial,kL jE.ca_r⟩,kR jE.c2r⟩,kR jE.c4r⟩
def kE.cH_ (t3:Za)(Z:Bool→Option ρ):Option ρ:= br (t3==Z9 [113,117,98,105,116]) (Z (t3==Z9 [113,117,98,105,116])) (br (t3==Z9 [98,105,116]) (Z (t3==Z9 [98,105,116])) (br (t3==Z9 [99,111,110,115,116]) (Z (t3==Z9 [99,111,110,115,116])) (br (t3==Z9 [103,97,116,101]) (Z (t3==Z9 [103,97,116,101])) (br (t3==Z9 [102,111,114]) (Z (t3==Z9 [102,111,114])) (br (t3==Z9 [105,110]) (Z (t3==Z9 [105,110])) (br (t3==Z9 [119,104,101,110]) (Z (t3==Z9 [119,104,101,110])) (br (t3==Z9 [105,102]) (Z (t3==Z9 [105,102])) (br (t3==Z9 [101,108,115,101]) (Z (t3==Z9 [101,108,115,101])) (br (t3==Z9 [109,101,97,115,117,114,101]) (Z (t3==Z9 [109,101,97,115,117,114,101])) (br (t3==Z9 [114,101,115,101,116]) (Z (t3==Z9 [114,101,115,101,116])) (br (t3==Z9 [119,105,116,104,105,110]) (Z (t3==Z9 [119,105,116,104,105,110])) (br (t3==Z9 [97,112,112,108,121]) (Z (t3==Z9 [97,112,112,108,121])) (br (t3==Z9 [105,110,118]) (Z (t3==Z9 [105,110,118])) (br (t3==Z9 [99,116,114,108]) (Z (t3==Z9 [99,116,114,108])) (br (t3==Z9 [112,111,119]) (Z (t3==Z9 [112,111,119])) (Z (t3==Z9 [115,105,122,101])))))))))))))))))
def kE.cH_s:Sj:=⟨[(0,cL),(2,Nj),(3,cL)],[]⟩
def kE.cH_r:RC:=⟨kE.cH_s,[((kE.cH_s.s 4 Nj),0,[3,101])],no,[2],@kE.cH_,fun _ _ _=>jt ja (jt ja (jt ja (jt ja (jt ja (jt ja (jt ja (jt ja (jt ja (jt ja (jt ja (jt ja (jt ja (jt ja (jt ja (jt ja ja)))))))))))))))⟩
def kE (w:Za):Option Bool:= jc (kE.cH_ w some) fun y=>br y (some true) (some false)
def kE.ce:=Vt tab Tryz.f56 kE
def kE.G:EB Zh:=⟨tb,Tryz.f56,[],[0,2,3,4],[1002082570004,2000000000004],[],[(208257,kE.cH_r.ck)],[],[]⟩
def kE.ok:vj Zh 56 kE.ce:=Uj kE.G Tryz.func56 (m:=1) ⟨trivial,kJ kE.cH_r⟩
def jH.pre:Sj:=⟨[(0,VP)],[(1000100,kc)]⟩
def jH.c1 (ua:Za)(ub:Int)(Z:Unit→Option ρ):Option ρ:= jc (Je (decide ((0:Int)≤ub)&&decide (ub≤(ua.length:Int))&&decide ((ua.length:Int)≤(ua.length:Int)))) fun y=>Z ()
def jH.c1s:Sj:=(jH.pre.s 2 cL)
def jH.c1x0:Sj:=(jH.c1s.s 3 cL)
def jH.c1r:RC:=⟨jH.c1s,[(jH.c1x0,0,[1,400])],fun X=>((List.drop (Int.toNat X.2.2.1) (List.take (Int.toNat (X.2.1.length:Int)) X.2.1)),()),[1,2],@jH.c1,fun _ _ _ _=>jb fun _=>ja⟩
def jH.cI_ (t17:Za)(Z:Bool→Option ρ):Option ρ:= br (t17==Z9 [46,46]) (Z (t17==Z9 [46,46])) (br (t17==Z9 [45,62]) (Z (t17==Z9 [45,62])) (br (t17==Z9 [94,61]) (Z (t17==Z9 [94,61])) (br (t17==Z9 [61,61]) (Z (t17==Z9 [61,61])) (br (t17==Z9 [33,61]) (Z (t17==Z9 [33,61])) (br (t17==Z9 [60,61]) (Z (t17==Z9 [60,61])) (br (t17==Z9 [62,61]) (Z (t17==Z9 [62,61])) (Z (t17==Z9 [42,42]))))))))
def jH.cI_s:Sj:=(jH.c1x0.s 17 cL)
def jH.cI_r:RC:=⟨jH.cI_s,[((jH.cI_s.s 18 Nj),0,[3,101])],no,[2],@jH.cI_,fun _ _ _=>jt ja (jt ja (jt ja (jt ja (jt ja (jt ja (jt ja ja))))))⟩
def jH.cY_ (rest:Za)(Z:Unit⊕Unit→Option ρ):Option ρ:= br (decide ((rest.length:Int)>1)) (jc (Je (decide ((2:Int)≤(rest.length:Int)))) fun y=>jc (jH.cI_ (List.take (2:Nat) rest) some) fun y1=>br y1 (jc (Je (decide ((2:Int)≤(rest.length:Int)))) fun y2=>Z (.inl ())) (Z (.inr ()))) (Z (.inr ()))
def jH.cY_r:RC:=⟨jH.c1x0,[(jH.c1x0,1,[400,301,2,401,301]),(jH.c1x0,0,[])],fun X=>((List.take (2:Nat) X.2.1),(i64.wrap (X.2.2.2.1+2)),()),[1],@jH.cY_,fun _ _ _=>jt (jb fun _=>(jb fun _=>(jt (jb fun _=>ja) ja))) ja⟩
def jH.cJ_ (t37:Int)(Z:Bool→Option ρ):Option ρ:= br (t37==123) (Z (t37==123)) (br (t37==125) (Z (t37==125)) (br (t37==40) (Z (t37==40)) (br (t37==41) (Z (t37==41)) (br (t37==91) (Z (t37==91)) (br (t37==93) (Z (t37==93)) (br (t37==59) (Z (t37==59)) (br (t37==44) (Z (t37==44)) (br (t37==64) (Z (t37==64)) (br (t37==61) (Z (t37==61)) (br (t37==60) (Z (t37==60)) (br (t37==62) (Z (t37==62)) (br (t37==43) (Z (t37==43)) (br (t37==45) (Z (t37==45)) (br (t37==42) (Z (t37==42)) (br (t37==47) (Z (t37==47)) (br (t37==37) (Z (t37==37)) (br (t37==33) (Z (t37==33)) (br (t37==38) (Z (t37==38)) (br (t37==124) (Z (t37==124)) (Z (t37==94)))))))))))))))))))))
def jH.cJ_s:Sj:=(jH.c1x0.s 37 B1)
def jH.cJ_r:RC:=⟨jH.cJ_s,[((jH.cJ_s.s 38 Nj),0,[3,101])],no,[2],@jH.cJ_,fun _ _ _=>jt ja (jt ja (jt ja (jt ja (jt ja (jt ja (jt ja (jt ja (jt ja (jt ja (jt ja (jt ja (jt ja (jt ja (jt ja (jt ja (jt ja (jt ja (jt ja (jt ja ja)))))))))))))))))))⟩
def jH (ua:Za) (ub:Int) (uc:Int) (ud:Za) (ue:Int):Option (Za×Za×Int×Int×Za×Int×Unit):= jc (jH.c1 ua ub some) fun y=>jc (jH.cY_ (List.drop (Int.toNat ub) (List.take (Int.toNat (ua.length:Int)) ua)) some) fun y1=>sel y1 (fun u=>some (List.take (2:Nat) (List.drop (Int.toNat ub) (List.take (Int.toNat (ua.length:Int)) ua)),ua,i64.wrap (ub+2),uc,ud,ue,())) (fun v=>jc (idx (List.drop (Int.toNat ub) (List.take (Int.toNat (ua.length:Int)) ua)) (0:Int)) fun y2=>jc (jH.cJ_ (↑(UInt8.toNat y2):Int) some) fun y3=>br y3 (jc (Je (decide ((1:Int)≤(↑(List.length (List.drop (Int.toNat ub) (List.take (Int.toNat (ua.length:Int)) ua))):Int)))) fun y4=>some (List.take (1:Nat) (List.drop (Int.toNat ub) (List.take (Int.toNat (ua.length:Int)) ua)),ua,i64.wrap (ub+1),uc,ud,ue,())) (some (Z9 [],ua,ub,uc,ud,ue,())))
def jH.mc:xj:=⟨57,jH.pre,⟨[(0,cL)],[(1000100,kc)]⟩,fun X=>jH X.1 X.2.1 X.2.2.1 X.2.2.2.1 (q4 X).1⟩
def jH.G:EB Zh:=⟨tb,Tryz.f57,[],[0,2,3,15,17,18,37,38],[1000100,1002164130018,1002615210038,2000000000018,2000000000038],[(1,[])],[(261521,jH.cJ_r.ck),(208236,jH.cY_r.ck),(216413,jH.cI_r.ck),(1,jH.c1r.ck)],[],[]⟩
def jH.ok:MOk Zh 57 jH.mc:=Ub jH.G (mc:=jH.mc) Tryz.func57 (m:=4) ⟨⟨⟨⟨trivial,kR jH.c1r⟩,kJ jH.cY_r⟩,kJ jH.cI_r⟩,kJ jH.cJ_r⟩
abbrev tg7:SD:=.one (.fn 55)
def jB.pre:Sj:=⟨[(0,VP),(1,tg7)],[(1000100,kc)]⟩
def jB.c2 (ua:Za)(ub:Int)(Z:Bool→Option ρ):Option ρ:= br (decide (ub<(ua.length:Int))) (jc (idx ua ub) fun y=>jc (kX (↑(UInt8.toNat y):Int)) fun y1=>Z y1) (Z false)
def jB.c2s:Sj:=((jB.pre.s 4 cL).s 5 iI)
def jB.c2r:RC:=⟨jB.c2s,[((jB.c2s.s 32 Nj),0,[2,101])],no,[2,3],@jB.c2,fun _ _ _ _=>jt (jb fun _=>(jb fun _=>ja)) ja⟩
def jB.ca_ (ua:Za)(ub:Int)(Z:Int⊕Int→Option ρ):Option ρ:= jc (jB.c2 ua ub some) fun y=>br y (Z (.inl (i64.wrap (ub+1)))) (Z (.inr ub))
def jB.ca_r:LC:=⟨jB.c2s,[(jB.c2s,2,[3,201])],no,[3],[2,3],@jB.ca_,fun _ _ _ _=>jb fun _=>(jt ja ja)⟩
def jB.c4 (t5:Int)(ua:Za)(ub:Int)(Z:Unit→Option ρ):Option ρ:= jc (Je (decide ((0:Int)≤t5)&&decide (t5≤ub)&&decide (ub≤(ua.length:Int)))) fun y=>Z ()
def jB.c4r:RC:=⟨jB.c2s,[(jB.c2s,0,[400,301])],fun X=>((List.drop (Int.toNat X.2.1) (List.take (Int.toNat X.2.2.2.1) X.2.2.1)),()),[1,2,3],@jB.c4,fun _ _ _ _ _=>jb fun _=>ja⟩
def jB (ua:Za) (ub:Int) (uc:Int) (ud:Za) (ue:Int):Option (Za×Za×Int×Int×Za×Int×Unit):= jc (iter (fun s↦jB.ca_ ua s some) ub) fun y=>jc (jB.c4 ub ua y some) fun y1=>some (List.drop (Int.toNat ub) (List.take (Int.toNat y) ua),ua,y,uc,ud,ue,())
def jB.mc:xj:=⟨53,jB.pre,⟨[(0,cL)],[(1000100,kc)]⟩,fun X=>jB X.1 X.2.1 X.2.2.1 X.2.2.2.1 (q4 X).1⟩
def jB.G:EB Zh:=⟨tb,Tryz.f53,[⟨55,kX.ce,kX.ok⟩],[0,1,4,5,32],[1000100],[(4,[]),(2,[])],[(4,jB.c4r.ck),(100002,jB.ca_r.ck),(2,jB.c2r.ck)],[],[]⟩
def jB.ok:MOk Zh 53 jB.mc:=Ub jB.G (mc:=jB.mc) Tryz.func53 (m:=3) ⟨⟨⟨trivial,kL jB.ca_r⟩,kR jB.c2r⟩,kR jB.c4r⟩
abbrev nS:SD:=.one (.val (.st (.pair (.int .i64) (.pair .str (.int .i64)))))
abbrev rF:SD:=.one (.ref 2 0)
abbrev fV:SD:=.one (.ref 3 0)
abbrev UB:SO:=.box [.val (.int .i64),.val .str,.val (.int .i64)]
def jL.pre:Sj:=⟨[(0,VP)],[(1000100,kc)]⟩
def jL.c3  (Z:Unit→Option ρ):Option ρ:= Z ()
def jL.c3s:Sj:=((((jL.pre.s 2 rF).s 3 fV).o 2 UB).o 3 UB)
def jL.c3r:RC:=⟨jL.c3s,[((jL.c3s.s 21 Nj),0,[400])],fun X=>(((q4 X).2.2.2.1==(X.2.2.2.2.2.2.1.length:Int)),()),[],@jL.c3,fun _ _=>ja⟩
def jL.c5 (ua:Za)(ub:Int)(Z:Int→Option ρ):Option ρ:= jc (idx ua ub) fun y=>Z (↑(UInt8.toNat y):Int)
def jL.c5x0:Sj:=(jL.c3s.s 4 B1)
def jL.c5r:RC:=⟨jL.c3s,[(jL.c5x0,0,[101])],no,[6,7],@jL.c5,fun _ _ _ _=>jb fun _=>ja⟩
def jL.c15 (c:Int)(t1:Za)(Z:Bool→Option ρ):Option ρ:= br (decide ((t1.length:Int)>9)) (Z true) (br (decide ((t1.length:Int)>1)) (Z (c==48)) (Z false))
def jL.c15r:RC:=⟨jL.c5x0,[((jL.c5x0.s 71 Nj),0,[1,101])],no,[0,5],@jL.c15,fun _ _ _ _=>jt ja (jt ja ja)⟩
def jL.caf_ (ua:Za)(ub:Int)(uc:Int)(ud:Za)(ue:Int)(Z:Int×Za×Za×Int×Int×Za×Int→Option ρ):Option ρ:= jc (jL.c5 ua ub some) fun y=>jc (Yc y) fun y1=>br y1 (jc (jE ua ub uc ud ue) fun y2=>jc (kE y2.1) fun y3=>br y3 (Z ((2:Int),y2.1,y2.2.1,y2.2.2.1,y2.2.2.2.1,y2.2.2.2.2.1,y2.2.2.2.2.2.1)) (Z ((1:Int),y2.1,y2.2.1,y2.2.2.1,y2.2.2.2.1,y2.2.2.2.2.1,y2.2.2.2.2.2.1))) (jc (kX y) fun y4=>br y4 (jc (jB ua ub uc ud ue) fun y5=>jc (jL.c15 y y5.1 some) fun y6=>br y6 (Z ((5:Int),y5.1,y5.2.1,y5.2.2.1,y5.2.2.2.1,y5.2.2.2.2.1,y5.2.2.2.2.2.1)) (Z ((3:Int),y5.1,y5.2.1,y5.2.2.1,y5.2.2.2.1,y5.2.2.2.2.1,y5.2.2.2.2.2.1))) (jc (jH ua ub uc ud ue) fun y7=>br (y7.1==Z9 []) (Z ((5:Int),y7.1,y7.2.1,y7.2.2.1,y7.2.2.2.1,y7.2.2.2.2.1,y7.2.2.2.2.2.1)) (Z ((4:Int),y7.1,y7.2.1,y7.2.2.1,y7.2.2.2.1,y7.2.2.2.2.1,y7.2.2.2.2.2.1))))
def jL.caf_r:RC:=⟨jL.c3s,[(jL.c3s,0,[3,202,1,205])],no,[6,7,8,9,10],@jL.caf_,fun _ _ _ _ _ _ _=>jb fun _=>(jb fun _=>(jt (jb fun _=>(jb fun _=>(jt ja ja))) (jb fun _=>(jt (jb fun _=>(jb fun _=>(jt ja ja))) (jb fun _=>(jt ja ja))))))⟩
def jL (ua:Za) (ub:Int) (uc:Int) (ud:Za) (ue:Int):Option (Zb×Za×Int×Int×Za×Int×Unit):= jc (jk ua ub uc ud ue) fun y=>jc (jL.c3 some) fun y1=>br (y.2.1==(↑(List.length y.1):Int)) (some (((0:Int),[],y.2.1),y.1,y.2.1,y.2.2.1,y.2.2.2.1,y.2.2.2.2.1,())) (jc (jL.caf_ y.1 y.2.1 y.2.2.1 y.2.2.2.1 y.2.2.2.2.1 some) fun y2=>some ((y2.1,y2.2.1,y.2.1),y2.2.2.1,y2.2.2.2.1,y2.2.2.2.2.1,y2.2.2.2.2.2.1,y2.2.2.2.2.2.2,()))
def jL.mc:xj:=⟨24,jL.pre,⟨[(0,nS)],[(1000100,kc)]⟩,fun X=>jL X.1 X.2.1 X.2.2.1 X.2.2.2.1 (q4 X).1⟩
def jL.G:EB Zh:=⟨tb,Tryz.f24,[⟨52,Yc.ce,Yc.ok⟩,⟨56,kE.ce,kE.ok⟩,⟨55,kX.ce,kX.ok⟩],[0,2,3,4,21,38,40,49,51,71],[1000100],[(5,[]),(3,[])],[(220510,jL.caf_r.ck),(15,jL.c15r.ck),(5,jL.c5r.ck),(3,jL.c3r.ck)],[⟨51,jk.mc,jk.ok⟩,⟨53,jE.mc,jE.ok⟩,⟨57,jH.mc,jH.ok⟩,⟨1000055,jB.mc,jB.ok⟩],[]⟩
def jL.ok:MOk Zh 24 jL.mc:=Ub jL.G (mc:=jL.mc) Tryz.func24 (m:=4) ⟨⟨⟨⟨trivial,kR jL.c3r⟩,kJ jL.caf_r⟩,kR jL.c5r⟩,kR jL.c15r⟩
def jR (ua:Za) (ub:Int) (uc:Int) (ud:Za) (ue:Int):Option (Zb×Za×Int×Int×Za×Int×Unit):= jc (jL ua ub uc ud ue) fun y=>some ((uc,ud,ue),y.2.1,y.2.2.1,y.1.1,y.1.2.1,y.1.2.2,())
def jR.mc:xj:=⟨14,⟨[(0,VP)],[(1000100,kc)]⟩,⟨[(0,nS)],[(1000100,kc)]⟩,fun X=>jR X.1 X.2.1 X.2.2.1 X.2.2.2.1 (q4 X).1⟩
def jR.G:EB Zh:=⟨tb,Tryz.f14,[],[0,2,3],[1000100],[],[],[⟨24,jL.mc,jL.ok⟩],[]⟩
def jR.ok:MOk Zh 14 jR.mc:=Ub jR.G (mc:=jR.mc) Tryz.func14 (m:=0) trivial
def jz (w:Za) (ua:Za) (ub:Int) (uc:Int) (ud:Za) (ue:Int):Option (Bool×Za×Int×Int×Za×Int×Unit):= jc (jZ w ua ub uc ud ue) fun y=>br y.1 (jc (jR y.2.1 y.2.2.1 y.2.2.2.1 y.2.2.2.2.1 y.2.2.2.2.2.1) fun y1=>some (true,y1.2.1,y1.2.2.1,y1.2.2.2.1,y1.2.2.2.2.1,y1.2.2.2.2.2.1,())) (some (false,y.2.1,y.2.2.1,y.2.2.2.1,y.2.2.2.2.1,y.2.2.2.2.2.1,()))
def jz.mc:xj:=⟨25,⟨[(0,VP),(1,cL)],[(1000100,kc)]⟩,⟨[(0,Nj)],[(1000100,kc)]⟩,fun X=>jz X.1 X.2.1 X.2.2.1 X.2.2.2.1 (q4 X).1 (q4 X).2.1⟩
def jz.G:EB Zh:=⟨tb,Tryz.f25,[],[0,1,4,7],[1000100],[],[],[⟨58,jZ.mc,jZ.ok⟩,⟨14,jR.mc,jR.ok⟩],[]⟩
def jz.ok:MOk Zh 25 jz.mc:=Ub jz.G (mc:=jz.mc) Tryz.func25 (m:=0) trivial
abbrev Vo:SD:=.one (.val (.ifc 35 (.st (.int .i64))))
def km (ua:Za) (ub:Int) (uc:Int) (ud:Za) (ue:Int):Option ((Za×Int×Int×Za×Int×Unit)⊕(Int×Za×Int×Int×Za×Int×Unit)):= some (Sum.inr (ue,ua,ub,uc,ud,ue,()))
def km.ma:MAlt:=⟨59,⟨[(0,VP)],[(1000100,kc)]⟩,⟨[],[(1000100,kc)]⟩,true,⟨[(0,Vo)],[(1000100,kc)]⟩,fun X=>km X.1 X.2.1 X.2.2.1 X.2.2.2.1 (q4 X).1⟩
def km.G:EB Zh:=⟨tb,Tryz.f59,[],[0],[1000100],[],[],[],[]⟩
def km.ok:uj Zh 59 km.ma:=Hw km.G (ma:=km.ma) Tryz.func59 (m:=0) trivial
abbrev Hi:SO:=.clo 0 [] [.val (.ifc 35 (.st (.int .i64)))]
def jS.pre:Sj:=⟨[(0,VP)],[(1000100,kc)]⟩
def jS.cm_ (ua:Za)(ub:Int)(uc:Int)(ud:Za)(ue:Int)(Z:(Za×Int×Int×Za×Int)⊕(Int×Za×Int×Int×Za×Int)→Option ρ):Option ρ:= br (uc !=1) (jc (km ua ub uc ud ue) fun y=>sel y (fun u=>Z (.inl (u.1,u.2.1,u.2.2.1,u.2.2.2.1,u.2.2.2.2.1))) (fun v=>Z (.inr (v.1,v.2.1,v.2.2.1,v.2.2.2.1,v.2.2.2.2.1,v.2.2.2.2.2.1)))) (Z (.inl (ua,ub,uc,ud,ue)))
def jS.cm_s:Sj:=((jS.pre.s 2 rF).o 2 UB)
def jS.cm_r:RC:=⟨jS.cm_s,[(jS.cm_s,0,[3,205]),((jS.cm_s.o 900001 Hi),1000000,[3,205,101])],no,[3,4,5,6,7],@jS.cm_,fun _ _ _ _ _ _ _=>jt (jb fun _=>(kw (fun _=>ja) (fun _=>ja))) ja⟩
def jS (ua:Za) (ub:Int) (uc:Int) (ud:Za) (ue:Int):Option ((Zb×Za×Int×Int×Za×Int×Unit)⊕(Int×Za×Int×Int×Za×Int×Unit)):= jc (jS.cm_ ua ub uc ud ue some) fun y=>sel y (fun u=>jc (jR u.1 u.2.1 u.2.2.1 u.2.2.2.1 u.2.2.2.2) fun y1=>some (Sum.inl ((y1.1.1,y1.1.2.1,y1.1.2.2),y1.2.1,y1.2.2.1,y1.2.2.2.1,y1.2.2.2.2.1,y1.2.2.2.2.2.1,()))) (fun v=>some (Sum.inr (v.1,v.2.1,v.2.2.1,v.2.2.2.1,v.2.2.2.2.1,v.2.2.2.2.2,())))
def jS.ma:MAlt:=⟨26,jS.pre,⟨[(0,nS)],[(1000100,kc)]⟩,true,⟨[(0,Vo)],[(1000100,kc)]⟩,fun X=>jS X.1 X.2.1 X.2.2.1 X.2.2.2.1 (q4 X).1⟩
def jS.G:EB Zh:=⟨tb,Tryz.f26,[],[0,2,8],[1000100],[],[(204101,jS.cm_r.ck)],[⟨14,jR.mc,jR.ok⟩],[⟨59,km.ma,km.ok⟩]⟩
def jS.ok:uj Zh 26 jS.ma:=Hw jS.G (ma:=jS.ma) Tryz.func26 (m:=1) ⟨trivial,kJ jS.cm_r⟩
abbrev pD:SD:=.one (.ref 4 0)
def jA.pre:Sj:=⟨[(0,VP),(1,cL)],[(1000100,kc)]⟩
def jA.cm_ (w:Za)(ua:Za)(ub:Int)(uc:Int)(ud:Za)(ue:Int)(Z:(Za×Int×Int×Za×Int)⊕(Int×Za×Int×Int×Za×Int)→Option ρ):Option ρ:= jc (jZ w ua ub uc ud ue) fun y=>br (!y.1) (jc (km y.2.1 y.2.2.1 y.2.2.2.1 y.2.2.2.2.1 y.2.2.2.2.2.1) fun y1=>sel y1 (fun u=>Z (.inl (u.1,u.2.1,u.2.2.1,u.2.2.2.1,u.2.2.2.2.1))) (fun v=>Z (.inr (v.1,v.2.1,v.2.2.1,v.2.2.2.1,v.2.2.2.2.1,v.2.2.2.2.2.1)))) (Z (.inl (y.2.1,y.2.2.1,y.2.2.2.1,y.2.2.2.2.1,y.2.2.2.2.2.1)))
def jA.cm_s:Sj:=((jA.pre.s 4 pD).o 4 UB)
def jA.cm_r:RC:=⟨jA.cm_s,[(jA.cm_s,0,[4,205]),((jA.cm_s.o 900001 Hi),1000000,[4,205,101])],no,[0,4,5,6,7,8],@jA.cm_,fun _ _ _ _ _ _ _ _=>jb fun _=>(jt (jb fun _=>(kw (fun _=>ja) (fun _=>ja))) ja)⟩
def jA (w:Za) (ua:Za) (ub:Int) (uc:Int) (ud:Za) (ue:Int):Option ((Zb×Za×Int×Int×Za×Int×Unit)⊕(Int×Za×Int×Int×Za×Int×Unit)):= jc (jA.cm_ w ua ub uc ud ue some) fun y=>sel y (fun u=>jc (jR u.1 u.2.1 u.2.2.1 u.2.2.2.1 u.2.2.2.2) fun y1=>some (Sum.inl ((y1.1.1,y1.1.2.1,y1.1.2.2),y1.2.1,y1.2.2.1,y1.2.2.2.1,y1.2.2.2.2.1,y1.2.2.2.2.2.1,()))) (fun v=>some (Sum.inr (v.1,v.2.1,v.2.2.1,v.2.2.2.1,v.2.2.2.2.1,v.2.2.2.2.2,())))
def jA.ma:MAlt:=⟨27,jA.pre,⟨[(0,nS)],[(1000100,kc)]⟩,true,⟨[(0,Vo)],[(1000100,kc)]⟩,fun X=>jA X.1 X.2.1 X.2.2.1 X.2.2.2.1 (q4 X).1 (q4 X).2.1⟩
def jA.G:EB Zh:=⟨tb,Tryz.f27,[],[0,1,4,8],[1000100],[],[(204101,jA.cm_r.ck)],[⟨58,jZ.mc,jZ.ok⟩,⟨14,jR.mc,jR.ok⟩],[⟨59,km.ma,km.ok⟩]⟩
def jA.ok:uj Zh 27 jA.ma:=Hw jA.G (ma:=jA.ma) Tryz.func27 (m:=1) ⟨trivial,kJ jA.cm_r⟩
def Jz.cC_ (t3:Za)(Z:Bool→Option ρ):Option ρ:= br (t3==Z9 [61,61]) (Z (t3==Z9 [61,61])) (br (t3==Z9 [33,61]) (Z (t3==Z9 [33,61])) (br (t3==Z9 [60]) (Z (t3==Z9 [60])) (br (t3==Z9 [60,61]) (Z (t3==Z9 [60,61])) (br (t3==Z9 [62]) (Z (t3==Z9 [62])) (Z (t3==Z9 [62,61]))))))
def Jz.cC_s:Sj:=⟨[(0,cL),(2,iI),(3,cL)],[]⟩
def Jz.cC_x0:Sj:=(Jz.cC_s.s 4 Nj)
def Jz.cC_r:RC:=⟨Jz.cC_s,[(Jz.cC_x0,0,[3,101])],no,[2],@Jz.cC_,fun _ _ _=>jt ja (jt ja (jt ja (jt ja (jt ja ja))))⟩
def Jz.cL_ (t3:Za)(Z:Bool→Option ρ):Option ρ:= br (t3==Z9 [43]) (Z (t3==Z9 [43])) (Z (t3==Z9 [45]))
def Jz.cL_x0:Sj:=(Jz.cC_x0.s 11 Nj)
def Jz.cL_r:RC:=⟨Jz.cC_x0,[(Jz.cL_x0,0,[4,101])],no,[2],@Jz.cL_,fun _ _ _=>jt ja ja⟩
def Jz.cT_ (t3:Za)(Z:Bool→Option ρ):Option ρ:= br (t3==Z9 [42]) (Z (t3==Z9 [42])) (br (t3==Z9 [47]) (Z (t3==Z9 [47])) (Z (t3==Z9 [37])))
def Jz.cT_r:RC:=⟨Jz.cL_x0,[((Jz.cL_x0.s 14 Nj),0,[5,101])],no,[2],@Jz.cT_,fun _ _ _=>jt ja (jt ja ja)⟩
def Jz (w:Za):Option Int:= jc (Jz.cC_ w some) fun y=>br y (some (1:Int)) (jc (Jz.cL_ w some) fun y1=>br y1 (some (2:Int)) (jc (Jz.cT_ w some) fun y2=>br y2 (some (3:Int)) (br (w==Z9 [42,42]) (some (5:Int)) (some (0:Int)))))
def Jz.ce:=Vt tab Tryz.f61 Jz
def Jz.G:EB Zh:=⟨tb,Tryz.f61,[],[0,2,3,4,11,14,18],[1002082130004,1002368690011,1002491610014,2000000000004,2000000000011,2000000000014],[],[(249161,Jz.cT_r.ck),(236869,Jz.cL_r.ck),(208213,Jz.cC_r.ck)],[],[]⟩
def Jz.ok:vj Zh 61 Jz.ce:=Uj Jz.G Tryz.func61 (m:=3) ⟨⟨⟨trivial,kJ Jz.cC_r⟩,kJ Jz.cL_r⟩,kJ Jz.cT_r⟩
def Yv (t:Int×(Za×Int)) (a:Zd) (b:Zd):Option Zd:= some (Rose.mk ((24:Int),t.2.2,t.2.1,(0:Int)) [Rose.mk (a.hQ.1,a.hQ.2.1,a.hQ.2.2.1,a.hQ.2.2.2) a.kQ,Rose.mk (b.hQ.1,b.hQ.2.1,b.hQ.2.2.1,b.hQ.2.2.2) b.kQ])
def Yv.ce:=Vt tab Tryz.f62 Yv
def Yv.G:EB Zh:=⟨tb,Tryz.f62,[],[0,1,2,3,4,5,6],[],[],[],[],[]⟩
def Yv.ok:vj Zh 62 Yv.ce:=Uj Yv.G Tryz.func62 (m:=0) trivial
def kB (kind:Int) (t:Int×(Za×Int)) (kids:Ze):Option Zd:= some (Rose.mk (kind,t.2.2,[],(0:Int)) kids)
def kB.ce:=Vt tab Tryz.f68 kB
def kB.G:EB Zh:=⟨tb,Tryz.f68,[],[0,1,2,4,6],[],[],[],[],[]⟩
def kB.ok:vj Zh 68 kB.ce:=Uj kB.G Tryz.func68 (m:=0) trivial
def ku (kind:Int) (t:Int×(Za×Int)) (w:Int×(Za×Int)) (kids:Ze):Option Zd:= some (Rose.mk (kind,t.2.2,w.2.1,(0:Int)) kids)
def ku.ce:=Vt tab Tryz.f29 ku
def ku.G:EB Zh:=⟨tb,Tryz.f29,[],[0,1,2,3,5,6,8],[],[],[],[],[]⟩
def ku.ok:vj Zh 29 ku.ce:=Uj ku.G Tryz.func29 (m:=0) trivial
abbrev VM:SD:=.one (.val (.st (.node (.pair (.int .i64) (.pair (.int .i64) (.pair .str (.int .i64)))))))
abbrev dW:SD:=.one (.clo 1000090)
abbrev uW:SO:=.clo 103 [.ref 1000100 0] []
abbrev uX:SO:=.clo 123 [.ref 1000100 0] []
abbrev VQ:SO:=.box [.val (.int .i64),.val (.int .i64),.val .str,.val (.int .i64),.val (.sl (.st (.node (.pair (.int .i64) (.pair (.int .i64) (.pair .str (.int .i64)))))))]
abbrev D3:SD:=.one (.ref 6 0)
abbrev D4:SD:=.one (.ref 7 0)
abbrev uY:SD:=.one (.ref 8 0)
abbrev uZ:SD:=.one (.ref 5 0)
def jy.qj.pre:Sj:=⟨[(0,VP)],[(1000100,kc)]⟩
def jy.qj.post:Sj:=⟨[(0,VM)],[(1000100,kc)]⟩
def jy.qj.post2:Sj:=⟨[(0,Vo)],[(1000100,kc)]⟩
def Jl.qj.pre:Sj:=⟨[(0,VP)],[(1000100,kc)]⟩
def Jl.qj.post:Sj:=⟨[(0,VM)],[(1000100,kc)]⟩
def Jl.qj.post2:Sj:=⟨[(0,Vo)],[(1000100,kc)]⟩
def ji.qj.pre:Sj:=⟨[(0,VP),(1,iI),(2,dW)],[(1000090,uW),(1000100,kc)]⟩
def ji.qj.post:Sj:=⟨[(0,VM)],[(1000090,uW),(1000100,kc)]⟩
def ji.qj.post2:Sj:=⟨[(0,Vo)],[(1000090,uW),(1000100,kc)]⟩
def jU.qj.pre:Sj:=⟨[(0,VP)],[(1000100,kc)]⟩
def jU.qj.post:Sj:=⟨[(0,VM)],[(1000100,kc)]⟩
def jU.qj.post2:Sj:=⟨[(0,Vo)],[(1000100,kc)]⟩
def jj.qj.pre:Sj:=⟨[(0,VP),(1,iI),(2,dW)],[(1000090,uX),(1000100,kc)]⟩
def jj.qj.post:Sj:=⟨[(0,VM)],[(1000090,uX),(1000100,kc)]⟩
def jj.qj.post2:Sj:=⟨[(0,Vo)],[(1000090,uX),(1000100,kc)]⟩
def jv.qj.pre:Sj:=⟨[(0,VP)],[(1000100,kc)]⟩
def jv.qj.post:Sj:=⟨[(0,VM)],[(1000100,kc)]⟩
def jv.qj.post2:Sj:=⟨[(0,Vo)],[(1000100,kc)]⟩
def Jg.qj.pre:Sj:=⟨[(0,VP)],[(1000100,kc)]⟩
def Jg.qj.post:Sj:=⟨[(0,VM)],[(1000100,kc)]⟩
def Jg.qj.post2:Sj:=⟨[(0,Vo)],[(1000100,kc)]⟩
class JC.Self where
  F_tongue_parser_expr_b:jq jy.qj.pre.tys→Option (jq jy.qj.post.tys⊕jq jy.qj.post2.tys)
  ok_tongue_parser_expr_b:uj Zh 28 ⟨28,jy.qj.pre,jy.qj.post,true,jy.qj.post2,F_tongue_parser_expr_b⟩
  F_tongue_parser_sum_b:jq Jl.qj.pre.tys→Option (jq Jl.qj.post.tys⊕jq Jl.qj.post2.tys)
  ok_tongue_parser_sum_b:uj Zh 60 ⟨60,Jl.qj.pre,Jl.qj.post,true,Jl.qj.post2,F_tongue_parser_sum_b⟩
  F_tongue_parser_chain__product_b:jq ji.qj.pre.tys→Option (jq ji.qj.post.tys⊕jq ji.qj.post2.tys)
  ok_tongue_parser_chain__product_b:uj Zh 102 ⟨102,ji.qj.pre,ji.qj.post,true,ji.qj.post2,F_tongue_parser_chain__product_b⟩
  F_tongue_parser_product_b:jq jU.qj.pre.tys→Option (jq jU.qj.post.tys⊕jq jU.qj.post2.tys)
  ok_tongue_parser_product_b:uj Zh 103 ⟨103,jU.qj.pre,jU.qj.post,true,jU.qj.post2,F_tongue_parser_product_b⟩
  F_tongue_parser_chain__unary_b:jq jj.qj.pre.tys→Option (jq jj.qj.post.tys⊕jq jj.qj.post2.tys)
  ok_tongue_parser_chain__unary_b:uj Zh 102 ⟨102,jj.qj.pre,jj.qj.post,true,jj.qj.post2,F_tongue_parser_chain__unary_b⟩
  F_tongue_parser_unary_b:jq jv.qj.pre.tys→Option (jq jv.qj.post.tys⊕jq jv.qj.post2.tys)
  ok_tongue_parser_unary_b:uj Zh 123 ⟨123,jv.qj.pre,jv.qj.post,true,jv.qj.post2,F_tongue_parser_unary_b⟩
  F_tongue_parser_atom_b:jq Jg.qj.pre.tys→Option (jq Jg.qj.post.tys⊕jq Jg.qj.post2.tys)
  ok_tongue_parser_atom_b:uj Zh 131 ⟨131,Jg.qj.pre,Jg.qj.post,true,Jg.qj.post2,F_tongue_parser_atom_b⟩
section
variable [JC.Self]
def jy.qj (X:jq jy.qj.pre.tys):Option (jq jy.qj.post.tys⊕jq jy.qj.post2.tys):=JC.Self.F_tongue_parser_expr_b X
def jy.qj.ma:MAlt:=⟨28,jy.qj.pre,jy.qj.post,true,jy.qj.post2,fun X=>jy.qj X⟩
def jy.qj.ok:uj Zh 28 jy.qj.ma:=JC.Self.ok_tongue_parser_expr_b
def Jl.qj (X:jq Jl.qj.pre.tys):Option (jq Jl.qj.post.tys⊕jq Jl.qj.post2.tys):=JC.Self.F_tongue_parser_sum_b X
def Jl.qj.ma:MAlt:=⟨60,Jl.qj.pre,Jl.qj.post,true,Jl.qj.post2,fun X=>Jl.qj X⟩
def Jl.qj.ok:uj Zh 60 Jl.qj.ma:=JC.Self.ok_tongue_parser_sum_b
def ji.qj (X:jq ji.qj.pre.tys):Option (jq ji.qj.post.tys⊕jq ji.qj.post2.tys):=JC.Self.F_tongue_parser_chain__product_b X
def ji.qj.ma:MAlt:=⟨102,ji.qj.pre,ji.qj.post,true,ji.qj.post2,fun X=>ji.qj X⟩
def ji.qj.ok:uj Zh 102 ji.qj.ma:=JC.Self.ok_tongue_parser_chain__product_b
def jU.qj (X:jq jU.qj.pre.tys):Option (jq jU.qj.post.tys⊕jq jU.qj.post2.tys):=JC.Self.F_tongue_parser_product_b X
def jU.qj.ma:MAlt:=⟨103,jU.qj.pre,jU.qj.post,true,jU.qj.post2,fun X=>jU.qj X⟩
def jU.qj.ok:uj Zh 103 jU.qj.ma:=JC.Self.ok_tongue_parser_product_b
def jj.qj (X:jq jj.qj.pre.tys):Option (jq jj.qj.post.tys⊕jq jj.qj.post2.tys):=JC.Self.F_tongue_parser_chain__unary_b X
def jj.qj.ma:MAlt:=⟨102,jj.qj.pre,jj.qj.post,true,jj.qj.post2,fun X=>jj.qj X⟩
def jj.qj.ok:uj Zh 102 jj.qj.ma:=JC.Self.ok_tongue_parser_chain__unary_b
def jv.qj (X:jq jv.qj.pre.tys):Option (jq jv.qj.post.tys⊕jq jv.qj.post2.tys):=JC.Self.F_tongue_parser_unary_b X
def jv.qj.ma:MAlt:=⟨123,jv.qj.pre,jv.qj.post,true,jv.qj.post2,fun X=>jv.qj X⟩
def jv.qj.ok:uj Zh 123 jv.qj.ma:=JC.Self.ok_tongue_parser_unary_b
def Jg.qj (X:jq Jg.qj.pre.tys):Option (jq Jg.qj.post.tys⊕jq Jg.qj.post2.tys):=JC.Self.F_tongue_parser_atom_b X
def Jg.qj.ma:MAlt:=⟨131,Jg.qj.pre,Jg.qj.post,true,Jg.qj.post2,fun X=>Jg.qj X⟩
def Jg.qj.ok:uj Zh 131 Jg.qj.ma:=JC.Self.ok_tongue_parser_atom_b
def jy.pre:Sj:=⟨[(0,VP)],[(1000100,kc)]⟩
def jy.c2 {ρ:Type} (uc:Int)(ud:Za)(Z:Bool→Option ρ):Option ρ:= br (uc==4) (jc (Jz ud) fun y=>Z (y==1)) (Z false)
def jy.c2s:Sj:=((((jy.pre.s 2 rF).s 3 fV).o 2 VQ).o 3 VQ)
def jy.c2r:RC:=⟨jy.c2s,[((jy.c2s.s 21 Nj),0,[101])],no,[12,13],fun _=>jy.c2,fun _ _ _ _=>jt (jb fun _=>ja) ja⟩
def jy.c4 {ρ:Type} (a0:Int)(a1:Int)(a2:Za)(a3:Int)(a4:Ze)(t0:Int)(t1:Za)(t2:Int)(ua:Za)(ub:Int)(uc:Int)(ud:Za)(ue:Int)(Z:(Int×Int×Za×Int×Ze×Za×Int×Int×Za×Int)⊕(Int×Za×Int×Int×Za×Int)→Option ρ):Option ρ:= jc (Jl.qj (ua,ub,uc,ud,ue,())) fun y=>sel y (fun u=>jc (Yv (t0,t1,t2) (Rose.mk (a0,a1,a2,a3) a4) u.1) fun y1=>Z (.inl (y1.hQ.1,y1.hQ.2.1,y1.hQ.2.2.1,y1.hQ.2.2.2,y1.kQ,u.2.1,u.2.2.1,u.2.2.2.1,u.2.2.2.2.1,u.2.2.2.2.2.1))) (fun v=>Z (.inr (v.1,v.2.1,v.2.2.1,v.2.2.2.1,v.2.2.2.2.1,v.2.2.2.2.2.1)))
def jy.c4s:Sj:=((jy.c2s.s 4 pD).o 4 UB)
def jy.c4r:RC:=⟨jy.c4s,[(jy.c4s,0,[205,8,205]),((((((jy.c4s.d 0).d 2).d 3).d 4).o 900001 Hi),1000000,[13,205,101])],no,[5,6,7,8,9,10,11,12,13,14,15,16,17],fun _=>jy.c4,fun _ _ _ _ _ _ _ _ _ _ _ _ _ _ _=>jb fun _=>(kw (fun _=>(jb fun _=>ja)) (fun _=>ja))⟩
def jy (ua:Za) (ub:Int) (uc:Int) (ud:Za) (ue:Int):Option ((Zd×Za×Int×Int×Za×Int×Unit)⊕(Int×Za×Int×Int×Za×Int×Unit)):= jc (Jl.qj (ua,ub,uc,ud,ue,())) fun y=>sel y (fun u=>jc (jy.c2 u.2.2.2.1 u.2.2.2.2.1 some) fun y1=>br y1 (jc (jR u.2.1 u.2.2.1 u.2.2.2.1 u.2.2.2.2.1 u.2.2.2.2.2.1) fun y2=>jc (jy.c4 u.1.hQ.1 u.1.hQ.2.1 u.1.hQ.2.2.1 u.1.hQ.2.2.2 u.1.kQ y2.1.1 y2.1.2.1 y2.1.2.2 y2.2.1 y2.2.2.1 y2.2.2.2.1 y2.2.2.2.2.1 y2.2.2.2.2.2.1 some) fun y3=>sel y3 (fun u_1=>some (Sum.inl (Rose.mk (u_1.1,u_1.2.1,u_1.2.2.1,u_1.2.2.2.1) u_1.2.2.2.2.1,u_1.2.2.2.2.2.1,u_1.2.2.2.2.2.2.1,u_1.2.2.2.2.2.2.2.1,u_1.2.2.2.2.2.2.2.2.1,u_1.2.2.2.2.2.2.2.2.2,()))) (fun v_1=>some (Sum.inr (v_1.1,v_1.2.1,v_1.2.2.1,v_1.2.2.2.1,v_1.2.2.2.2.1,v_1.2.2.2.2.2,())))) (some (Sum.inl (Rose.mk (u.1.hQ.1,u.1.hQ.2.1,u.1.hQ.2.2.1,u.1.hQ.2.2.2) u.1.kQ,u.2.1,u.2.2.1,u.2.2.2.1,u.2.2.2.2.1,u.2.2.2.2.2.1,())))) (fun v=>some (Sum.inr (v.1,v.2.1,v.2.2.1,v.2.2.2.1,v.2.2.2.2.1,v.2.2.2.2.2.1,())))
def jy.ma:MAlt:=⟨28,jy.pre,⟨[(0,VM)],[(1000100,kc)]⟩,true,⟨[(0,Vo)],[(1000100,kc)]⟩,fun X=>jy X.1 X.2.1 X.2.2.1 X.2.2.2.1 (q4 X).1⟩
def jy.G:EB Zh:=⟨tb,Tryz.f28,[⟨61,Jz.ce,Jz.ok⟩,⟨62,Yv.ce,Yv.ok⟩],[0,2,3,4,21],[1000100],[(4,[(3,[1000100]),(5,[2])])],[(4,jy.c4r.ck),(2,jy.c2r.ck)],[⟨14,jR.mc,jR.ok⟩],[⟨60,Jl.qj.ma,Jl.qj.ok⟩]⟩
def jy.ok:uj Zh 28 jy.ma:=Hw jy.G (ma:=jy.ma) Tryz.func28 (m:=2) ⟨⟨trivial,kR jy.c2r⟩,kR jy.c4r⟩
def Jl (ua:Za) (ub:Int) (uc:Int) (ud:Za) (ue:Int):Option ((Zd×Za×Int×Int×Za×Int×Unit)⊕(Int×Za×Int×Int×Za×Int×Unit)):= jc (ji.qj ((2:Int),ua,ub,uc,ud,ue,())) fun y=>sel y (fun u=>some (Sum.inl (Rose.mk (u.1.hQ.1,u.1.hQ.2.1,u.1.hQ.2.2.1,u.1.hQ.2.2.2) u.1.kQ,u.2.1,u.2.2.1,u.2.2.2.1,u.2.2.2.2.1,u.2.2.2.2.2.1,()))) (fun v=>some (Sum.inr (v.1,v.2.1,v.2.2.1,v.2.2.2.1,v.2.2.2.2.1,v.2.2.2.2.2.1,())))
def Jl.ma:MAlt:=⟨60,⟨[(0,VP)],[(1000100,kc)]⟩,⟨[(0,VM)],[(1000100,kc)]⟩,true,⟨[(0,Vo)],[(1000100,kc)]⟩,fun X=>Jl X.1 X.2.1 X.2.2.1 X.2.2.2.1 (q4 X).1⟩
def Jl.G:EB Zh:=⟨tb,Tryz.f60,[],[0,2],[1000100],[],[],[],[⟨102,ji.qj.ma,ji.qj.ok⟩]⟩
def Jl.ok:uj Zh 60 Jl.ma:=Hw Jl.G (ma:=Jl.ma) Tryz.func60 (m:=0) trivial
def ji.pre:Sj:=⟨[(0,VP),(1,iI),(2,dW)],[(1000090,uW),(1000100,kc)]⟩
def ji.c2 {ρ:Type} (of:Int)(uc:Int)(ud:Za)(Z:Bool→Option ρ):Option ρ:= br (uc==4) (jc (Jz ud) fun y=>Z (y==of)) (Z false)
def ji.c2s:Sj:=((((ji.pre.s 6 D3).s 7 D4).o 6 VQ).o 7 VQ)
def ji.c2r:RC:=⟨ji.c2s,[((ji.c2s.s 26 Nj),0,[1,101])],no,[0,13,14],fun _=>ji.c2,fun _ _ _ _ _=>jt (jb fun _=>ja) ja⟩
def ji.c4 {ρ:Type} (a0:Int)(a1:Int)(a2:Za)(a3:Int)(a4:Ze)(t0:Int)(t1:Za)(t2:Int)(ua:Za)(ub:Int)(uc:Int)(ud:Za)(ue:Int)(Z:(Int×Int×Za×Int×Ze×Za×Int×Int×Za×Int)⊕(Int×Za×Int×Int×Za×Int)→Option ρ):Option ρ:= jc (jU.qj (ua,ub,uc,ud,ue,())) fun y=>sel y (fun u=>jc (Yv (t0,t1,t2) (Rose.mk (a0,a1,a2,a3) a4) u.1) fun y1=>Z (.inl (y1.hQ.1,y1.hQ.2.1,y1.hQ.2.2.1,y1.hQ.2.2.2,y1.kQ,u.2.1,u.2.2.1,u.2.2.2.1,u.2.2.2.2.1,u.2.2.2.2.2.1))) (fun v=>Z (.inr (v.1,v.2.1,v.2.2.1,v.2.2.2.1,v.2.2.2.2.1,v.2.2.2.2.2.1)))
def ji.c4s:Sj:=((ji.c2s.s 8 uY).o 8 UB)
def ji.c4x1:Sj:=(((((((ji.c4s.d 0).d 1).d 2).d 6).d 7).d 8).o 900001 Hi)
def ji.c4r:RC:=⟨ji.c4s,[(ji.c4s,0,[6,205,3,205]),(ji.c4x1,1000000,[301,13,205,101])],no,[6,7,8,9,10,11,12,13,14,15,16,17,18],fun _=>ji.c4,fun _ _ _ _ _ _ _ _ _ _ _ _ _ _ _=>jb fun _=>(kw (fun _=>(jb fun _=>ja)) (fun _=>ja))⟩
def ji.ca_ {ρ:Type} (of:Int)(a0:Int)(a1:Int)(a2:Za)(a3:Int)(a4:Ze)(ua:Za)(ub:Int)(uc:Int)(ud:Za)(ue:Int)(Z:(Int×Int×Za×Int×Ze×Za×Int×Int×Za×Int)⊕((Int×Int×Za×Int×Ze×Int×Za×Int×Int×Za×Int)⊕(Int×Int×Za×Int×Ze×Za×Int×Int×Za×Int))→Option ρ):Option ρ:= jc (ji.c2 of uc ud some) fun y=>br y (jc (jR ua ub uc ud ue) fun y1=>jc (ji.c4 a0 a1 a2 a3 a4 y1.1.1 y1.1.2.1 y1.1.2.2 y1.2.1 y1.2.2.1 y1.2.2.2.1 y1.2.2.2.2.1 y1.2.2.2.2.2.1 some) fun y2=>sel y2 (fun u=>Z (.inl (u.1,u.2.1,u.2.2.1,u.2.2.2.1,u.2.2.2.2.1,u.2.2.2.2.2.1,u.2.2.2.2.2.2.1,u.2.2.2.2.2.2.2.1,u.2.2.2.2.2.2.2.2.1,u.2.2.2.2.2.2.2.2.2))) (fun v=>Z (.inr (.inl (a0,a1,a2,a3,a4,v.1,v.2.1,v.2.2.1,v.2.2.2.1,v.2.2.2.2.1,v.2.2.2.2.2))))) (Z (.inr (.inr (a0,a1,a2,a3,a4,ua,ub,uc,ud,ue))))
def ji.ca_r:LC:=⟨ji.c2s,[((ji.c4x1.g 8),1000000,[301,5,210,101]),(ji.c2s,2,[6,210])],no,[6,7,8,9,10,11,12,13,14,15],[0,6,7,8,9,10,11,12,13,14,15],fun _=>ji.ca_,fun _ _ _ _ _ _ _ _ _ _ _ _ _=>jb fun _=>(jt (jb fun _=>(jb fun _=>(kw (fun _=>ja) (fun _=>ja)))) ja)⟩
def ji (of:Int) (ua:Za) (ub:Int) (uc:Int) (ud:Za) (ue:Int):Option ((Zd×Za×Int×Int×Za×Int×Unit)⊕(Int×Za×Int×Int×Za×Int×Unit)):= jc (jU.qj (ua,ub,uc,ud,ue,())) fun y=>sel y (fun u=>jc (iter (fun s↦ji.ca_ of s.1 s.2.1 s.2.2.1 s.2.2.2.1 s.2.2.2.2.1 s.2.2.2.2.2.1 s.2.2.2.2.2.2.1 s.2.2.2.2.2.2.2.1 s.2.2.2.2.2.2.2.2.1 s.2.2.2.2.2.2.2.2.2 some) (u.1.hQ.1,u.1.hQ.2.1,u.1.hQ.2.2.1,u.1.hQ.2.2.2,Rose.kQ u.1,u.2.1,u.2.2.1,u.2.2.2.1,u.2.2.2.2.1,u.2.2.2.2.2.1)) fun y1=>sel y1 (fun u_1=>some (Sum.inr (u_1.2.2.2.2.2.1,u_1.2.2.2.2.2.2.1,u_1.2.2.2.2.2.2.2.1,u_1.2.2.2.2.2.2.2.2.1,u_1.2.2.2.2.2.2.2.2.2.1,u_1.2.2.2.2.2.2.2.2.2.2,()))) (fun v_1=>some (Sum.inl (Rose.mk (v_1.1,v_1.2.1,v_1.2.2.1,v_1.2.2.2.1) v_1.2.2.2.2.1,v_1.2.2.2.2.2.1,v_1.2.2.2.2.2.2.1,v_1.2.2.2.2.2.2.2.1,v_1.2.2.2.2.2.2.2.2.1,v_1.2.2.2.2.2.2.2.2.2,())))) (fun v=>some (Sum.inr (v.1,v.2.1,v.2.2.1,v.2.2.2.1,v.2.2.2.2.1,v.2.2.2.2.2.1,())))
def ji.ma:MAlt:=⟨102,ji.pre,⟨[(0,VM)],[(1000090,uW),(1000100,kc)]⟩,true,⟨[(0,Vo)],[(1000090,uW),(1000100,kc)]⟩,fun X=>ji X.1 X.2.1 X.2.2.1 X.2.2.2.1 (q4 X).1 (q4 X).2.1⟩
def ji.G:EB Zh:=⟨tb,Tryz.f102,[⟨61,Jz.ce,Jz.ok⟩,⟨62,Yv.ce,Yv.ok⟩],[0,1,2,6,7,8,26],[1000100],[(4,[(3,[1000100]),(5,[7])])],[(100002,ji.ca_r.ck),(4,ji.c4r.ck),(2,ji.c2r.ck)],[⟨14,jR.mc,jR.ok⟩],[⟨103,jU.qj.ma,jU.qj.ok⟩]⟩
def ji.ok:uj Zh 102 ji.ma:=Hw ji.G (ma:=ji.ma) Tryz.func102 (m:=3) ⟨⟨⟨trivial,kL ji.ca_r⟩,kR ji.c2r⟩,kR ji.c4r⟩
def jU (ua:Za) (ub:Int) (uc:Int) (ud:Za) (ue:Int):Option ((Zd×Za×Int×Int×Za×Int×Unit)⊕(Int×Za×Int×Int×Za×Int×Unit)):= jc (jj.qj ((3:Int),ua,ub,uc,ud,ue,())) fun y=>sel y (fun u=>some (Sum.inl (Rose.mk (u.1.hQ.1,u.1.hQ.2.1,u.1.hQ.2.2.1,u.1.hQ.2.2.2) u.1.kQ,u.2.1,u.2.2.1,u.2.2.2.1,u.2.2.2.2.1,u.2.2.2.2.2.1,()))) (fun v=>some (Sum.inr (v.1,v.2.1,v.2.2.1,v.2.2.2.1,v.2.2.2.2.1,v.2.2.2.2.2.1,())))
def jU.ma:MAlt:=⟨103,⟨[(0,VP)],[(1000100,kc)]⟩,⟨[(0,VM)],[(1000100,kc)]⟩,true,⟨[(0,Vo)],[(1000100,kc)]⟩,fun X=>jU X.1 X.2.1 X.2.2.1 X.2.2.2.1 (q4 X).1⟩
def jU.G:EB Zh:=⟨tb,Tryz.f103,[],[0,2],[1000100],[],[],[],[⟨102,jj.qj.ma,jj.qj.ok⟩]⟩
def jU.ok:uj Zh 103 jU.ma:=Hw jU.G (ma:=jU.ma) Tryz.func103 (m:=0) trivial
def jj.pre:Sj:=⟨[(0,VP),(1,iI),(2,dW)],[(1000090,uX),(1000100,kc)]⟩
def jj.c2 {ρ:Type} (of:Int)(uc:Int)(ud:Za)(Z:Bool→Option ρ):Option ρ:= br (uc==4) (jc (Jz ud) fun y=>Z (y==of)) (Z false)
def jj.c2s:Sj:=((((jj.pre.s 6 D3).s 7 D4).o 6 VQ).o 7 VQ)
def jj.c2r:RC:=⟨jj.c2s,[((jj.c2s.s 26 Nj),0,[1,101])],no,[0,13,14],fun _=>jj.c2,fun _ _ _ _ _=>jt (jb fun _=>ja) ja⟩
def jj.c4 {ρ:Type} (a0:Int)(a1:Int)(a2:Za)(a3:Int)(a4:Ze)(t0:Int)(t1:Za)(t2:Int)(ua:Za)(ub:Int)(uc:Int)(ud:Za)(ue:Int)(Z:(Int×Int×Za×Int×Ze×Za×Int×Int×Za×Int)⊕(Int×Za×Int×Int×Za×Int)→Option ρ):Option ρ:= jc (jv.qj (ua,ub,uc,ud,ue,())) fun y=>sel y (fun u=>jc (Yv (t0,t1,t2) (Rose.mk (a0,a1,a2,a3) a4) u.1) fun y1=>Z (.inl (y1.hQ.1,y1.hQ.2.1,y1.hQ.2.2.1,y1.hQ.2.2.2,y1.kQ,u.2.1,u.2.2.1,u.2.2.2.1,u.2.2.2.2.1,u.2.2.2.2.2.1))) (fun v=>Z (.inr (v.1,v.2.1,v.2.2.1,v.2.2.2.1,v.2.2.2.2.1,v.2.2.2.2.2.1)))
def jj.c4s:Sj:=((jj.c2s.s 8 uY).o 8 UB)
def jj.c4x1:Sj:=(((((((jj.c4s.d 0).d 1).d 2).d 6).d 7).d 8).o 900001 Hi)
def jj.c4r:RC:=⟨jj.c4s,[(jj.c4s,0,[6,205,3,205]),(jj.c4x1,1000000,[301,13,205,101])],no,[6,7,8,9,10,11,12,13,14,15,16,17,18],fun _=>jj.c4,fun _ _ _ _ _ _ _ _ _ _ _ _ _ _ _=>jb fun _=>(kw (fun _=>(jb fun _=>ja)) (fun _=>ja))⟩
def jj.ca_ {ρ:Type} (of:Int)(a0:Int)(a1:Int)(a2:Za)(a3:Int)(a4:Ze)(ua:Za)(ub:Int)(uc:Int)(ud:Za)(ue:Int)(Z:(Int×Int×Za×Int×Ze×Za×Int×Int×Za×Int)⊕((Int×Int×Za×Int×Ze×Int×Za×Int×Int×Za×Int)⊕(Int×Int×Za×Int×Ze×Za×Int×Int×Za×Int))→Option ρ):Option ρ:= jc (jj.c2 of uc ud some) fun y=>br y (jc (jR ua ub uc ud ue) fun y1=>jc (jj.c4 a0 a1 a2 a3 a4 y1.1.1 y1.1.2.1 y1.1.2.2 y1.2.1 y1.2.2.1 y1.2.2.2.1 y1.2.2.2.2.1 y1.2.2.2.2.2.1 some) fun y2=>sel y2 (fun u=>Z (.inl (u.1,u.2.1,u.2.2.1,u.2.2.2.1,u.2.2.2.2.1,u.2.2.2.2.2.1,u.2.2.2.2.2.2.1,u.2.2.2.2.2.2.2.1,u.2.2.2.2.2.2.2.2.1,u.2.2.2.2.2.2.2.2.2))) (fun v=>Z (.inr (.inl (a0,a1,a2,a3,a4,v.1,v.2.1,v.2.2.1,v.2.2.2.1,v.2.2.2.2.1,v.2.2.2.2.2))))) (Z (.inr (.inr (a0,a1,a2,a3,a4,ua,ub,uc,ud,ue))))
def jj.ca_r:LC:=⟨jj.c2s,[((jj.c4x1.g 8),1000000,[301,5,210,101]),(jj.c2s,2,[6,210])],no,[6,7,8,9,10,11,12,13,14,15],[0,6,7,8,9,10,11,12,13,14,15],fun _=>jj.ca_,fun _ _ _ _ _ _ _ _ _ _ _ _ _=>jb fun _=>(jt (jb fun _=>(jb fun _=>(kw (fun _=>ja) (fun _=>ja)))) ja)⟩
def jj (of:Int) (ua:Za) (ub:Int) (uc:Int) (ud:Za) (ue:Int):Option ((Zd×Za×Int×Int×Za×Int×Unit)⊕(Int×Za×Int×Int×Za×Int×Unit)):= jc (jv.qj (ua,ub,uc,ud,ue,())) fun y=>sel y (fun u=>jc (iter (fun s↦jj.ca_ of s.1 s.2.1 s.2.2.1 s.2.2.2.1 s.2.2.2.2.1 s.2.2.2.2.2.1 s.2.2.2.2.2.2.1 s.2.2.2.2.2.2.2.1 s.2.2.2.2.2.2.2.2.1 s.2.2.2.2.2.2.2.2.2 some) (u.1.hQ.1,u.1.hQ.2.1,u.1.hQ.2.2.1,u.1.hQ.2.2.2,Rose.kQ u.1,u.2.1,u.2.2.1,u.2.2.2.1,u.2.2.2.2.1,u.2.2.2.2.2.1)) fun y1=>sel y1 (fun u_1=>some (Sum.inr (u_1.2.2.2.2.2.1,u_1.2.2.2.2.2.2.1,u_1.2.2.2.2.2.2.2.1,u_1.2.2.2.2.2.2.2.2.1,u_1.2.2.2.2.2.2.2.2.2.1,u_1.2.2.2.2.2.2.2.2.2.2,()))) (fun v_1=>some (Sum.inl (Rose.mk (v_1.1,v_1.2.1,v_1.2.2.1,v_1.2.2.2.1) v_1.2.2.2.2.1,v_1.2.2.2.2.2.1,v_1.2.2.2.2.2.2.1,v_1.2.2.2.2.2.2.2.1,v_1.2.2.2.2.2.2.2.2.1,v_1.2.2.2.2.2.2.2.2.2,())))) (fun v=>some (Sum.inr (v.1,v.2.1,v.2.2.1,v.2.2.2.1,v.2.2.2.2.1,v.2.2.2.2.2.1,())))
def jj.ma:MAlt:=⟨102,jj.pre,⟨[(0,VM)],[(1000090,uX),(1000100,kc)]⟩,true,⟨[(0,Vo)],[(1000090,uX),(1000100,kc)]⟩,fun X=>jj X.1 X.2.1 X.2.2.1 X.2.2.2.1 (q4 X).1 (q4 X).2.1⟩
def jj.G:EB Zh:=⟨tb,Tryz.f102,[⟨61,Jz.ce,Jz.ok⟩,⟨62,Yv.ce,Yv.ok⟩],[0,1,2,6,7,8,26],[1000100],[(4,[(3,[1000100]),(5,[7])])],[(100002,jj.ca_r.ck),(4,jj.c4r.ck),(2,jj.c2r.ck)],[⟨14,jR.mc,jR.ok⟩],[⟨123,jv.qj.ma,jv.qj.ok⟩]⟩
def jj.ok:uj Zh 102 jj.ma:=Hw jj.G (ma:=jj.ma) Tryz.func102 (m:=3) ⟨⟨⟨trivial,kL jj.ca_r⟩,kR jj.c2r⟩,kR jj.c4r⟩
def jv.pre:Sj:=⟨[(0,VP)],[(1000100,kc)]⟩
def jv.c3 {ρ:Type} (t0:Int)(t1:Za)(t2:Int)(ua:Za)(ub:Int)(uc:Int)(ud:Za)(ue:Int)(Z:(Int×Int×Za×Int×Ze×Za×Int×Int×Za×Int)⊕(Int×Za×Int×Int×Za×Int)→Option ρ):Option ρ:= jc (jv.qj (ua,ub,uc,ud,ue,())) fun y=>sel y (fun u=>jc (kB (23:Int) (t0,t1,t2) [u.1]) fun y1=>Z (.inl (y1.hQ.1,y1.hQ.2.1,y1.hQ.2.2.1,y1.hQ.2.2.2,y1.kQ,u.2.1,u.2.2.1,u.2.2.2.1,u.2.2.2.2.1,u.2.2.2.2.2.1))) (fun v=>Z (.inr (v.1,v.2.1,v.2.2.1,v.2.2.2.1,v.2.2.2.2.1,v.2.2.2.2.2.1)))
def jv.c3s:Sj:=((((jv.pre.s 2 rF).s 3 fV).o 2 VQ).o 3 UB)
def jv.c3x1:Sj:=((((jv.c3s.d 0).d 2).d 3).o 900001 Hi)
def jv.c3r:RC:=⟨jv.c3s,[(jv.c3s,0,[205,3,205]),(jv.c3x1,1000000,[8,205,101])],no,[5,6,7,8,9,10,11,12],fun _=>jv.c3,fun _ _ _ _ _ _ _ _ _ _=>jb fun _=>(kw (fun _=>(jb fun _=>ja)) (fun _=>ja))⟩
def jv.c7 {ρ:Type} (a0:Int)(a1:Int)(a2:Za)(a3:Int)(a4:Ze)(t0_1:Int)(t1_1:Za)(t2_1:Int)(ua:Za)(ub:Int)(uc:Int)(ud:Za)(ue:Int)(Z:(Int×Int×Za×Int×Ze×Za×Int×Int×Za×Int)⊕(Int×Za×Int×Int×Za×Int)→Option ρ):Option ρ:= jc (jv.qj (ua,ub,uc,ud,ue,())) fun y=>sel y (fun u=>jc (Yv (t0_1,t1_1,t2_1) (Rose.mk (a0,a1,a2,a3) a4) u.1) fun y1=>Z (.inl (y1.hQ.1,y1.hQ.2.1,y1.hQ.2.2.1,y1.hQ.2.2.2,y1.kQ,u.2.1,u.2.2.1,u.2.2.2.1,u.2.2.2.2.1,u.2.2.2.2.2.1))) (fun v=>Z (.inr (v.1,v.2.1,v.2.2.1,v.2.2.2.1,v.2.2.2.2.1,v.2.2.2.2.2.1)))
def jv.c7s:Sj:=((((jv.c3s.s 4 pD).s 5 uZ).o 4 VQ).o 5 UB)
def jv.c7r:RC:=⟨jv.c7s,[(jv.c7s,0,[205,11,205]),(((jv.c3x1.o 4 VQ).o 5 UB),1000000,[16,205,101])],no,[8,9,10,11,12,13,14,15,16,17,18,19,20],fun _=>jv.c7,fun _ _ _ _ _ _ _ _ _ _ _ _ _ _ _=>jb fun _=>(kw (fun _=>(jb fun _=>ja)) (fun _=>ja))⟩
def jv (ua:Za) (ub:Int) (uc:Int) (ud:Za) (ue:Int):Option ((Zd×Za×Int×Int×Za×Int×Unit)⊕(Int×Za×Int×Int×Za×Int×Unit)):= jc (jz (Z9 [45]) ua ub uc ud ue) fun y=>br y.1 (jc (jv.c3 uc ud ue y.2.1 y.2.2.1 y.2.2.2.1 y.2.2.2.2.1 y.2.2.2.2.2.1 some) fun y1=>sel y1 (fun u=>some (Sum.inl (Rose.mk (u.1,u.2.1,u.2.2.1,u.2.2.2.1) u.2.2.2.2.1,u.2.2.2.2.2.1,u.2.2.2.2.2.2.1,u.2.2.2.2.2.2.2.1,u.2.2.2.2.2.2.2.2.1,u.2.2.2.2.2.2.2.2.2,()))) (fun v=>some (Sum.inr (v.1,v.2.1,v.2.2.1,v.2.2.2.1,v.2.2.2.2.1,v.2.2.2.2.2,())))) (jc (Jg.qj (y.2.1,y.2.2.1,y.2.2.2.1,y.2.2.2.2.1,y.2.2.2.2.2.1,())) fun y2=>sel y2 (fun u_1=>jc (jZ (Z9 [42,42]) u_1.2.1 u_1.2.2.1 u_1.2.2.2.1 u_1.2.2.2.2.1 u_1.2.2.2.2.2.1) fun y3=>br y3.1 (jc (jR y3.2.1 y3.2.2.1 y3.2.2.2.1 y3.2.2.2.2.1 y3.2.2.2.2.2.1) fun y4=>jc (jv.c7 u_1.1.hQ.1 u_1.1.hQ.2.1 u_1.1.hQ.2.2.1 u_1.1.hQ.2.2.2 u_1.1.kQ y4.1.1 y4.1.2.1 y4.1.2.2 y4.2.1 y4.2.2.1 y4.2.2.2.1 y4.2.2.2.2.1 y4.2.2.2.2.2.1 some) fun y5=>sel y5 (fun u_2=>some (Sum.inl (Rose.mk (u_2.1,u_2.2.1,u_2.2.2.1,u_2.2.2.2.1) u_2.2.2.2.2.1,u_2.2.2.2.2.2.1,u_2.2.2.2.2.2.2.1,u_2.2.2.2.2.2.2.2.1,u_2.2.2.2.2.2.2.2.2.1,u_2.2.2.2.2.2.2.2.2.2,()))) (fun v_2=>some (Sum.inr (v_2.1,v_2.2.1,v_2.2.2.1,v_2.2.2.2.1,v_2.2.2.2.2.1,v_2.2.2.2.2.2,())))) (some (Sum.inl (Rose.mk (u_1.1.hQ.1,u_1.1.hQ.2.1,u_1.1.hQ.2.2.1,u_1.1.hQ.2.2.2) u_1.1.kQ,y3.2.1,y3.2.2.1,y3.2.2.2.1,y3.2.2.2.2.1,y3.2.2.2.2.2.1,())))) (fun v_1=>some (Sum.inr (v_1.1,v_1.2.1,v_1.2.2.1,v_1.2.2.2.1,v_1.2.2.2.2.1,v_1.2.2.2.2.2.1,()))))
def jv.ma:MAlt:=⟨123,jv.pre,⟨[(0,VM)],[(1000100,kc)]⟩,true,⟨[(0,Vo)],[(1000100,kc)]⟩,fun X=>jv X.1 X.2.1 X.2.2.1 X.2.2.2.1 (q4 X).1⟩
def jv.G:EB Zh:=⟨tb,Tryz.f123,[⟨68,kB.ce,kB.ok⟩,⟨62,Yv.ce,Yv.ok⟩],[0,2,3,4,5,11,20],[1000100],[(7,[(3,[1000100]),(5,[2])]),(3,[(2,[1000100]),(3,[15]),(4,[15]),(5,[2])])],[(7,jv.c7r.ck),(3,jv.c3r.ck)],[⟨25,jz.mc,jz.ok⟩,⟨58,jZ.mc,jZ.ok⟩,⟨14,jR.mc,jR.ok⟩],[⟨123,jv.qj.ma,jv.qj.ok⟩,⟨131,Jg.qj.ma,Jg.qj.ok⟩]⟩
def jv.ok:uj Zh 123 jv.ma:=Hw jv.G (ma:=jv.ma) Tryz.func123 (m:=2) ⟨⟨trivial,kR jv.c3r⟩,kR jv.c7r⟩
def Jg (ua:Za) (ub:Int) (uc:Int) (ud:Za) (ue:Int):Option ((Zd×Za×Int×Int×Za×Int×Unit)⊕(Int×Za×Int×Int×Za×Int×Unit)):= br (uc==3) (jc (jR ua ub uc ud ue) fun y=>jc (Un ud) fun y1=>some (Sum.inl (Rose.mk ((20:Int),ue,[],y1.1) [],y.2.1,y.2.2.1,y.2.2.2.1,y.2.2.2.2.1,y.2.2.2.2.2.1,()))) (br (uc==1) (jc (jR ua ub uc ud ue) fun y2=>jc (ku (21:Int) (uc,ud,ue) (uc,ud,ue) []) fun y3=>some (Sum.inl (Rose.mk (y3.hQ.1,y3.hQ.2.1,y3.hQ.2.2.1,y3.hQ.2.2.2) y3.kQ,y2.2.1,y2.2.2.1,y2.2.2.2.1,y2.2.2.2.2.1,y2.2.2.2.2.2.1,()))) (jc (jz (Z9 [115,105,122,101]) ua ub uc ud ue) fun y4=>br y4.1 (jc (jA (Z9 [40]) y4.2.1 y4.2.2.1 y4.2.2.2.1 y4.2.2.2.2.1 y4.2.2.2.2.2.1) fun y5=>sel y5 (fun u=>jc (jS u.2.1 u.2.2.1 u.2.2.2.1 u.2.2.2.2.1 u.2.2.2.2.2.1) fun y6=>sel y6 (fun u_1=>jc (jA (Z9 [41]) u_1.2.1 u_1.2.2.1 u_1.2.2.2.1 u_1.2.2.2.2.1 u_1.2.2.2.2.2.1) fun y7=>sel y7 (fun u_2=>jc (ku (22:Int) (uc,ud,ue) (u_1.1.1,u_1.1.2.1,u_1.1.2.2) []) fun y8=>some (Sum.inl (Rose.mk (y8.hQ.1,y8.hQ.2.1,y8.hQ.2.2.1,y8.hQ.2.2.2) y8.kQ,u_2.2.1,u_2.2.2.1,u_2.2.2.2.1,u_2.2.2.2.2.1,u_2.2.2.2.2.2.1,()))) (fun v_2=>some (Sum.inr (v_2.1,v_2.2.1,v_2.2.2.1,v_2.2.2.2.1,v_2.2.2.2.2.1,v_2.2.2.2.2.2.1,())))) (fun v_1=>some (Sum.inr (v_1.1,v_1.2.1,v_1.2.2.1,v_1.2.2.2.1,v_1.2.2.2.2.1,v_1.2.2.2.2.2.1,())))) (fun v=>some (Sum.inr (v.1,v.2.1,v.2.2.1,v.2.2.2.1,v.2.2.2.2.1,v.2.2.2.2.2.1,())))) (jc (jA (Z9 [40]) y4.2.1 y4.2.2.1 y4.2.2.2.1 y4.2.2.2.2.1 y4.2.2.2.2.2.1) fun y9=>sel y9 (fun u_3=>jc (jy.qj (u_3.2.1,u_3.2.2.1,u_3.2.2.2.1,u_3.2.2.2.2.1,u_3.2.2.2.2.2.1,())) fun y10=>sel y10 (fun u_4=>jc (jA (Z9 [41]) u_4.2.1 u_4.2.2.1 u_4.2.2.2.1 u_4.2.2.2.2.1 u_4.2.2.2.2.2.1) fun y11=>sel y11 (fun u_5=>some (Sum.inl (Rose.mk (u_4.1.hQ.1,u_4.1.hQ.2.1,u_4.1.hQ.2.2.1,u_4.1.hQ.2.2.2) u_4.1.kQ,u_5.2.1,u_5.2.2.1,u_5.2.2.2.1,u_5.2.2.2.2.1,u_5.2.2.2.2.2.1,()))) (fun v_5=>some (Sum.inr (v_5.1,v_5.2.1,v_5.2.2.1,v_5.2.2.2.1,v_5.2.2.2.2.1,v_5.2.2.2.2.2.1,())))) (fun v_4=>some (Sum.inr (v_4.1,v_4.2.1,v_4.2.2.1,v_4.2.2.2.1,v_4.2.2.2.2.1,v_4.2.2.2.2.2.1,())))) (fun v_3=>some (Sum.inr (v_3.1,v_3.2.1,v_3.2.2.1,v_3.2.2.2.1,v_3.2.2.2.2.1,v_3.2.2.2.2.2.1,()))))))
def Jg.ma:MAlt:=⟨131,⟨[(0,VP)],[(1000100,kc)]⟩,⟨[(0,VM)],[(1000100,kc)]⟩,true,⟨[(0,Vo)],[(1000100,kc)]⟩,fun X=>Jg X.1 X.2.1 X.2.2.1 X.2.2.2.1 (q4 X).1⟩
def Jg.G:EB Zh:=⟨tb,Tryz.f131,[⟨136,Un.ce,Un.ok⟩,⟨29,ku.ce,ku.ok⟩],[0,2,3,4,6,7,12,28,37],[1000100],[],[],[⟨14,jR.mc,jR.ok⟩,⟨25,jz.mc,jz.ok⟩],[⟨27,jA.ma,jA.ok⟩,⟨26,jS.ma,jS.ok⟩,⟨28,jy.qj.ma,jy.qj.ok⟩]⟩
def Jg.ok:uj Zh 131 Jg.ma:=Hw Jg.G (ma:=Jg.ma) Tryz.func131 (m:=0) trivial
end
@[reducible] def JC.fuel:Nat→JC.Self
  | 0=>{ F_tongue_parser_expr_b:=fun _=>none,ok_tongue_parser_expr_b:=⟨⟨Tryz.f28,Tryz.func28,by kernel_rfl,by kernel_rfl⟩,fun _ _ _ _ _ _ _ hy=>by cases hy⟩,F_tongue_parser_sum_b:=fun _=>none,ok_tongue_parser_sum_b:=⟨⟨Tryz.f60,Tryz.func60,by kernel_rfl,by kernel_rfl⟩,fun _ _ _ _ _ _ _ hy=>by cases hy⟩,F_tongue_parser_chain__product_b:=fun _=>none,ok_tongue_parser_chain__product_b:=⟨⟨Tryz.f102,Tryz.func102,by kernel_rfl,by kernel_rfl⟩,fun _ _ _ _ _ _ _ hy=>by cases hy⟩,F_tongue_parser_product_b:=fun _=>none,ok_tongue_parser_product_b:=⟨⟨Tryz.f103,Tryz.func103,by kernel_rfl,by kernel_rfl⟩,fun _ _ _ _ _ _ _ hy=>by cases hy⟩,F_tongue_parser_chain__unary_b:=fun _=>none,ok_tongue_parser_chain__unary_b:=⟨⟨Tryz.f102,Tryz.func102,by kernel_rfl,by kernel_rfl⟩,fun _ _ _ _ _ _ _ hy=>by cases hy⟩,F_tongue_parser_unary_b:=fun _=>none,ok_tongue_parser_unary_b:=⟨⟨Tryz.f123,Tryz.func123,by kernel_rfl,by kernel_rfl⟩,fun _ _ _ _ _ _ _ hy=>by cases hy⟩,F_tongue_parser_atom_b:=fun _=>none,ok_tongue_parser_atom_b:=⟨⟨Tryz.f131,Tryz.func131,by kernel_rfl,by kernel_rfl⟩,fun _ _ _ _ _ _ _ hy=>by cases hy⟩ }
  | n+1=>{ F_tongue_parser_expr_b:=fun X=>(@jy.ma (JC.fuel n)).F X,ok_tongue_parser_expr_b:=@jy.ok (JC.fuel n),F_tongue_parser_sum_b:=fun X=>(@Jl.ma (JC.fuel n)).F X,ok_tongue_parser_sum_b:=@Jl.ok (JC.fuel n),F_tongue_parser_chain__product_b:=fun X=>(@ji.ma (JC.fuel n)).F X,ok_tongue_parser_chain__product_b:=@ji.ok (JC.fuel n),F_tongue_parser_product_b:=fun X=>(@jU.ma (JC.fuel n)).F X,ok_tongue_parser_product_b:=@jU.ok (JC.fuel n),F_tongue_parser_chain__unary_b:=fun X=>(@jj.ma (JC.fuel n)).F X,ok_tongue_parser_chain__unary_b:=@jj.ok (JC.fuel n),F_tongue_parser_unary_b:=fun X=>(@jv.ma (JC.fuel n)).F X,ok_tongue_parser_unary_b:=@jv.ok (JC.fuel n),F_tongue_parser_atom_b:=fun X=>(@Jg.ma (JC.fuel n)).F X,ok_tongue_parser_atom_b:=@Jg.ok (JC.fuel n) }
def kg (X:jq jy.qj.pre.tys):Option (jq jy.qj.post.tys⊕jq jy.qj.post2.tys):=(JC.fuel (1000000)).F_tongue_parser_expr_b X
def kg.ma:MAlt:=⟨28,jy.qj.pre,jy.qj.post,true,jy.qj.post2,fun X=>kg X⟩
def kg.ok:uj Zh 28 kg.ma:=(JC.fuel (1000000)).ok_tongue_parser_expr_b
abbrev Q6:SD:=.one (.ref 1000095 0)
abbrev eQ:SO:=.box [.ref 1000100 0]
def ky (ua:Za) (ub:Int) (uc:Int) (ud:Za) (ue:Int):Option ((Zd×Za×Int×Int×Za×Int×Unit)⊕(Int×Za×Int×Int×Za×Int×Unit)):= jc (jS ua ub uc ud ue) fun y=>sel y (fun u=>jc (ku (6:Int) (u.1.1,u.1.2.1,u.1.2.2) (u.1.1,u.1.2.1,u.1.2.2) []) fun y1=>some (Sum.inl (Rose.mk (y1.hQ.1,y1.hQ.2.1,y1.hQ.2.2.1,y1.hQ.2.2.2) y1.kQ,u.2.1,u.2.2.1,u.2.2.2.1,u.2.2.2.2.1,u.2.2.2.2.2.1,()))) (fun v=>some (Sum.inr (v.1,v.2.1,v.2.2.1,v.2.2.2.1,v.2.2.2.2.1,v.2.2.2.2.2.1,())))
def ky.ma:MAlt:=⟨64,⟨[(0,Q6)],[(1000095,eQ),(1000100,kc)]⟩,⟨[(0,VM)],[(1000095,eQ),(1000100,kc)]⟩,true,⟨[(0,Vo)],[(1000095,eQ),(1000100,kc)]⟩,fun X=>ky X.1 X.2.1 X.2.2.1 X.2.2.2.1 (q4 X).1⟩
def ky.G:EB Zh:=⟨tb,Tryz.f64,[⟨29,ku.ce,ku.ok⟩],[0,1,2],[1000095,1000100],[],[],[],[⟨26,jS.ma,jS.ok⟩]⟩
def ky.ok:uj Zh 64 ky.ma:=Hw ky.G (ma:=ky.ma) Tryz.func64 (m:=0) trivial
abbrev LU:SO:=.clo 64 [] [.ref 1000095 0]
abbrev dX:SD:=.one (.val (.sl (.st (.node (.pair (.int .i64) (.pair (.int .i64) (.pair .str (.int .i64))))))))
abbrev D5:SD:=.one (.own 8 0)
abbrev lQ:SO:=.arr 0 false 24 (.st (.node (.pair (.int .i64) (.pair (.int .i64) (.pair .str (.int .i64))))))
def JZ.pre:Sj:=⟨[(0,VP),(1,dW)],[(1000090,LU),(1000095,eQ),(1000100,kc)]⟩
def JZ.ca_ (t8:Ze)(ua:Za)(ub:Int)(uc:Int)(ud:Za)(ue:Int)(Z:(Ze×Za×Int×Int×Za×Int)⊕((Ze×Int×Za×Int×Int×Za×Int)⊕(Ze×Za×Int×Int×Za×Int))→Option ρ):Option ρ:= jc (jz (Z9 [44]) ua ub uc ud ue) fun y=>br y.1 (jc (ky y.2.1 y.2.2.1 y.2.2.2.1 y.2.2.2.2.1 y.2.2.2.2.2.1) fun y1=>sel y1 (fun u=>jc (Je (decide ((t8.length+1)*64≤140737488355328)&&decide (t8.length+1≤140737488355328))) fun y2=>Z (.inl ((t8++[u.1]),u.2.1,u.2.2.1,u.2.2.2.1,u.2.2.2.2.1,u.2.2.2.2.2.1))) (fun v=>Z (.inr (.inl (t8,v.1,v.2.1,v.2.2.1,v.2.2.2.1,v.2.2.2.2.1,v.2.2.2.2.2.1))))) (Z (.inr (.inr (t8,y.2.1,y.2.2.1,y.2.2.2.1,y.2.2.2.2.1,y.2.2.2.2.2.1))))
def JZ.ca_s:Sj:=(((JZ.pre.s 4 dX).s 5 D5).o 8 lQ)
def JZ.ca_r:LC:=⟨JZ.ca_s,[((JZ.ca_s.o 900001 Hi),1000000,[1,206,101]),(JZ.ca_s,2,[1,206])],no,[1,2,3,4,5,6],[1,2,3,4,5,6],@JZ.ca_,fun _ _ _ _ _ _ _ _=>jb fun _=>(jt (jb fun _=>(kw (fun _=>(jb fun _=>ja)) (fun _=>ja))) ja)⟩
def JZ (ua:Za) (ub:Int) (uc:Int) (ud:Za) (ue:Int):Option ((Ze×Za×Int×Int×Za×Int×Unit)⊕(Int×Za×Int×Int×Za×Int×Unit)):= jc (ky ua ub uc ud ue) fun y=>sel y (fun u=>jc (iter (fun s↦JZ.ca_ s.1 s.2.1 s.2.2.1 s.2.2.2.1 s.2.2.2.2.1 s.2.2.2.2.2 some) ([u.1],u.2.1,u.2.2.1,u.2.2.2.1,u.2.2.2.2.1,u.2.2.2.2.2.1)) fun y1=>sel y1 (fun u_1=>some (Sum.inr (u_1.2.1,u_1.2.2.1,u_1.2.2.2.1,u_1.2.2.2.2.1,u_1.2.2.2.2.2.1,u_1.2.2.2.2.2.2,()))) (fun v_1=>some (Sum.inl (v_1.1,v_1.2.1,v_1.2.2.1,v_1.2.2.2.1,v_1.2.2.2.2.1,v_1.2.2.2.2.2,())))) (fun v=>some (Sum.inr (v.1,v.2.1,v.2.2.1,v.2.2.2.1,v.2.2.2.2.1,v.2.2.2.2.2.1,())))
def JZ.ma:MAlt:=⟨63,JZ.pre,⟨[(0,dX)],[(1000090,LU),(1000095,eQ),(1000100,kc)]⟩,true,⟨[(0,Vo)],[(1000090,LU),(1000095,eQ),(1000100,kc)]⟩,fun X=>JZ X.1 X.2.1 X.2.2.1 X.2.2.2.1 (q4 X).1⟩
def JZ.G:EB Zh:=⟨tb,Tryz.f63,[],[0,1,4,5,10],[8,1000100],[],[(100002,JZ.ca_r.ck)],[⟨25,jz.mc,jz.ok⟩],[⟨64,ky.ma,ky.ok⟩]⟩
def JZ.ok:uj Zh 63 JZ.ma:=Hw JZ.G (ma:=JZ.ma) Tryz.func63 (m:=1) ⟨trivial,kL JZ.ca_r⟩
def Vm (l:Ze):Option Zd:= some (Rose.mk ((25:Int),(0:Int),[],(0:Int)) l)
def Vm.ce:=Vt tab Tryz.f66 Vm
def Vm.G:EB Zh:=⟨tb,Tryz.f66,[],[0,2],[],[],[],[],[]⟩
def Vm.ok:vj Zh 66 Vm.ce:=Uj Vm.G Tryz.func66 (m:=0) trivial
abbrev tg30:SD:=.one (.nilS)
abbrev tg31:SD:=.agg [.val (.int .i64),.val (.int .i64),.val .str,.val (.int .i64),.nilS]
def Yg (kind:Int) (t:Int×(Za×Int)):Option (Int×Int×Za×Int×Unit):= some (kind,t.2.2,[],(0:Int),())
def Yg.mc:xj:=⟨68,⟨[(0,iI),(1,nS),(2,tg30)],[]⟩,⟨[(0,tg31)],[]⟩,fun X=>Yg X.1 X.2.1⟩
def Yg.G:EB Zh:=⟨tb,Tryz.f68,[],[0,1,2,4,6],[],[],[],[],[]⟩
def Yg.ok:MOk Zh 68 Yg.mc:=Ub Yg.G (mc:=Yg.mc) Tryz.func68 (m:=0) trivial
abbrev tg32:SO:=.box [.val (.int .i64),.val (.int .i64),.val .str,.val (.int .i64),.own 13 0]
def jD.pre:Sj:=⟨[(0,VP),(1,nS)],[(1000100,kc)]⟩
def jD.c5 (t13:Ze)(ua:Za)(ub:Int)(uc:Int)(ud:Za)(ue:Int)(Z:(Ze×Za×Int×Int×Za×Int)⊕(Int×Za×Int×Int×Za×Int)→Option ρ):Option ρ:= jc (kg (ua,ub,uc,ud,ue,())) fun y=>sel y (fun u=>jc (Je (decide ((t13.length+1)*64≤140737488355328)&&decide (t13.length+1≤140737488355328))) fun y1=>Z (.inl ((t13++[u.1]),u.2.1,u.2.2.1,u.2.2.2.1,u.2.2.2.2.1,u.2.2.2.2.2.1))) (fun v=>Z (.inr (v.1,v.2.1,v.2.2.1,v.2.2.2.1,v.2.2.2.2.1,v.2.2.2.2.2.1)))
def jD.c5s:Sj:=((((((((jD.pre.s 3 fV).s 4 pD).s 5 uZ).o 3 UB).o 4 VQ).o 5 tg32).o 13 lQ).o 5005 lQ)
def jD.c5x1:Sj:=((((((jD.c5s.d 0).d 1).d 3).d 4).d 5).o 900001 Hi)
def jD.c5r:RC:=⟨jD.c5s,[(jD.c5s,0,[12,400,201,301,1,205]),(jD.c5x1,1000000,[301,14,205,101])],fun X=>((2:Int),()),[13,15,16,17,18,19],@jD.c5,fun _ _ _ _ _ _ _ _=>jb fun _=>(kw (fun _=>(jb fun _=>ja)) (fun _=>ja))⟩
def jD.cj_ (r3:Int)(t13:Ze)(ua:Za)(ub:Int)(uc:Int)(ud:Za)(ue:Int)(Z:(Int×Ze×Za×Int×Int×Za×Int)⊕(Int×Za×Int×Int×Za×Int)→Option ρ):Option ρ:= jc (jz (Z9 [46,46]) ua ub uc ud ue) fun y=>br y.1 (jc (jD.c5 t13 y.2.1 y.2.2.1 y.2.2.2.1 y.2.2.2.2.1 y.2.2.2.2.2.1 some) fun y1=>sel y1 (fun u=>Z (.inl ((2:Int),u.1,u.2.1,u.2.2.1,u.2.2.2.1,u.2.2.2.2.1,u.2.2.2.2.2))) (fun v=>Z (.inr (v.1,v.2.1,v.2.2.1,v.2.2.2.1,v.2.2.2.2.1,v.2.2.2.2.2)))) (Z (.inl (r3,t13,y.2.1,y.2.2.1,y.2.2.2.1,y.2.2.2.2.1,y.2.2.2.2.2.1)))
def jD.cj_r:RC:=⟨jD.c5s,[(jD.c5s,0,[12,202,1,205]),(jD.c5x1,1000000,[301,14,205,101])],no,[12,13,15,16,17,18,19],@jD.cj_,fun _ _ _ _ _ _ _ _ _=>jb fun _=>(jt (jb fun _=>(kw (fun _=>ja) (fun _=>ja))) ja)⟩
def jD.cw_ (r3:Int)(r4:Ze)(ua:Za)(ub:Int)(uc:Int)(ud:Za)(ue:Int)(Z:(Int×Ze×Za×Int×Int×Za×Int)⊕((Int×Int×Za×Int×Int×Za×Int)⊕((Int×Za×Int×Int×Za×Int)⊕(Int×Za×Int×Int×Za×Int)))→Option ρ):Option ρ:= jc (jz (Z9 [91]) ua ub uc ud ue) fun y=>br y.1 (jc (kg (y.2.1,y.2.2.1,y.2.2.2.1,y.2.2.2.2.1,y.2.2.2.2.2.1,())) fun y1=>sel y1 (fun u=>jc (jD.cj_ (1:Int) [u.1] u.2.1 u.2.2.1 u.2.2.2.1 u.2.2.2.2.1 u.2.2.2.2.2.1 some) fun y2=>sel y2 (fun u_1=>jc (jA (Z9 [93]) u_1.2.2.1 u_1.2.2.2.1 u_1.2.2.2.2.1 u_1.2.2.2.2.2.1 u_1.2.2.2.2.2.2) fun y3=>sel y3 (fun u_2=>Z (.inl (u_1.1,u_1.2.1,u_2.2.1,u_2.2.2.1,u_2.2.2.2.1,u_2.2.2.2.2.1,u_2.2.2.2.2.2.1))) (fun v_2=>Z (.inr (.inl (u_1.1,v_2.1,v_2.2.1,v_2.2.2.1,v_2.2.2.2.1,v_2.2.2.2.2.1,v_2.2.2.2.2.2.1))))) (fun v_1=>Z (.inr (.inr (.inl (v_1.1,v_1.2.1,v_1.2.2.1,v_1.2.2.2.1,v_1.2.2.2.2.1,v_1.2.2.2.2.2)))))) (fun v=>Z (.inr (.inr (.inr (v.1,v.2.1,v.2.2.1,v.2.2.2.1,v.2.2.2.2.1,v.2.2.2.2.2.1)))))) (Z (.inl (r3,r4,y.2.1,y.2.2.1,y.2.2.2.1,y.2.2.2.2.1,y.2.2.2.2.2.1)))
def jD.cw_s:Sj:=((jD.c5s.g 13).o 5 VQ)
def jD.cw_x1:Sj:=((jD.c5s.g 13).o 900001 Hi)
def jD.cw_r:RC:=⟨jD.cw_s,[(jD.cw_s,0,[12,202,1,205]),(jD.cw_x1,1000000,[12,201,301,1,205,101]),((jD.c5x1.g 13),1000000,[301,11,400,302,1,205,101]),((jD.cw_x1.o 5 VQ),1000000,[15,205,101])],fun X=>((1:Int),()),[12,13,15,16,17,18,19],@jD.cw_,fun _ _ _ _ _ _ _ _ _=>jb fun _=>(jt (jb fun _=>(kw (fun _=>(jb fun _=>(kw (fun _=>(jb fun _=>(kw (fun _=>ja) (fun _=>ja)))) (fun _=>ja)))) (fun _=>ja))) ja)⟩
def jD (w:Int×(Za×Int)) (ua:Za) (ub:Int) (uc:Int) (ud:Za) (ue:Int):Option ((Zd×Za×Int×Int×Za×Int×Unit)⊕(Int×Za×Int×Int×Za×Int×Unit)):= jc (ku (19:Int) (w.1,w.2.1,w.2.2) (w.1,w.2.1,w.2.2) []) fun y=>jc (jD.cw_ y.hQ.2.2.2 y.kQ ua ub uc ud ue some) fun y1=>sel y1 (fun u=>some (Sum.inl (Rose.mk (y.hQ.1,y.hQ.2.1,y.hQ.2.2.1,u.1) u.2.1,u.2.2.1,u.2.2.2.1,u.2.2.2.2.1,u.2.2.2.2.2.1,u.2.2.2.2.2.2,()))) (fun v=>sel v (fun u_1=>some (Sum.inr (u_1.2.1,u_1.2.2.1,u_1.2.2.2.1,u_1.2.2.2.2.1,u_1.2.2.2.2.2.1,u_1.2.2.2.2.2.2,()))) (fun v_1=>sel v_1 (fun u_2=>some (Sum.inr (u_2.1,u_2.2.1,u_2.2.2.1,u_2.2.2.2.1,u_2.2.2.2.2.1,u_2.2.2.2.2.2,()))) (fun v_2=>some (Sum.inr (v_2.1,v_2.2.1,v_2.2.2.1,v_2.2.2.2.1,v_2.2.2.2.2.1,v_2.2.2.2.2.2,())))))
def jD.ma:MAlt:=⟨72,jD.pre,⟨[(0,VM)],[(1000100,kc)]⟩,true,⟨[(0,Vo)],[(1000100,kc)]⟩,fun X=>jD X.1 X.2.1 X.2.2.1 X.2.2.2.1 (q4 X).1 (q4 X).2.1⟩
def jD.G:EB Zh:=⟨tb,Tryz.f72,[⟨29,ku.ce,ku.ok⟩],[0,1,3,4,5,10,17],[5,13,5005,1000100,900600013],[(5,[(3,[1000100]),(4,[22]),(5,[13]),(7,[5]),(9,[5])])],[(208205,jD.cw_r.ck),(216389,jD.cj_r.ck),(5,jD.c5r.ck)],[⟨25,jz.mc,jz.ok⟩],[⟨28,kg.ma,kg.ok⟩,⟨27,jA.ma,jA.ok⟩]⟩
def jD.ok:uj Zh 72 jD.ma:=Hw jD.G (ma:=jD.ma) Tryz.func72 (m:=3) ⟨⟨⟨trivial,kJ jD.cw_r⟩,kJ jD.cj_r⟩,kR jD.c5r⟩
def JT (ua:Za) (ub:Int) (uc:Int) (ud:Za) (ue:Int):Option ((Zd×Za×Int×Int×Za×Int×Unit)⊕(Int×Za×Int×Int×Za×Int×Unit)):= jc (jS ua ub uc ud ue) fun y=>sel y (fun u=>jc (jD u.1 u.2.1 u.2.2.1 u.2.2.2.1 u.2.2.2.2.1 u.2.2.2.2.2.1) fun y1=>sel y1 (fun u_1=>some (Sum.inl (Rose.mk (u_1.1.hQ.1,u_1.1.hQ.2.1,u_1.1.hQ.2.2.1,u_1.1.hQ.2.2.2) u_1.1.kQ,u_1.2.1,u_1.2.2.1,u_1.2.2.2.1,u_1.2.2.2.2.1,u_1.2.2.2.2.2.1,()))) (fun v_1=>some (Sum.inr (v_1.1,v_1.2.1,v_1.2.2.1,v_1.2.2.2.1,v_1.2.2.2.2.1,v_1.2.2.2.2.2.1,())))) (fun v=>some (Sum.inr (v.1,v.2.1,v.2.2.1,v.2.2.2.1,v.2.2.2.2.1,v.2.2.2.2.2.1,())))
def JT.ma:MAlt:=⟨70,⟨[(0,VP)],[(1000100,kc)]⟩,⟨[(0,VM)],[(1000100,kc)]⟩,true,⟨[(0,Vo)],[(1000100,kc)]⟩,fun X=>JT X.1 X.2.1 X.2.2.1 X.2.2.2.1 (q4 X).1⟩
def JT.G:EB Zh:=⟨tb,Tryz.f70,[],[0,2],[1000100],[],[],[],[⟨26,jS.ma,jS.ok⟩,⟨72,jD.ma,jD.ok⟩]⟩
def JT.ok:uj Zh 70 JT.ma:=Hw JT.G (ma:=JT.ma) Tryz.func70 (m:=0) trivial
abbrev LV:SO:=.clo 28 [.ref 1000100 0] []
def JE.pre:Sj:=⟨[(0,VP),(1,dW)],[(1000090,LV),(1000100,kc)]⟩
def JE.ca_ (t8:Ze)(ua:Za)(ub:Int)(uc:Int)(ud:Za)(ue:Int)(Z:(Ze×Za×Int×Int×Za×Int)⊕((Ze×Int×Za×Int×Int×Za×Int)⊕(Ze×Za×Int×Int×Za×Int))→Option ρ):Option ρ:= jc (jz (Z9 [44]) ua ub uc ud ue) fun y=>br y.1 (jc (kg (y.2.1,y.2.2.1,y.2.2.2.1,y.2.2.2.2.1,y.2.2.2.2.2.1,())) fun y1=>sel y1 (fun u=>jc (Je (decide ((t8.length+1)*64≤140737488355328)&&decide (t8.length+1≤140737488355328))) fun y2=>Z (.inl ((t8++[u.1]),u.2.1,u.2.2.1,u.2.2.2.1,u.2.2.2.2.1,u.2.2.2.2.2.1))) (fun v=>Z (.inr (.inl (t8,v.1,v.2.1,v.2.2.1,v.2.2.2.1,v.2.2.2.2.1,v.2.2.2.2.2.1))))) (Z (.inr (.inr (t8,y.2.1,y.2.2.1,y.2.2.2.1,y.2.2.2.2.1,y.2.2.2.2.2.1))))
def JE.ca_s:Sj:=(((JE.pre.s 4 dX).s 5 D5).o 8 lQ)
def JE.ca_r:LC:=⟨JE.ca_s,[((JE.ca_s.o 900001 Hi),1000000,[1,206,101]),(JE.ca_s,2,[1,206])],no,[1,2,3,4,5,6],[1,2,3,4,5,6],@JE.ca_,fun _ _ _ _ _ _ _ _=>jb fun _=>(jt (jb fun _=>(kw (fun _=>(jb fun _=>ja)) (fun _=>ja))) ja)⟩
def JE (ua:Za) (ub:Int) (uc:Int) (ud:Za) (ue:Int):Option ((Ze×Za×Int×Int×Za×Int×Unit)⊕(Int×Za×Int×Int×Za×Int×Unit)):= jc (kg (ua,ub,uc,ud,ue,())) fun y=>sel y (fun u=>jc (iter (fun s↦JE.ca_ s.1 s.2.1 s.2.2.1 s.2.2.2.1 s.2.2.2.2.1 s.2.2.2.2.2 some) ([u.1],u.2.1,u.2.2.1,u.2.2.2.1,u.2.2.2.2.1,u.2.2.2.2.2.1)) fun y1=>sel y1 (fun u_1=>some (Sum.inr (u_1.2.1,u_1.2.2.1,u_1.2.2.2.1,u_1.2.2.2.2.1,u_1.2.2.2.2.2.1,u_1.2.2.2.2.2.2,()))) (fun v_1=>some (Sum.inl (v_1.1,v_1.2.1,v_1.2.2.1,v_1.2.2.2.1,v_1.2.2.2.2.1,v_1.2.2.2.2.2,())))) (fun v=>some (Sum.inr (v.1,v.2.1,v.2.2.1,v.2.2.2.1,v.2.2.2.2.1,v.2.2.2.2.2.1,())))
def JE.ma:MAlt:=⟨63,JE.pre,⟨[(0,dX)],[(1000090,LV),(1000100,kc)]⟩,true,⟨[(0,Vo)],[(1000090,LV),(1000100,kc)]⟩,fun X=>JE X.1 X.2.1 X.2.2.1 X.2.2.2.1 (q4 X).1⟩
def JE.G:EB Zh:=⟨tb,Tryz.f63,[],[0,1,4,5,10],[8,1000100],[],[(100002,JE.ca_r.ck)],[⟨25,jz.mc,jz.ok⟩],[⟨28,kg.ma,kg.ok⟩]⟩
def JE.ok:uj Zh 63 JE.ma:=Hw JE.G (ma:=JE.ma) Tryz.func63 (m:=1) ⟨trivial,kL JE.ca_r⟩
abbrev LW:SO:=.clo 70 [.ref 1000100 0] []
def JR.pre:Sj:=⟨[(0,VP),(1,dW)],[(1000090,LW),(1000100,kc)]⟩
def JR.ca_ (t8:Ze)(ua:Za)(ub:Int)(uc:Int)(ud:Za)(ue:Int)(Z:(Ze×Za×Int×Int×Za×Int)⊕((Ze×Int×Za×Int×Int×Za×Int)⊕(Ze×Za×Int×Int×Za×Int))→Option ρ):Option ρ:= jc (jz (Z9 [44]) ua ub uc ud ue) fun y=>br y.1 (jc (JT y.2.1 y.2.2.1 y.2.2.2.1 y.2.2.2.2.1 y.2.2.2.2.2.1) fun y1=>sel y1 (fun u=>jc (Je (decide ((t8.length+1)*64≤140737488355328)&&decide (t8.length+1≤140737488355328))) fun y2=>Z (.inl ((t8++[u.1]),u.2.1,u.2.2.1,u.2.2.2.1,u.2.2.2.2.1,u.2.2.2.2.2.1))) (fun v=>Z (.inr (.inl (t8,v.1,v.2.1,v.2.2.1,v.2.2.2.1,v.2.2.2.2.1,v.2.2.2.2.2.1))))) (Z (.inr (.inr (t8,y.2.1,y.2.2.1,y.2.2.2.1,y.2.2.2.2.1,y.2.2.2.2.2.1))))
def JR.ca_s:Sj:=(((JR.pre.s 4 dX).s 5 D5).o 8 lQ)
def JR.ca_r:LC:=⟨JR.ca_s,[((JR.ca_s.o 900001 Hi),1000000,[1,206,101]),(JR.ca_s,2,[1,206])],no,[1,2,3,4,5,6],[1,2,3,4,5,6],@JR.ca_,fun _ _ _ _ _ _ _ _=>jb fun _=>(jt (jb fun _=>(kw (fun _=>(jb fun _=>ja)) (fun _=>ja))) ja)⟩
def JR (ua:Za) (ub:Int) (uc:Int) (ud:Za) (ue:Int):Option ((Ze×Za×Int×Int×Za×Int×Unit)⊕(Int×Za×Int×Int×Za×Int×Unit)):= jc (JT ua ub uc ud ue) fun y=>sel y (fun u=>jc (iter (fun s↦JR.ca_ s.1 s.2.1 s.2.2.1 s.2.2.2.1 s.2.2.2.2.1 s.2.2.2.2.2 some) ([u.1],u.2.1,u.2.2.1,u.2.2.2.1,u.2.2.2.2.1,u.2.2.2.2.2.1)) fun y1=>sel y1 (fun u_1=>some (Sum.inr (u_1.2.1,u_1.2.2.1,u_1.2.2.2.1,u_1.2.2.2.2.1,u_1.2.2.2.2.2.1,u_1.2.2.2.2.2.2,()))) (fun v_1=>some (Sum.inl (v_1.1,v_1.2.1,v_1.2.2.1,v_1.2.2.2.1,v_1.2.2.2.2.1,v_1.2.2.2.2.2,())))) (fun v=>some (Sum.inr (v.1,v.2.1,v.2.2.1,v.2.2.2.1,v.2.2.2.2.1,v.2.2.2.2.2.1,())))
def JR.ma:MAlt:=⟨63,JR.pre,⟨[(0,dX)],[(1000090,LW),(1000100,kc)]⟩,true,⟨[(0,Vo)],[(1000090,LW),(1000100,kc)]⟩,fun X=>JR X.1 X.2.1 X.2.2.1 X.2.2.2.1 (q4 X).1⟩
def JR.G:EB Zh:=⟨tb,Tryz.f63,[],[0,1,4,5,10],[8,1000100],[],[(100002,JR.ca_r.ck)],[⟨25,jz.mc,jz.ok⟩],[⟨70,JT.ma,JT.ok⟩]⟩
def JR.ok:uj Zh 63 JR.ma:=Hw JR.G (ma:=JR.ma) Tryz.func63 (m:=1) ⟨trivial,kL JR.ca_r⟩
def jN.pre:Sj:=⟨[(0,VP),(1,nS),(2,dX),(3,nS)],[(1000100,kc)]⟩
def jN.ct_ (args:Ze)(ua:Za)(ub:Int)(uc:Int)(ud:Za)(ue:Int)(Z:(Ze×Za×Int×Int×Za×Int)⊕(Ze×Int×Za×Int×Int×Za×Int)→Option ρ):Option ρ:= jc (jz (Z9 [40]) ua ub uc ud ue) fun y=>br y.1 (jc (JE y.2.1 y.2.2.1 y.2.2.2.1 y.2.2.2.2.1 y.2.2.2.2.2.1) fun y1=>sel y1 (fun u=>jc (jA (Z9 [41]) u.2.1 u.2.2.1 u.2.2.2.1 u.2.2.2.2.1 u.2.2.2.2.2.1) fun y2=>sel y2 (fun u_1=>Z (.inl (u.1,u_1.2.1,u_1.2.2.1,u_1.2.2.2.1,u_1.2.2.2.2.1,u_1.2.2.2.2.2.1))) (fun v_1=>Z (.inr (u.1,v_1.1,v_1.2.1,v_1.2.2.1,v_1.2.2.2.1,v_1.2.2.2.2.1,v_1.2.2.2.2.2.1)))) (fun v=>Z (.inr (args,v.1,v.2.1,v.2.2.1,v.2.2.2.1,v.2.2.2.2.1,v.2.2.2.2.2.1)))) (Z (.inl (args,y.2.1,y.2.2.1,y.2.2.2.1,y.2.2.2.2.1,y.2.2.2.2.2.1)))
def jN.ct_s:Sj:=((((((((jN.pre.s 5 uZ).s 7 D4).s 8 uY).s 9 dX).s 10 dX).o 5 UB).o 7 UB).o 8 VQ)
def jN.ct_x1:Sj:=(jN.ct_s.o 900001 Hi)
def jN.ct_r:RC:=⟨jN.ct_s,[(jN.ct_s,0,[3,201,12,205]),(jN.ct_x1,1000000,[3,201,12,205,101])],no,[3,16,17,18,19,20],@jN.ct_,fun _ _ _ _ _ _ _ _=>jb fun _=>(jt (jb fun _=>(kw (fun _=>(jb fun _=>(kw (fun _=>ja) (fun _=>ja)))) (fun _=>ja))) ja)⟩
def jN.ch_ (refs:Ze)(ua:Za)(ub:Int)(uc:Int)(ud:Za)(ue:Int)(Z:(Ze×Za×Int×Int×Za×Int)⊕(Int×Za×Int×Int×Za×Int)→Option ρ):Option ρ:= br (uc==1) (jc (JR ua ub uc ud ue) fun y=>sel y (fun u=>Z (.inl (u.1,u.2.1,u.2.2.1,u.2.2.2.1,u.2.2.2.2.1,u.2.2.2.2.2.1))) (fun v=>Z (.inr (v.1,v.2.1,v.2.2.1,v.2.2.2.1,v.2.2.2.2.1,v.2.2.2.2.2.1)))) (Z (.inl (refs,ua,ub,uc,ud,ue)))
def jN.ch_r:RC:=⟨jN.ct_s,[(jN.ct_s,0,[4,201,11,205]),(jN.ct_x1,1000000,[16,205,101])],no,[4,16,17,18,19,20],@jN.ch_,fun _ _ _ _ _ _ _ _=>jt (jb fun _=>(kw (fun _=>ja) (fun _=>ja))) ja⟩
def jN.c8 (mods:Ze)(args:Ze)(refs:Ze)(t0:Int)(t1:Za)(t2:Int)(w0:Int)(w1:Za)(w2:Int)(Z:Int×Int×Za×Int×Ze→Option ρ):Option ρ:= jc (Vm mods) fun y=>jc (Vm args) fun y1=>jc (Vm refs) fun y2=>jc (ku (8:Int) (t0,t1,t2) (w0,w1,w2) [y,y1,y2]) fun y3=>Z (y3.hQ.1,y3.hQ.2.1,y3.hQ.2.2.1,y3.hQ.2.2.2,y3.kQ)
def jN.c8r:RC:=⟨jN.ct_s,[(jN.ct_s,0,[11,205])],no,[1,3,4,5,6,7,8,9,10],@jN.c8,fun _ _ _ _ _ _ _ _ _ _ _=>jb fun _=>(jb fun _=>(jb fun _=>(jb fun _=>ja)))⟩
def jN (t:Int×(Za×Int)) (mods:Ze) (w:Int×(Za×Int)) (ua:Za) (ub:Int) (uc:Int) (ud:Za) (ue:Int):Option ((Zd×Za×Int×Int×Za×Int×Unit)⊕(Int×Za×Int×Int×Za×Int×Unit)):= jc (jN.ct_ [] ua ub uc ud ue some) fun y=>sel y (fun u=>jc (jN.ch_ [] u.2.1 u.2.2.1 u.2.2.2.1 u.2.2.2.2.1 u.2.2.2.2.2 some) fun y1=>sel y1 (fun u_1=>jc (jA (Z9 [59]) u_1.2.1 u_1.2.2.1 u_1.2.2.2.1 u_1.2.2.2.2.1 u_1.2.2.2.2.2) fun y2=>sel y2 (fun u_2=>jc (jN.c8 mods u.1 u_1.1 t.1 t.2.1 t.2.2 w.1 w.2.1 w.2.2 some) fun y3=>some (Sum.inl (Rose.mk (y3.1,y3.2.1,y3.2.2.1,y3.2.2.2.1) y3.2.2.2.2,u_2.2.1,u_2.2.2.1,u_2.2.2.2.1,u_2.2.2.2.2.1,u_2.2.2.2.2.2.1,()))) (fun v_2=>some (Sum.inr (v_2.1,v_2.2.1,v_2.2.2.1,v_2.2.2.2.1,v_2.2.2.2.2.1,v_2.2.2.2.2.2.1,())))) (fun v_1=>some (Sum.inr (v_1.1,v_1.2.1,v_1.2.2.1,v_1.2.2.2.1,v_1.2.2.2.2.1,v_1.2.2.2.2.2,())))) (fun v=>some (Sum.inr (v.2.1,v.2.2.1,v.2.2.2.1,v.2.2.2.2.1,v.2.2.2.2.2.1,v.2.2.2.2.2.2,())))
def jN.ma:MAlt:=⟨74,jN.pre,⟨[(0,VM)],[(1000100,kc)]⟩,true,⟨[(0,Vo)],[(1000100,kc)]⟩,fun X=>jN X.1 X.2.1 X.2.2.1 X.2.2.2.1 (q4 X).1 (q4 X).2.1 (q4 X).2.2.1 (q4 X).2.2.2.1⟩
def jN.G:EB Zh:=⟨tb,Tryz.f74,[⟨66,Vm.ce,Vm.ok⟩,⟨29,ku.ce,ku.ok⟩],[0,1,2,3,5,7,8,9,10,12,24],[1000100],[(8,[(8,[39]),(9,[39]),(10,[8])])],[(8,jN.c8r.ck),(220485,jN.ch_r.ck),(208199,jN.ct_r.ck)],[⟨25,jz.mc,jz.ok⟩],[⟨63,JE.ma,JE.ok⟩,⟨27,jA.ma,jA.ok⟩,⟨1000028,JR.ma,JR.ok⟩]⟩
def jN.ok:uj Zh 74 jN.ma:=Hw jN.G (ma:=jN.ma) Tryz.func74 (m:=3) ⟨⟨⟨trivial,kJ jN.ct_r⟩,kJ jN.ch_r⟩,kR jN.c8r⟩
end
end W
end
