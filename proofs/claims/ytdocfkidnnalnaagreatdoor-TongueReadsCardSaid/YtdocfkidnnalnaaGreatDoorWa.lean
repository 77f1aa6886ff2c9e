/- Lifted functions, part 1: each with its contract. -/
import Derived.Test.YtdocfkidnnalnaaGreatDoorCa
import Derived.Test.YtdocfkidnnalnaaGreatDoorLf
import Derived.Test.YtdocfkidnnalnaaGreatDoorProg
set_option linter.all false
section
set_option maxHeartbeats 4000000
set_option maxRecDepth 100000
namespace W
open Go Go.Ql Go.Proofs Go.IntKind
noncomputable section
variable {ρ:Type}
abbrev tg0:SD:=.one (.ref 1000100 0)
abbrev tg1:SD:=.one (.val .str)
abbrev tg2:SO:=.box [.val .str,.val (.int .i64),.val (.int .i64),.val .str,.val (.int .i64)]
abbrev tg3:SD:=.one (.val .bool)
abbrev q4 {a b c d e:Type} (x:a×b×c×d×e):e:=x.2.2.2.2
abbrev q8 {a b c d e f g h i:Type} (x:a×b×c×d×e×f×g×h×i):i:=x.2.2.2.2.2.2.2.2
abbrev YO:=Int×(Int×((List Int)×(Int×(Int×(List Int)))))
abbrev YD:=Bool×(List Int)
abbrev YP:=Int×(Int×Bool)
abbrev YN:=(List YD)×Int
def jQ.pre:Shape:=⟨[(0,tg0),(1,tg1)],[(1000100,tg2)]⟩
def jQ.post:Shape:=⟨[(0,tg3)],[(1000100,tg2)]⟩
def jQ.c1 (w:Z7)(uc:Int)(ud:Z7)(Z:Bool→Option ρ):Option ρ:= br (uc==4) (Z (ud==w)) (br (uc==2) (Z (ud==w)) (Z false))
def jQ.c1s:Shape:=(jQ.pre.s 4 tg3)
def jQ.c1r:RC:=⟨jQ.c1s,[(jQ.c1s,0,[1,201])],no,[0,4,5],@jQ.c1,fun _ _ _ _ _=>jr ja (jr ja ja)⟩
def jQ (w:Z7) (ua:Z7) (ub:Int) (uc:Int) (ud:Z7) (ue:Int):Option (Bool×Z7×Int×Int×Z7×Int×Unit):= bnd (jQ.c1 w uc ud some) fun y=>some (y,ua,ub,uc,ud,ue,())
def jQ.mc:MCallee:=⟨58,jQ.pre,jQ.post,fun X=>jQ X.1 X.2.1 X.2.2.1 X.2.2.2.1 (q4 X).1 (q4 X).2.1⟩
def jQ.G:EB Za:=⟨tb,Tryz.f58,[],[0,1,4],[1000100],[],[(1,jQ.c1r.ck)],[],[]⟩
theorem jQ.ok:MOk Za 58 jQ.mc:=fnM jQ.G (mc:=jQ.mc) Tryz.func58 (m:=1) ⟨trivial,kR jQ.c1r⟩
abbrev tg4:SD:=.one (.val (.int .u8))
def ji.pre:Shape:=⟨[(0,tg0)],[(1000100,tg2)]⟩
def ji.post:Shape:=⟨[],[(1000100,tg2)]⟩
def ji.c0  (Z:Unit→Option ρ):Option ρ:= Z ()
def ji.c0x0:Shape:=(ji.pre.s 12 tg3)
def ji.c0r:RC:=⟨ji.pre,[(ji.c0x0,0,[400])],fun X=>((decide (X.2.1<(X.1.length:Int))),()),[],@ji.c0,fun _ _=>ja⟩
def ji.c1 (ua:Z7)(ub:Int)(Z:Int→Option ρ):Option ρ:= bnd (idx ua ub) fun y=>Z (↑(UInt8.toNat y):Int)
def ji.c1x0:Shape:=(ji.pre.s 2 tg4)
def ji.c1r:RC:=⟨ji.pre,[(ji.c1x0,0,[101])],no,[0,1],@ji.c1,fun _ _ _ _=>jb fun _=>ja⟩
def ji.c2 (c:Int)(Z:Bool→Option ρ):Option ρ:= br (c==32) (Z true) (br (c==9) (Z true) (br (c==10) (Z true) (Z (c==13))))
def ji.c2x0:Shape:=(ji.c1x0.s 22 tg3)
def ji.c2r:RC:=⟨ji.c1x0,[(ji.c2x0,0,[1,101])],no,[0],@ji.c2,fun _ _ _=>jr ja (jr ja (jr ja ja))⟩
def ji.c4 (c:Int)(ua:Z7)(ub:Int)(Z:Bool→Option ρ):Option ρ:= br (c==47) (br (decide (i64.wrap (ub+1)<(ua.length:Int))) (bnd (idx ua (i64.wrap (ub+1))) fun y=>Z ((↑(UInt8.toNat y):Int)==47)) (Z false)) (Z false)
def ji.c4x0:Shape:=(ji.c1x0.s 44 tg3)
def ji.c4r:RC:=⟨ji.c1x0,[(ji.c4x0,0,[1,101])],no,[0,1,2],@ji.c4,fun _ _ _ _ _=>jr (jr (jb fun _=>ja) ja) ja⟩
def ji.c5 (ua:Z7)(ub:Int)(Z:Bool→Option ρ):Option ρ:= br (decide (ub<(ua.length:Int))) (bnd (idx ua ub) fun y=>Z ((↑(UInt8.toNat y):Int) !=10)) (Z false)
def ji.c5x0:Shape:=(ji.c1x0.s 94 tg3)
def ji.c5r:RC:=⟨ji.c1x0,[(ji.c5x0,0,[1,101])],no,[1,2],@ji.c5,fun _ _ _ _=>jr (jb fun _=>ja) ja⟩
def ji.cc_ (ua:Z7)(ub:Int)(Z:Int⊕Int→Option ρ):Option ρ:= bnd (ji.c5 ua ub some) fun y=>br y (Z (.inl (i64.wrap (ub+1)))) (Z (.inr ub))
def ji.cc_r:LC:=⟨ji.c1x0,[(ji.c1x0,5,[2,201])],no,[2],[1,2],@ji.cc_,fun _ _ _ _=>jb fun _=>(jr ja ja)⟩
def ji.cF_ (ua:Z7)(ub:Int)(Z:Int⊕(Int⊕Int)→Option ρ):Option ρ:= bnd (ji.c0 some) fun y=>br (decide (ub<(ua.length:Int))) (bnd (ji.c1 ua ub some) fun y1=>bnd (ji.c2 y1 some) fun y2=>br y2 (Z (.inl (i64.wrap (ub+1)))) (bnd (ji.c4 y1 ua ub some) fun y3=>br y3 (bnd (iter (fun s↦ji.cc_ ua s some) ub) fun y4=>Z (.inl y4)) (Z (.inr (.inl ub))))) (Z (.inr (.inr ub)))
def ji.cF_r:LC:=⟨ji.pre,[(ji.pre,1,[1,201]),(ji.pre,2,[1,201])],no,[1],[0,1],@ji.cF_,fun _ _ _ _=>jb fun _=>(jr (jb fun _=>(jb fun _=>(jr ja (jb fun _=>(jr (jb fun _=>ja) ja))))) ja)⟩
def ji (ua:Z7) (ub:Int) (uc:Int) (ud:Z7) (ue:Int):Option (Z7×Int×Int×Z7×Int×Unit):= bnd (iter (fun s↦ji.cF_ ua s some) ub) fun y=>sel y (fun u=>some (ua,u,uc,ud,ue,())) (fun v=>some (ua,v,uc,ud,ue,()))
def ji.mc:MCallee:=⟨51,ji.pre,ji.post,fun X=>ji X.1 X.2.1 X.2.2.1 X.2.2.2.1 (q4 X).1⟩
def ji.G:EB Za:=⟨tb,Tryz.f51,[],[0,2,12,22,44,94],[1000100],[(5,[]),(4,[]),(1,[]),(0,[])],[(100000,ji.cF_r.ck),(100005,ji.cc_r.ck),(5,ji.c5r.ck),(4,ji.c4r.ck),(2,ji.c2r.ck),(1,ji.c1r.ck),(0,ji.c0r.ck)],[],[]⟩
theorem ji.ok:MOk Za 51 ji.mc:=fnM ji.G (mc:=ji.mc) Tryz.func51 (m:=7) ⟨⟨⟨⟨⟨⟨⟨trivial,kL ji.cF_r⟩,kR ji.c0r⟩,kR ji.c1r⟩,kR ji.c2r⟩,kR ji.c4r⟩,kL ji.cc_r⟩,kR ji.c5r⟩
def kn.c1 (c:Int)(Z:Bool→Option ρ):Option ρ:= br (decide ((97:Int)≤c)) (br (decide (c≤122)) (Z true) (br (decide ((65:Int)≤c)) (br (decide (c≤90)) (Z true) (Z (c==95))) (Z (c==95)))) (br (decide ((65:Int)≤c)) (br (decide (c≤90)) (Z true) (Z (c==95))) (Z (c==95)))
def kn.c1s:Shape:=⟨[(0,tg4),(2,tg3)],[]⟩
def kn.c1r:RC:=⟨kn.c1s,[(kn.c1s,0,[1,201])],no,[0],@kn.c1,fun _ _ _=>jr (jr ja (jr (jr ja ja) ja)) (jr (jr ja ja) ja)⟩
def kn (c:Int):Option Bool:= bnd (kn.c1 c some) fun y=>some y
def kn.ce:=ceOf tab Tryz.f52 kn
def kn.G:EB Za:=⟨tb,Tryz.f52,[],[0,2],[],[],[(1,kn.c1r.ck)],[],[]⟩
theorem kn.ok:CalleeOk Za 52 kn.ce:=fnB kn.G Tryz.func52 (m:=1) ⟨trivial,kR kn.c1r⟩
def kl.c1 (c:Int)(Z:Bool→Option ρ):Option ρ:= br (decide ((48:Int)≤c)) (Z (decide (c≤57))) (Z false)
def kl.c1s:Shape:=⟨[(0,tg4),(2,tg3)],[]⟩
def kl.c1r:RC:=⟨kl.c1s,[(kl.c1s,0,[1,201])],no,[0],@kl.c1,fun _ _ _=>jr ja ja⟩
def kl (c:Int):Option Bool:= bnd (kl.c1 c some) fun y=>some y
def kl.ce:=ceOf tab Tryz.f55 kl
def kl.G:EB Za:=⟨tb,Tryz.f55,[],[0,2],[],[],[(1,kl.c1r.ck)],[],[]⟩
theorem kl.ok:CalleeOk Za 55 kl.ce:=fnB kl.G Tryz.func55 (m:=1) ⟨trivial,kR kl.c1r⟩
def JC.c1 (c:Int)(Z:Bool→Option ρ):Option ρ:= bnd (kn c) fun y=>br y (Z true) (bnd (kl c) fun y1=>Z y1)
def JC.c1s:Shape:=⟨[(0,tg4),(2,tg3)],[]⟩
def JC.c1r:RC:=⟨JC.c1s,[(JC.c1s,0,[1,201])],no,[0],@JC.c1,fun _ _ _=>jb fun _=>(jr ja (jb fun _=>ja))⟩
def JC (c:Int):Option Bool:= bnd (JC.c1 c some) fun y=>some y
def JC.ce:=ceOf tab Tryz.f54 JC
def JC.G:EB Za:=⟨tb,Tryz.f54,[⟨52,kn.ce,kn.ok⟩,⟨55,kl.ce,kl.ok⟩],[0,2],[],[],[(1,JC.c1r.ck)],[],[]⟩
theorem JC.ok:CalleeOk Za 54 JC.ce:=fnB JC.G Tryz.func54 (m:=1) ⟨trivial,kR JC.c1r⟩
abbrev tg5:SD:=.one (.fn 54)
abbrev tg6:SD:=.one (.val (.int .i64))
def jz.pre:Shape:=⟨[(0,tg0),(1,tg5)],[(1000100,tg2)]⟩
def jz.post:Shape:=⟨[(0,tg1)],[(1000100,tg2)]⟩
def jz.c2 (ua:Z7)(ub:Int)(Z:Bool→Option ρ):Option ρ:= br (decide (ub<(ua.length:Int))) (bnd (idx ua ub) fun y=>bnd (JC (↑(UInt8.toNat y):Int)) fun y1=>Z y1) (Z false)
def jz.c2s:Shape:=((jz.pre.s 4 tg1).s 5 tg6)
def jz.c2x0:Shape:=(jz.c2s.s 32 tg3)
def jz.c2r:RC:=⟨jz.c2s,[(jz.c2x0,0,[2,101])],no,[2,3],@jz.c2,fun _ _ _ _=>jr (jb fun _=>(jb fun _=>ja)) ja⟩
def jz.ca_ (ua:Z7)(ub:Int)(Z:Int⊕Int→Option ρ):Option ρ:= bnd (jz.c2 ua ub some) fun y=>br y (Z (.inl (i64.wrap (ub+1)))) (Z (.inr ub))
def jz.ca_r:LC:=⟨jz.c2s,[(jz.c2s,2,[3,201])],no,[3],[2,3],@jz.ca_,fun _ _ _ _=>jb fun _=>(jr ja ja)⟩
def jz.c4 (t5:Int)(ua:Z7)(ub:Int)(Z:Unit→Option ρ):Option ρ:= bnd (okIf (decide ((0:Int)≤t5)&&decide (t5≤ub)&&decide (ub≤(ua.length:Int)))) fun y=>Z ()
def jz.c4r:RC:=⟨jz.c2s,[(jz.c2s,0,[400,301])],fun X=>((List.drop (Int.toNat X.2.1) (List.take (Int.toNat X.2.2.2.1) X.2.2.1)),()),[1,2,3],@jz.c4,fun _ _ _ _ _=>jb fun _=>ja⟩
def jz (ua:Z7) (ub:Int) (uc:Int) (ud:Z7) (ue:Int):Option (Z7×Z7×Int×Int×Z7×Int×Unit):= bnd (iter (fun s↦jz.ca_ ua s some) ub) fun y=>bnd (jz.c4 ub ua y some) fun y1=>some (List.drop (Int.toNat ub) (List.take (Int.toNat y) ua),ua,y,uc,ud,ue,())
def jz.mc:MCallee:=⟨53,jz.pre,jz.post,fun X=>jz X.1 X.2.1 X.2.2.1 X.2.2.2.1 (q4 X).1⟩
def jz.G:EB Za:=⟨tb,Tryz.f53,[⟨54,JC.ce,JC.ok⟩],[0,1,4,5,32],[1000100],[(4,[]),(2,[])],[(4,jz.c4r.ck),(100002,jz.ca_r.ck),(2,jz.c2r.ck)],[],[]⟩
theorem jz.ok:MOk Za 53 jz.mc:=fnM jz.G (mc:=jz.mc) Tryz.func53 (m:=3) ⟨⟨⟨trivial,kL jz.ca_r⟩,kR jz.c2r⟩,kR jz.c4r⟩
def JT.cA_ (t3:Z7)(Z:Bool→Option ρ):Option ρ:= br (t3==Z6 [113,117,98,105,116]) (Z (t3==Z6 [113,117,98,105,116])) (br (t3==Z6 [98,105,116]) (Z (t3==Z6 [98,105,116])) (br (t3==Z6 [99,111,110,115,116]) (Z (t3==Z6 [99,111,110,115,116])) (br (t3==Z6 [103,97,116,101]) (Z (t3==Z6 [103,97,116,101])) (br (t3==Z6 [102,111,114]) (Z (t3==Z6 [102,111,114])) (br (t3==Z6 [105,110]) (Z (t3==Z6 [105,110])) (br (t3==Z6 [119,104,101,110]) (Z (t3==Z6 [119,104,101,110])) (br (t3==Z6 [105,102]) (Z (t3==Z6 [105,102])) (br (t3==Z6 [101,108,115,101]) (Z (t3==Z6 [101,108,115,101])) (br (t3==Z6 [109,101,97,115,117,114,101]) (Z (t3==Z6 [109,101,97,115,117,114,101])) (br (t3==Z6 [114,101,115,101,116]) (Z (t3==Z6 [114,101,115,101,116])) (br (t3==Z6 [119,105,116,104,105,110]) (Z (t3==Z6 [119,105,116,104,105,110])) (br (t3==Z6 [97,112,112,108,121]) (Z (t3==Z6 [97,112,112,108,121])) (br (t3==Z6 [105,110,118]) (Z (t3==Z6 [105,110,118])) (br (t3==Z6 [99,116,114,108]) (Z (t3==Z6 [99,116,114,108])) (br (t3==Z6 [112,111,119]) (Z (t3==Z6 [112,111,119])) (Z (t3==Z6 [115,105,122,101])))))))))))))))))
def JT.cA_s:Shape:=⟨[(0,tg1),(2,tg3),(3,tg1)],[]⟩
def JT.cA_x0:Shape:=(JT.cA_s.s 4 tg3)
def JT.cA_r:RC:=⟨JT.cA_s,[(JT.cA_x0,0,[3,101])],no,[2],@JT.cA_,fun _ _ _=>jr ja (jr ja (jr ja (jr ja (jr ja (jr ja (jr ja (jr ja (jr ja (jr ja (jr ja (jr ja (jr ja (jr ja (jr ja (jr ja ja)))))))))))))))⟩
def JT (w:Z7):Option Bool:= bnd (JT.cA_ w some) fun y=>br y (some true) (some false)
def JT.ce:=ceOf tab Tryz.f56 JT
def JT.G:EB Za:=⟨tb,Tryz.f56,[],[0,2,3,4],[1002082570004,2000000000004],[],[(208257,JT.cA_r.ck)],[],[]⟩
theorem JT.ok:CalleeOk Za 56 JT.ce:=fnB JT.G Tryz.func56 (m:=1) ⟨trivial,kJ JT.cA_r⟩
def jB.pre:Shape:=⟨[(0,tg0)],[(1000100,tg2)]⟩
def jB.post:Shape:=⟨[(0,tg1)],[(1000100,tg2)]⟩
def jB.c1 (ua:Z7)(ub:Int)(Z:Unit→Option ρ):Option ρ:= bnd (okIf (decide ((0:Int)≤ub)&&decide (ub≤(ua.length:Int))&&decide ((ua.length:Int)≤(ua.length:Int)))) fun y=>Z ()
def jB.c1s:Shape:=(jB.pre.s 2 tg1)
def jB.c1x0:Shape:=(jB.c1s.s 3 tg1)
def jB.c1r:RC:=⟨jB.c1s,[(jB.c1x0,0,[1,400])],fun X=>((List.drop (Int.toNat X.2.2.1) (List.take (Int.toNat (X.2.1.length:Int)) X.2.1)),()),[1,2],@jB.c1,fun _ _ _ _=>jb fun _=>ja⟩
def jB.cB_ (t17:Z7)(Z:Bool→Option ρ):Option ρ:= br (t17==Z6 [46,46]) (Z (t17==Z6 [46,46])) (br (t17==Z6 [45,62]) (Z (t17==Z6 [45,62])) (br (t17==Z6 [94,61]) (Z (t17==Z6 [94,61])) (br (t17==Z6 [61,61]) (Z (t17==Z6 [61,61])) (br (t17==Z6 [33,61]) (Z (t17==Z6 [33,61])) (br (t17==Z6 [60,61]) (Z (t17==Z6 [60,61])) (br (t17==Z6 [62,61]) (Z (t17==Z6 [62,61])) (Z (t17==Z6 [42,42]))))))))
def jB.cB_s:Shape:=(jB.c1x0.s 17 tg1)
def jB.cB_x0:Shape:=(jB.cB_s.s 18 tg3)
def jB.cB_r:RC:=⟨jB.cB_s,[(jB.cB_x0,0,[3,101])],no,[2],@jB.cB_,fun _ _ _=>jr ja (jr ja (jr ja (jr ja (jr ja (jr ja (jr ja ja))))))⟩
def jB.cS_ (rest:Z7)(Z:Unit⊕Unit→Option ρ):Option ρ:= br (decide ((rest.length:Int)>1)) (bnd (okIf (decide ((2:Int)≤(rest.length:Int)))) fun y=>bnd (jB.cB_ (List.take (2:Nat) rest) some) fun y1=>br y1 (bnd (okIf (decide ((2:Int)≤(rest.length:Int)))) fun y2=>Z (.inl ())) (Z (.inr ()))) (Z (.inr ()))
def jB.cS_r:RC:=⟨jB.c1x0,[(jB.c1x0,1,[400,301,2,401,301]),(jB.c1x0,0,[])],fun X=>((List.take (2:Nat) X.2.1),(i64.wrap (X.2.2.2.1+2)),()),[1],@jB.cS_,fun _ _ _=>jr (jb fun _=>(jb fun _=>(jr (jb fun _=>ja) ja))) ja⟩
def jB.cC_ (t37:Int)(Z:Bool→Option ρ):Option ρ:= br (t37==123) (Z (t37==123)) (br (t37==125) (Z (t37==125)) (br (t37==40) (Z (t37==40)) (br (t37==41) (Z (t37==41)) (br (t37==91) (Z (t37==91)) (br (t37==93) (Z (t37==93)) (br (t37==59) (Z (t37==59)) (br (t37==44) (Z (t37==44)) (br (t37==64) (Z (t37==64)) (br (t37==61) (Z (t37==61)) (br (t37==60) (Z (t37==60)) (br (t37==62) (Z (t37==62)) (br (t37==43) (Z (t37==43)) (br (t37==45) (Z (t37==45)) (br (t37==42) (Z (t37==42)) (br (t37==47) (Z (t37==47)) (br (t37==37) (Z (t37==37)) (br (t37==33) (Z (t37==33)) (br (t37==38) (Z (t37==38)) (br (t37==124) (Z (t37==124)) (Z (t37==94)))))))))))))))))))))
def jB.cC_s:Shape:=(jB.c1x0.s 37 tg4)
def jB.cC_x0:Shape:=(jB.cC_s.s 38 tg3)
def jB.cC_r:RC:=⟨jB.cC_s,[(jB.cC_x0,0,[3,101])],no,[2],@jB.cC_,fun _ _ _=>jr ja (jr ja (jr ja (jr ja (jr ja (jr ja (jr ja (jr ja (jr ja (jr ja (jr ja (jr ja (jr ja (jr ja (jr ja (jr ja (jr ja (jr ja (jr ja (jr ja ja)))))))))))))))))))⟩
def jB (ua:Z7) (ub:Int) (uc:Int) (ud:Z7) (ue:Int):Option (Z7×Z7×Int×Int×Z7×Int×Unit):= bnd (jB.c1 ua ub some) fun y=>bnd (jB.cS_ (List.drop (Int.toNat ub) (List.take (Int.toNat (ua.length:Int)) ua)) some) fun y1=>sel y1 (fun u=>some (List.take (2:Nat) (List.drop (Int.toNat ub) (List.take (Int.toNat (ua.length:Int)) ua)),ua,i64.wrap (ub+2),uc,ud,ue,())) (fun v=>bnd (idx (List.drop (Int.toNat ub) (List.take (Int.toNat (ua.length:Int)) ua)) (0:Int)) fun y2=>bnd (jB.cC_ (↑(UInt8.toNat y2):Int) some) fun y3=>br y3 (bnd (okIf (decide ((1:Int)≤(↑(List.length (List.drop (Int.toNat ub) (List.take (Int.toNat (ua.length:Int)) ua))):Int)))) fun y4=>some (List.take (1:Nat) (List.drop (Int.toNat ub) (List.take (Int.toNat (ua.length:Int)) ua)),ua,i64.wrap (ub+1),uc,ud,ue,())) (some (Z6 [],ua,ub,uc,ud,ue,())))
def jB.mc:MCallee:=⟨57,jB.pre,jB.post,fun X=>jB X.1 X.2.1 X.2.2.1 X.2.2.2.1 (q4 X).1⟩
def jB.G:EB Za:=⟨tb,Tryz.f57,[],[0,2,3,15,17,18,37,38],[1000100,1002164130018,1002615210038,2000000000018,2000000000038],[(1,[])],[(261521,jB.cC_r.ck),(208236,jB.cS_r.ck),(216413,jB.cB_r.ck),(1,jB.c1r.ck)],[],[]⟩
theorem jB.ok:MOk Za 57 jB.mc:=fnM jB.G (mc:=jB.mc) Tryz.func57 (m:=4) ⟨⟨⟨⟨trivial,kR jB.c1r⟩,kJ jB.cS_r⟩,kJ jB.cB_r⟩,kJ jB.cC_r⟩
abbrev tg7:SD:=.one (.fn 55)
def jx.pre:Shape:=⟨[(0,tg0),(1,tg7)],[(1000100,tg2)]⟩
def jx.post:Shape:=⟨[(0,tg1)],[(1000100,tg2)]⟩
def jx.c2 (ua:Z7)(ub:Int)(Z:Bool→Option ρ):Option ρ:= br (decide (ub<(ua.length:Int))) (bnd (idx ua ub) fun y=>bnd (kl (↑(UInt8.toNat y):Int)) fun y1=>Z y1) (Z false)
def jx.c2s:Shape:=((jx.pre.s 4 tg1).s 5 tg6)
def jx.c2x0:Shape:=(jx.c2s.s 32 tg3)
def jx.c2r:RC:=⟨jx.c2s,[(jx.c2x0,0,[2,101])],no,[2,3],@jx.c2,fun _ _ _ _=>jr (jb fun _=>(jb fun _=>ja)) ja⟩
def jx.ca_ (ua:Z7)(ub:Int)(Z:Int⊕Int→Option ρ):Option ρ:= bnd (jx.c2 ua ub some) fun y=>br y (Z (.inl (i64.wrap (ub+1)))) (Z (.inr ub))
def jx.ca_r:LC:=⟨jx.c2s,[(jx.c2s,2,[3,201])],no,[3],[2,3],@jx.ca_,fun _ _ _ _=>jb fun _=>(jr ja ja)⟩
def jx.c4 (t5:Int)(ua:Z7)(ub:Int)(Z:Unit→Option ρ):Option ρ:= bnd (okIf (decide ((0:Int)≤t5)&&decide (t5≤ub)&&decide (ub≤(ua.length:Int)))) fun y=>Z ()
def jx.c4r:RC:=⟨jx.c2s,[(jx.c2s,0,[400,301])],fun X=>((List.drop (Int.toNat X.2.1) (List.take (Int.toNat X.2.2.2.1) X.2.2.1)),()),[1,2,3],@jx.c4,fun _ _ _ _ _=>jb fun _=>ja⟩
def jx (ua:Z7) (ub:Int) (uc:Int) (ud:Z7) (ue:Int):Option (Z7×Z7×Int×Int×Z7×Int×Unit):= bnd (iter (fun s↦jx.ca_ ua s some) ub) fun y=>bnd (jx.c4 ub ua y some) fun y1=>some (List.drop (Int.toNat ub) (List.take (Int.toNat y) ua),ua,y,uc,ud,ue,())
def jx.mc:MCallee:=⟨53,jx.pre,jx.post,fun X=>jx X.1 X.2.1 X.2.2.1 X.2.2.2.1 (q4 X).1⟩
def jx.G:EB Za:=⟨tb,Tryz.f53,[⟨55,kl.ce,kl.ok⟩],[0,1,4,5,32],[1000100],[(4,[]),(2,[])],[(4,jx.c4r.ck),(100002,jx.ca_r.ck),(2,jx.c2r.ck)],[],[]⟩
theorem jx.ok:MOk Za 53 jx.mc:=fnM jx.G (mc:=jx.mc) Tryz.func53 (m:=3) ⟨⟨⟨trivial,kL jx.ca_r⟩,kR jx.c2r⟩,kR jx.c4r⟩
abbrev tg8:SD:=.one (.val (.st (.pair (.int .i64) (.pair .str (.int .i64)))))
abbrev tg9:SD:=.one (.ref 2 0)
abbrev tg10:SD:=.one (.ref 3 0)
abbrev tg11:SO:=.box [.val (.int .i64),.val .str,.val (.int .i64)]
def jC.pre:Shape:=⟨[(0,tg0)],[(1000100,tg2)]⟩
def jC.post:Shape:=⟨[(0,tg8)],[(1000100,tg2)]⟩
def jC.c3  (Z:Unit→Option ρ):Option ρ:= Z ()
def jC.c3s:Shape:=((((jC.pre.s 2 tg9).s 3 tg10).o 2 tg11).o 3 tg11)
def jC.c3x0:Shape:=(jC.c3s.s 21 tg3)
def jC.c3r:RC:=⟨jC.c3s,[(jC.c3x0,0,[400])],fun X=>(((q4 X).2.2.2.1==(X.2.2.2.2.2.2.1.length:Int)),()),[],@jC.c3,fun _ _=>ja⟩
def jC.c5 (ua:Z7)(ub:Int)(Z:Int→Option ρ):Option ρ:= bnd (idx ua ub) fun y=>Z (↑(UInt8.toNat y):Int)
def jC.c5x0:Shape:=(jC.c3s.s 4 tg4)
def jC.c5r:RC:=⟨jC.c3s,[(jC.c5x0,0,[101])],no,[6,7],@jC.c5,fun _ _ _ _=>jb fun _=>ja⟩
def jC.c15 (c:Int)(t1:Z7)(Z:Bool→Option ρ):Option ρ:= br (decide ((t1.length:Int)>9)) (Z true) (br (decide ((t1.length:Int)>1)) (Z (c==48)) (Z false))
def jC.c15x0:Shape:=(jC.c5x0.s 71 tg3)
def jC.c15r:RC:=⟨jC.c5x0,[(jC.c15x0,0,[1,101])],no,[0,5],@jC.c15,fun _ _ _ _=>jr ja (jr ja ja)⟩
def jC.cY_ (ua:Z7)(ub:Int)(uc:Int)(ud:Z7)(ue:Int)(Z:Int×Z7×Z7×Int×Int×Z7×Int→Option ρ):Option ρ:= bnd (jC.c5 ua ub some) fun y=>bnd (kn y) fun y1=>br y1 (bnd (jz ua ub uc ud ue) fun y2=>bnd (JT y2.1) fun y3=>br y3 (Z ((2:Int),y2.1,y2.2.1,y2.2.2.1,y2.2.2.2.1,y2.2.2.2.2.1,y2.2.2.2.2.2.1)) (Z ((1:Int),y2.1,y2.2.1,y2.2.2.1,y2.2.2.2.1,y2.2.2.2.2.1,y2.2.2.2.2.2.1))) (bnd (kl y) fun y4=>br y4 (bnd (jx ua ub uc ud ue) fun y5=>bnd (jC.c15 y y5.1 some) fun y6=>br y6 (Z ((5:Int),y5.1,y5.2.1,y5.2.2.1,y5.2.2.2.1,y5.2.2.2.2.1,y5.2.2.2.2.2.1)) (Z ((3:Int),y5.1,y5.2.1,y5.2.2.1,y5.2.2.2.1,y5.2.2.2.2.1,y5.2.2.2.2.2.1))) (bnd (jB ua ub uc ud ue) fun y7=>br (y7.1==Z6 []) (Z ((5:Int),y7.1,y7.2.1,y7.2.2.1,y7.2.2.2.1,y7.2.2.2.2.1,y7.2.2.2.2.2.1)) (Z ((4:Int),y7.1,y7.2.1,y7.2.2.1,y7.2.2.2.1,y7.2.2.2.2.1,y7.2.2.2.2.2.1))))
def jC.cY_r:RC:=⟨jC.c3s,[(jC.c3s,0,[3,202,1,205])],no,[6,7,8,9,10],@jC.cY_,fun _ _ _ _ _ _ _=>jb fun _=>(jb fun _=>(jr (jb fun _=>(jb fun _=>(jr ja ja))) (jb fun _=>(jr (jb fun _=>(jb fun _=>(jr ja ja))) (jb fun _=>(jr ja ja))))))⟩
def jC (ua:Z7) (ub:Int) (uc:Int) (ud:Z7) (ue:Int):Option (Z8×Z7×Int×Int×Z7×Int×Unit):= bnd (ji ua ub uc ud ue) fun y=>bnd (jC.c3 some) fun y1=>br (y.2.1==(↑(List.length y.1):Int)) (some (((0:Int),[],y.2.1),y.1,y.2.1,y.2.2.1,y.2.2.2.1,y.2.2.2.2.1,())) (bnd (jC.cY_ y.1 y.2.1 y.2.2.1 y.2.2.2.1 y.2.2.2.2.1 some) fun y2=>some ((y2.1,y2.2.1,y.2.1),y2.2.2.1,y2.2.2.2.1,y2.2.2.2.2.1,y2.2.2.2.2.2.1,y2.2.2.2.2.2.2,()))
def jC.mc:MCallee:=⟨24,jC.pre,jC.post,fun X=>jC X.1 X.2.1 X.2.2.1 X.2.2.2.1 (q4 X).1⟩
def jC.G:EB Za:=⟨tb,Tryz.f24,[⟨52,kn.ce,kn.ok⟩,⟨56,JT.ce,JT.ok⟩,⟨55,kl.ce,kl.ok⟩],[0,2,3,4,21,38,40,49,51,71],[1000100],[(5,[]),(3,[])],[(220510,jC.cY_r.ck),(15,jC.c15r.ck),(5,jC.c5r.ck),(3,jC.c3r.ck)],[⟨51,ji.mc,ji.ok⟩,⟨53,jz.mc,jz.ok⟩,⟨57,jB.mc,jB.ok⟩,⟨1000055,jx.mc,jx.ok⟩],[]⟩
theorem jC.ok:MOk Za 24 jC.mc:=fnM jC.G (mc:=jC.mc) Tryz.func24 (m:=4) ⟨⟨⟨⟨trivial,kR jC.c3r⟩,kJ jC.cY_r⟩,kR jC.c5r⟩,kR jC.c15r⟩
def jL.pre:Shape:=⟨[(0,tg0)],[(1000100,tg2)]⟩
def jL.post:Shape:=⟨[(0,tg8)],[(1000100,tg2)]⟩
def jL (ua:Z7) (ub:Int) (uc:Int) (ud:Z7) (ue:Int):Option (Z8×Z7×Int×Int×Z7×Int×Unit):= bnd (jC ua ub uc ud ue) fun y=>some ((uc,ud,ue),y.2.1,y.2.2.1,y.1.1,y.1.2.1,y.1.2.2,())
def jL.mc:MCallee:=⟨14,jL.pre,jL.post,fun X=>jL X.1 X.2.1 X.2.2.1 X.2.2.2.1 (q4 X).1⟩
def jL.G:EB Za:=⟨tb,Tryz.f14,[],[0,2,3],[1000100],[],[],[⟨24,jC.mc,jC.ok⟩],[]⟩
theorem jL.ok:MOk Za 14 jL.mc:=fnM jL.G (mc:=jL.mc) Tryz.func14 (m:=0) trivial
def jv.pre:Shape:=⟨[(0,tg0),(1,tg1)],[(1000100,tg2)]⟩
def jv.post:Shape:=⟨[(0,tg3)],[(1000100,tg2)]⟩
def jv (w:Z7) (ua:Z7) (ub:Int) (uc:Int) (ud:Z7) (ue:Int):Option (Bool×Z7×Int×Int×Z7×Int×Unit):= bnd (jQ w ua ub uc ud ue) fun y=>br y.1 (bnd (jL y.2.1 y.2.2.1 y.2.2.2.1 y.2.2.2.2.1 y.2.2.2.2.2.1) fun y1=>some (true,y1.2.1,y1.2.2.1,y1.2.2.2.1,y1.2.2.2.2.1,y1.2.2.2.2.2.1,())) (some (false,y.2.1,y.2.2.1,y.2.2.2.1,y.2.2.2.2.1,y.2.2.2.2.2.1,()))
def jv.mc:MCallee:=⟨25,jv.pre,jv.post,fun X=>jv X.1 X.2.1 X.2.2.1 X.2.2.2.1 (q4 X).1 (q4 X).2.1⟩
def jv.G:EB Za:=⟨tb,Tryz.f25,[],[0,1,4,7],[1000100],[],[],[⟨58,jQ.mc,jQ.ok⟩,⟨14,jL.mc,jL.ok⟩],[]⟩
theorem jv.ok:MOk Za 25 jv.mc:=fnM jv.G (mc:=jv.mc) Tryz.func25 (m:=0) trivial
abbrev tg12:SD:=.one (.val (.ifc 35 (.st (.int .i64))))
def JD.pre:Shape:=⟨[(0,tg0)],[(1000100,tg2)]⟩
def JD.post:Shape:=⟨[],[(1000100,tg2)]⟩
def JD.post2:Shape:=⟨[(0,tg12)],[(1000100,tg2)]⟩
def JD (ua:Z7) (ub:Int) (uc:Int) (ud:Z7) (ue:Int):Option ((Z7×Int×Int×Z7×Int×Unit)⊕(Int×Z7×Int×Int×Z7×Int×Unit)):= some (Sum.inr (ue,ua,ub,uc,ud,ue,()))
def JD.ma:MAlt:=⟨59,JD.pre,JD.post,true,JD.post2,fun X=>JD X.1 X.2.1 X.2.2.1 X.2.2.2.1 (q4 X).1⟩
def JD.G:EB Za:=⟨tb,Tryz.f59,[],[0],[1000100],[],[],[],[]⟩
theorem JD.ok:AltOk Za 59 JD.ma:=fnA JD.G (ma:=JD.ma) Tryz.func59 (m:=0) trivial
abbrev tg13:SO:=.clo 0 [] [.val (.ifc 35 (.st (.int .i64)))]
def jM.pre:Shape:=⟨[(0,tg0)],[(1000100,tg2)]⟩
def jM.post:Shape:=⟨[(0,tg8)],[(1000100,tg2)]⟩
def jM.post2:Shape:=⟨[(0,tg12)],[(1000100,tg2)]⟩
def jM.ch_ (ua:Z7)(ub:Int)(uc:Int)(ud:Z7)(ue:Int)(Z:(Z7×Int×Int×Z7×Int)⊕(Int×Z7×Int×Int×Z7×Int)→Option ρ):Option ρ:= br (uc !=1) (bnd (JD ua ub uc ud ue) fun y=>sel y (fun u=>Z (.inl (u.1,u.2.1,u.2.2.1,u.2.2.2.1,u.2.2.2.2.1))) (fun v=>Z (.inr (v.1,v.2.1,v.2.2.1,v.2.2.2.1,v.2.2.2.2.1,v.2.2.2.2.2.1)))) (Z (.inl (ua,ub,uc,ud,ue)))
def jM.ch_s:Shape:=((jM.pre.s 2 tg9).o 2 tg11)
def jM.ch_x1:Shape:=(jM.ch_s.o 900001 tg13)
def jM.ch_r:RC:=⟨jM.ch_s,[(jM.ch_s,0,[3,205]),(jM.ch_x1,1000000,[3,205,101])],no,[3,4,5,6,7],@jM.ch_,fun _ _ _ _ _ _ _=>jr (jb fun _=>(JN (fun _=>ja) (fun _=>ja))) ja⟩
def jM (ua:Z7) (ub:Int) (uc:Int) (ud:Z7) (ue:Int):Option ((Z8×Z7×Int×Int×Z7×Int×Unit)⊕(Int×Z7×Int×Int×Z7×Int×Unit)):= bnd (jM.ch_ ua ub uc ud ue some) fun y=>sel y (fun u=>bnd (jL u.1 u.2.1 u.2.2.1 u.2.2.2.1 u.2.2.2.2) fun y1=>some (Sum.inl ((y1.1.1,y1.1.2.1,y1.1.2.2),y1.2.1,y1.2.2.1,y1.2.2.2.1,y1.2.2.2.2.1,y1.2.2.2.2.2.1,()))) (fun v=>some (Sum.inr (v.1,v.2.1,v.2.2.1,v.2.2.2.1,v.2.2.2.2.1,v.2.2.2.2.2,())))
def jM.ma:MAlt:=⟨26,jM.pre,jM.post,true,jM.post2,fun X=>jM X.1 X.2.1 X.2.2.1 X.2.2.2.1 (q4 X).1⟩
def jM.G:EB Za:=⟨tb,Tryz.f26,[],[0,2,8],[1000100],[],[(204101,jM.ch_r.ck)],[⟨14,jL.mc,jL.ok⟩],[⟨59,JD.ma,JD.ok⟩]⟩
theorem jM.ok:AltOk Za 26 jM.ma:=fnA jM.G (ma:=jM.ma) Tryz.func26 (m:=1) ⟨trivial,kJ jM.ch_r⟩
abbrev tg14:SD:=.one (.ref 4 0)
def jw.pre:Shape:=⟨[(0,tg0),(1,tg1)],[(1000100,tg2)]⟩
def jw.post:Shape:=⟨[(0,tg8)],[(1000100,tg2)]⟩
def jw.post2:Shape:=⟨[(0,tg12)],[(1000100,tg2)]⟩
def jw.ch_ (w:Z7)(ua:Z7)(ub:Int)(uc:Int)(ud:Z7)(ue:Int)(Z:(Z7×Int×Int×Z7×Int)⊕(Int×Z7×Int×Int×Z7×Int)→Option ρ):Option ρ:= bnd (jQ w ua ub uc ud ue) fun y=>br (!y.1) (bnd (JD y.2.1 y.2.2.1 y.2.2.2.1 y.2.2.2.2.1 y.2.2.2.2.2.1) fun y1=>sel y1 (fun u=>Z (.inl (u.1,u.2.1,u.2.2.1,u.2.2.2.1,u.2.2.2.2.1))) (fun v=>Z (.inr (v.1,v.2.1,v.2.2.1,v.2.2.2.1,v.2.2.2.2.1,v.2.2.2.2.2.1)))) (Z (.inl (y.2.1,y.2.2.1,y.2.2.2.1,y.2.2.2.2.1,y.2.2.2.2.2.1)))
def jw.ch_s:Shape:=((jw.pre.s 4 tg14).o 4 tg11)
def jw.ch_x1:Shape:=(jw.ch_s.o 900001 tg13)
def jw.ch_r:RC:=⟨jw.ch_s,[(jw.ch_s,0,[4,205]),(jw.ch_x1,1000000,[4,205,101])],no,[0,4,5,6,7,8],@jw.ch_,fun _ _ _ _ _ _ _ _=>jb fun _=>(jr (jb fun _=>(JN (fun _=>ja) (fun _=>ja))) ja)⟩
def jw (w:Z7) (ua:Z7) (ub:Int) (uc:Int) (ud:Z7) (ue:Int):Option ((Z8×Z7×Int×Int×Z7×Int×Unit)⊕(Int×Z7×Int×Int×Z7×Int×Unit)):= bnd (jw.ch_ w ua ub uc ud ue some) fun y=>sel y (fun u=>bnd (jL u.1 u.2.1 u.2.2.1 u.2.2.2.1 u.2.2.2.2) fun y1=>some (Sum.inl ((y1.1.1,y1.1.2.1,y1.1.2.2),y1.2.1,y1.2.2.1,y1.2.2.2.1,y1.2.2.2.2.1,y1.2.2.2.2.2.1,()))) (fun v=>some (Sum.inr (v.1,v.2.1,v.2.2.1,v.2.2.2.1,v.2.2.2.2.1,v.2.2.2.2.2,())))
def jw.ma:MAlt:=⟨27,jw.pre,jw.post,true,jw.post2,fun X=>jw X.1 X.2.1 X.2.2.1 X.2.2.2.1 (q4 X).1 (q4 X).2.1⟩
def jw.G:EB Za:=⟨tb,Tryz.f27,[],[0,1,4,8],[1000100],[],[(204101,jw.ch_r.ck)],[⟨58,jQ.mc,jQ.ok⟩,⟨14,jL.mc,jL.ok⟩],[⟨59,JD.ma,JD.ok⟩]⟩
theorem jw.ok:AltOk Za 27 jw.ma:=fnA jw.G (ma:=jw.ma) Tryz.func27 (m:=1) ⟨trivial,kJ jw.ch_r⟩
def Ji.cx_ (t3:Z7)(Z:Bool→Option ρ):Option ρ:= br (t3==Z6 [61,61]) (Z (t3==Z6 [61,61])) (br (t3==Z6 [33,61]) (Z (t3==Z6 [33,61])) (br (t3==Z6 [60]) (Z (t3==Z6 [60])) (br (t3==Z6 [60,61]) (Z (t3==Z6 [60,61])) (br (t3==Z6 [62]) (Z (t3==Z6 [62])) (Z (t3==Z6 [62,61]))))))
def Ji.cx_s:Shape:=⟨[(0,tg1),(2,tg6),(3,tg1)],[]⟩
def Ji.cx_x0:Shape:=(Ji.cx_s.s 4 tg3)
def Ji.cx_r:RC:=⟨Ji.cx_s,[(Ji.cx_x0,0,[3,101])],no,[2],@Ji.cx_,fun _ _ _=>jr ja (jr ja (jr ja (jr ja (jr ja ja))))⟩
def Ji.cE_ (t3:Z7)(Z:Bool→Option ρ):Option ρ:= br (t3==Z6 [43]) (Z (t3==Z6 [43])) (Z (t3==Z6 [45]))
def Ji.cE_x0:Shape:=(Ji.cx_x0.s 11 tg3)
def Ji.cE_r:RC:=⟨Ji.cx_x0,[(Ji.cE_x0,0,[4,101])],no,[2],@Ji.cE_,fun _ _ _=>jr ja ja⟩
def Ji.cO_ (t3:Z7)(Z:Bool→Option ρ):Option ρ:= br (t3==Z6 [42]) (Z (t3==Z6 [42])) (br (t3==Z6 [47]) (Z (t3==Z6 [47])) (Z (t3==Z6 [37])))
def Ji.cO_x0:Shape:=(Ji.cE_x0.s 14 tg3)
def Ji.cO_r:RC:=⟨Ji.cE_x0,[(Ji.cO_x0,0,[5,101])],no,[2],@Ji.cO_,fun _ _ _=>jr ja (jr ja ja)⟩
def Ji (w:Z7):Option Int:= bnd (Ji.cx_ w some) fun y=>br y (some (1:Int)) (bnd (Ji.cE_ w some) fun y1=>br y1 (some (2:Int)) (bnd (Ji.cO_ w some) fun y2=>br y2 (some (3:Int)) (br (w==Z6 [42,42]) (some (5:Int)) (some (0:Int)))))
def Ji.ce:=ceOf tab Tryz.f61 Ji
def Ji.G:EB Za:=⟨tb,Tryz.f61,[],[0,2,3,4,11,14,18],[1002082130004,1002368690011,1002491610014,2000000000004,2000000000011,2000000000014],[],[(249161,Ji.cO_r.ck),(236869,Ji.cE_r.ck),(208213,Ji.cx_r.ck)],[],[]⟩
theorem Ji.ok:CalleeOk Za 61 Ji.ce:=fnB Ji.G Tryz.func61 (m:=3) ⟨⟨⟨trivial,kJ Ji.cx_r⟩,kJ Ji.cE_r⟩,kJ Ji.cO_r⟩
def kF (t:Int×(Z7×Int)) (a:Z9) (b:Z9):Option Z9:= some (Rose.mk ((24:Int),t.2.2,t.2.1,(0:Int)) [Rose.mk (a.head.1,a.head.2.1,a.head.2.2.1,a.head.2.2.2) a.kids,Rose.mk (b.head.1,b.head.2.1,b.head.2.2.1,b.head.2.2.2) b.kids])
def kF.ce:=ceOf tab Tryz.f62 kF
def kF.G:EB Za:=⟨tb,Tryz.f62,[],[0,1,2,3,4,5,6],[],[],[],[],[]⟩
theorem kF.ok:CalleeOk Za 62 kF.ce:=fnB kF.G Tryz.func62 (m:=0) trivial
def JR (kind:Int) (t:Int×(Z7×Int)) (kids:List Z9):Option Z9:= some (Rose.mk (kind,t.2.2,[],(0:Int)) kids)
def JR.ce:=ceOf tab Tryz.f68 JR
def JR.G:EB Za:=⟨tb,Tryz.f68,[],[0,1,2,4,6],[],[],[],[],[]⟩
theorem JR.ok:CalleeOk Za 68 JR.ce:=fnB JR.G Tryz.func68 (m:=0) trivial
def JM (kind:Int) (t:Int×(Z7×Int)) (w:Int×(Z7×Int)) (kids:List Z9):Option Z9:= some (Rose.mk (kind,t.2.2,w.2.1,(0:Int)) kids)
def JM.ce:=ceOf tab Tryz.f29 JM
def JM.G:EB Za:=⟨tb,Tryz.f29,[],[0,1,2,3,5,6,8],[],[],[],[],[]⟩
theorem JM.ok:CalleeOk Za 29 JM.ce:=fnB JM.G Tryz.func29 (m:=0) trivial
abbrev tg15:SD:=.one (.val (.st (.node (.pair (.int .i64) (.pair (.int .i64) (.pair .str (.int .i64)))))))
abbrev tg16:SD:=.one (.clo 1000090)
abbrev tg17:SO:=.clo 103 [.ref 1000100 0] []
abbrev tg18:SO:=.clo 123 [.ref 1000100 0] []
abbrev tg19:SO:=.box [.val (.int .i64),.val (.int .i64),.val .str,.val (.int .i64),.val (.sl (.st (.node (.pair (.int .i64) (.pair (.int .i64) (.pair .str (.int .i64)))))))]
abbrev tg20:SD:=.one (.ref 6 0)
abbrev tg21:SD:=.one (.ref 7 0)
abbrev tg22:SD:=.one (.ref 8 0)
abbrev tg23:SD:=.one (.ref 5 0)
def ju.self.pre:Shape:=⟨[(0,tg0)],[(1000100,tg2)]⟩
def ju.self.post:Shape:=⟨[(0,tg15)],[(1000100,tg2)]⟩
def ju.self.post2:Shape:=⟨[(0,tg12)],[(1000100,tg2)]⟩
def Jb.self.pre:Shape:=⟨[(0,tg0)],[(1000100,tg2)]⟩
def Jb.self.post:Shape:=⟨[(0,tg15)],[(1000100,tg2)]⟩
def Jb.self.post2:Shape:=⟨[(0,tg12)],[(1000100,tg2)]⟩
def jg.self.pre:Shape:=⟨[(0,tg0),(1,tg6),(2,tg16)],[(1000090,tg17),(1000100,tg2)]⟩
def jg.self.post:Shape:=⟨[(0,tg15)],[(1000090,tg17),(1000100,tg2)]⟩
def jg.self.post2:Shape:=⟨[(0,tg12)],[(1000090,tg17),(1000100,tg2)]⟩
def jN.self.pre:Shape:=⟨[(0,tg0)],[(1000100,tg2)]⟩
def jN.self.post:Shape:=⟨[(0,tg15)],[(1000100,tg2)]⟩
def jN.self.post2:Shape:=⟨[(0,tg12)],[(1000100,tg2)]⟩
def jh.self.pre:Shape:=⟨[(0,tg0),(1,tg6),(2,tg16)],[(1000090,tg18),(1000100,tg2)]⟩
def jh.self.post:Shape:=⟨[(0,tg15)],[(1000090,tg18),(1000100,tg2)]⟩
def jh.self.post2:Shape:=⟨[(0,tg12)],[(1000090,tg18),(1000100,tg2)]⟩
def jq.self.pre:Shape:=⟨[(0,tg0)],[(1000100,tg2)]⟩
def jq.self.post:Shape:=⟨[(0,tg15)],[(1000100,tg2)]⟩
def jq.self.post2:Shape:=⟨[(0,tg12)],[(1000100,tg2)]⟩
def jX.self.pre:Shape:=⟨[(0,tg0)],[(1000100,tg2)]⟩
def jX.self.post:Shape:=⟨[(0,tg15)],[(1000100,tg2)]⟩
def jX.self.post2:Shape:=⟨[(0,tg12)],[(1000100,tg2)]⟩
class Jj.Self where
  F_tongue_parser_expr_b:densU ju.self.pre.tys→Option (densU ju.self.post.tys⊕densU ju.self.post2.tys)
  ok_tongue_parser_expr_b:AltOk Za 28 ⟨28,ju.self.pre,ju.self.post,true,ju.self.post2,F_tongue_parser_expr_b⟩
  F_tongue_parser_sum_b:densU Jb.self.pre.tys→Option (densU Jb.self.post.tys⊕densU Jb.self.post2.tys)
  ok_tongue_parser_sum_b:AltOk Za 60 ⟨60,Jb.self.pre,Jb.self.post,true,Jb.self.post2,F_tongue_parser_sum_b⟩
  F_tongue_parser_chain__product_b:densU jg.self.pre.tys→Option (densU jg.self.post.tys⊕densU jg.self.post2.tys)
  ok_tongue_parser_chain__product_b:AltOk Za 102 ⟨102,jg.self.pre,jg.self.post,true,jg.self.post2,F_tongue_parser_chain__product_b⟩
  F_tongue_parser_product_b:densU jN.self.pre.tys→Option (densU jN.self.post.tys⊕densU jN.self.post2.tys)
  ok_tongue_parser_product_b:AltOk Za 103 ⟨103,jN.self.pre,jN.self.post,true,jN.self.post2,F_tongue_parser_product_b⟩
  F_tongue_parser_chain__unary_b:densU jh.self.pre.tys→Option (densU jh.self.post.tys⊕densU jh.self.post2.tys)
  ok_tongue_parser_chain__unary_b:AltOk Za 102 ⟨102,jh.self.pre,jh.self.post,true,jh.self.post2,F_tongue_parser_chain__unary_b⟩
  F_tongue_parser_unary_b:densU jq.self.pre.tys→Option (densU jq.self.post.tys⊕densU jq.self.post2.tys)
  ok_tongue_parser_unary_b:AltOk Za 123 ⟨123,jq.self.pre,jq.self.post,true,jq.self.post2,F_tongue_parser_unary_b⟩
  F_tongue_parser_atom_b:densU jX.self.pre.tys→Option (densU jX.self.post.tys⊕densU jX.self.post2.tys)
  ok_tongue_parser_atom_b:AltOk Za 131 ⟨131,jX.self.pre,jX.self.post,true,jX.self.post2,F_tongue_parser_atom_b⟩
section
variable [Jj.Self]
def ju.self (X:densU ju.self.pre.tys):Option (densU ju.self.post.tys⊕densU ju.self.post2.tys):=Jj.Self.F_tongue_parser_expr_b X
def ju.self.ma:MAlt:=⟨28,ju.self.pre,ju.self.post,true,ju.self.post2,fun X=>ju.self X⟩
theorem ju.self.ok:AltOk Za 28 ju.self.ma:=Jj.Self.ok_tongue_parser_expr_b
def Jb.self (X:densU Jb.self.pre.tys):Option (densU Jb.self.post.tys⊕densU Jb.self.post2.tys):=Jj.Self.F_tongue_parser_sum_b X
def Jb.self.ma:MAlt:=⟨60,Jb.self.pre,Jb.self.post,true,Jb.self.post2,fun X=>Jb.self X⟩
theorem Jb.self.ok:AltOk Za 60 Jb.self.ma:=Jj.Self.ok_tongue_parser_sum_b
def jg.self (X:densU jg.self.pre.tys):Option (densU jg.self.post.tys⊕densU jg.self.post2.tys):=Jj.Self.F_tongue_parser_chain__product_b X
def jg.self.ma:MAlt:=⟨102,jg.self.pre,jg.self.post,true,jg.self.post2,fun X=>jg.self X⟩
theorem jg.self.ok:AltOk Za 102 jg.self.ma:=Jj.Self.ok_tongue_parser_chain__product_b
def jN.self (X:densU jN.self.pre.tys):Option (densU jN.self.post.tys⊕densU jN.self.post2.tys):=Jj.Self.F_tongue_parser_product_b X
def jN.self.ma:MAlt:=⟨103,jN.self.pre,jN.self.post,true,jN.self.post2,fun X=>jN.self X⟩
theorem jN.self.ok:AltOk Za 103 jN.self.ma:=Jj.Self.ok_tongue_parser_product_b
def jh.self (X:densU jh.self.pre.tys):Option (densU jh.self.post.tys⊕densU jh.self.post2.tys):=Jj.Self.F_tongue_parser_chain__unary_b X
def jh.self.ma:MAlt:=⟨102,jh.self.pre,jh.self.post,true,jh.self.post2,fun X=>jh.self X⟩
theorem jh.self.ok:AltOk Za 102 jh.self.ma:=Jj.Self.ok_tongue_parser_chain__unary_b
def jq.self (X:densU jq.self.pre.tys):Option (densU jq.self.post.tys⊕densU jq.self.post2.tys):=Jj.Self.F_tongue_parser_unary_b X
def jq.self.ma:MAlt:=⟨123,jq.self.pre,jq.self.post,true,jq.self.post2,fun X=>jq.self X⟩
theorem jq.self.ok:AltOk Za 123 jq.self.ma:=Jj.Self.ok_tongue_parser_unary_b
def jX.self (X:densU jX.self.pre.tys):Option (densU jX.self.post.tys⊕densU jX.self.post2.tys):=Jj.Self.F_tongue_parser_atom_b X
def jX.self.ma:MAlt:=⟨131,jX.self.pre,jX.self.post,true,jX.self.post2,fun X=>jX.self X⟩
theorem jX.self.ok:AltOk Za 131 jX.self.ma:=Jj.Self.ok_tongue_parser_atom_b
def ju.pre:Shape:=⟨[(0,tg0)],[(1000100,tg2)]⟩
def ju.post:Shape:=⟨[(0,tg15)],[(1000100,tg2)]⟩
def ju.post2:Shape:=⟨[(0,tg12)],[(1000100,tg2)]⟩
def ju.c2 {ρ:Type} (uc:Int)(ud:Z7)(Z:Bool→Option ρ):Option ρ:= br (uc==4) (bnd (Ji ud) fun y=>Z (y==1)) (Z false)
def ju.c2s:Shape:=((((ju.pre.s 2 tg9).s 3 tg10).o 2 tg19).o 3 tg19)
def ju.c2x0:Shape:=(ju.c2s.s 21 tg3)
def ju.c2r:RC:=⟨ju.c2s,[(ju.c2x0,0,[101])],no,[12,13],fun _=>ju.c2,fun _ _ _ _=>jr (jb fun _=>ja) ja⟩
def ju.c4 {ρ:Type} (a0:Int)(a1:Int)(a2:Z7)(a3:Int)(a4:List Z9)(t0:Int)(t1:Z7)(t2:Int)(ua:Z7)(ub:Int)(uc:Int)(ud:Z7)(ue:Int)(Z:(Int×Int×Z7×Int×(List Z9)×Z7×Int×Int×Z7×Int)⊕(Int×Z7×Int×Int×Z7×Int)→Option ρ):Option ρ:= bnd (Jb.self (ua,ub,uc,ud,ue,())) fun y=>sel y (fun u=>bnd (kF (t0,t1,t2) (Rose.mk (a0,a1,a2,a3) a4) u.1) fun y1=>Z (.inl (y1.head.1,y1.head.2.1,y1.head.2.2.1,y1.head.2.2.2,y1.kids,u.2.1,u.2.2.1,u.2.2.2.1,u.2.2.2.2.1,u.2.2.2.2.2.1))) (fun v=>Z (.inr (v.1,v.2.1,v.2.2.1,v.2.2.2.1,v.2.2.2.2.1,v.2.2.2.2.2.1)))
def ju.c4s:Shape:=((ju.c2s.s 4 tg14).o 4 tg11)
def ju.c4x1:Shape:=(((((ju.c4s.d 0).d 2).d 3).d 4).o 900001 tg13)
def ju.c4r:RC:=⟨ju.c4s,[(ju.c4s,0,[205,8,205]),(ju.c4x1,1000000,[13,205,101])],no,[5,6,7,8,9,10,11,12,13,14,15,16,17],fun _=>ju.c4,fun _ _ _ _ _ _ _ _ _ _ _ _ _ _ _=>jb fun _=>(JN (fun _=>(jb fun _=>ja)) (fun _=>ja))⟩
def ju (ua:Z7) (ub:Int) (uc:Int) (ud:Z7) (ue:Int):Option ((Z9×Z7×Int×Int×Z7×Int×Unit)⊕(Int×Z7×Int×Int×Z7×Int×Unit)):= bnd (Jb.self (ua,ub,uc,ud,ue,())) fun y=>sel y (fun u=>bnd (ju.c2 u.2.2.2.1 u.2.2.2.2.1 some) fun y1=>br y1 (bnd (jL u.2.1 u.2.2.1 u.2.2.2.1 u.2.2.2.2.1 u.2.2.2.2.2.1) fun y2=>bnd (ju.c4 u.1.head.1 u.1.head.2.1 u.1.head.2.2.1 u.1.head.2.2.2 u.1.kids y2.1.1 y2.1.2.1 y2.1.2.2 y2.2.1 y2.2.2.1 y2.2.2.2.1 y2.2.2.2.2.1 y2.2.2.2.2.2.1 some) fun y3=>sel y3 (fun u_1=>some (Sum.inl (Rose.mk (u_1.1,u_1.2.1,u_1.2.2.1,u_1.2.2.2.1) u_1.2.2.2.2.1,u_1.2.2.2.2.2.1,u_1.2.2.2.2.2.2.1,u_1.2.2.2.2.2.2.2.1,u_1.2.2.2.2.2.2.2.2.1,u_1.2.2.2.2.2.2.2.2.2,()))) (fun v_1=>some (Sum.inr (v_1.1,v_1.2.1,v_1.2.2.1,v_1.2.2.2.1,v_1.2.2.2.2.1,v_1.2.2.2.2.2,())))) (some (Sum.inl (Rose.mk (u.1.head.1,u.1.head.2.1,u.1.head.2.2.1,u.1.head.2.2.2) u.1.kids,u.2.1,u.2.2.1,u.2.2.2.1,u.2.2.2.2.1,u.2.2.2.2.2.1,())))) (fun v=>some (Sum.inr (v.1,v.2.1,v.2.2.1,v.2.2.2.1,v.2.2.2.2.1,v.2.2.2.2.2.1,())))
def ju.ma:MAlt:=⟨28,ju.pre,ju.post,true,ju.post2,fun X=>ju X.1 X.2.1 X.2.2.1 X.2.2.2.1 (q4 X).1⟩
def ju.G:EB Za:=⟨tb,Tryz.f28,[⟨61,Ji.ce,Ji.ok⟩,⟨62,kF.ce,kF.ok⟩],[0,2,3,4,21],[1000100],[(4,[(3,[1000100]),(5,[2])])],[(4,ju.c4r.ck),(2,ju.c2r.ck)],[⟨14,jL.mc,jL.ok⟩],[⟨60,Jb.self.ma,Jb.self.ok⟩]⟩
theorem ju.ok:AltOk Za 28 ju.ma:=fnA ju.G (ma:=ju.ma) Tryz.func28 (m:=2) ⟨⟨trivial,kR ju.c2r⟩,kR ju.c4r⟩
def Jb.pre:Shape:=⟨[(0,tg0)],[(1000100,tg2)]⟩
def Jb.post:Shape:=⟨[(0,tg15)],[(1000100,tg2)]⟩
def Jb.post2:Shape:=⟨[(0,tg12)],[(1000100,tg2)]⟩
def Jb (ua:Z7) (ub:Int) (uc:Int) (ud:Z7) (ue:Int):Option ((Z9×Z7×Int×Int×Z7×Int×Unit)⊕(Int×Z7×Int×Int×Z7×Int×Unit)):= bnd (jg.self ((2:Int),ua,ub,uc,ud,ue,())) fun y=>sel y (fun u=>some (Sum.inl (Rose.mk (u.1.head.1,u.1.head.2.1,u.1.head.2.2.1,u.1.head.2.2.2) u.1.kids,u.2.1,u.2.2.1,u.2.2.2.1,u.2.2.2.2.1,u.2.2.2.2.2.1,()))) (fun v=>some (Sum.inr (v.1,v.2.1,v.2.2.1,v.2.2.2.1,v.2.2.2.2.1,v.2.2.2.2.2.1,())))
def Jb.ma:MAlt:=⟨60,Jb.pre,Jb.post,true,Jb.post2,fun X=>Jb X.1 X.2.1 X.2.2.1 X.2.2.2.1 (q4 X).1⟩
def Jb.G:EB Za:=⟨tb,Tryz.f60,[],[0,2],[1000100],[],[],[],[⟨102,jg.self.ma,jg.self.ok⟩]⟩
theorem Jb.ok:AltOk Za 60 Jb.ma:=fnA Jb.G (ma:=Jb.ma) Tryz.func60 (m:=0) trivial
def jg.pre:Shape:=⟨[(0,tg0),(1,tg6),(2,tg16)],[(1000090,tg17),(1000100,tg2)]⟩
def jg.post:Shape:=⟨[(0,tg15)],[(1000090,tg17),(1000100,tg2)]⟩
def jg.post2:Shape:=⟨[(0,tg12)],[(1000090,tg17),(1000100,tg2)]⟩
def jg.c2 {ρ:Type} (of:Int)(uc:Int)(ud:Z7)(Z:Bool→Option ρ):Option ρ:= br (uc==4) (bnd (Ji ud) fun y=>Z (y==of)) (Z false)
def jg.c2s:Shape:=((((jg.pre.s 6 tg20).s 7 tg21).o 6 tg19).o 7 tg19)
def jg.c2x0:Shape:=(jg.c2s.s 26 tg3)
def jg.c2r:RC:=⟨jg.c2s,[(jg.c2x0,0,[1,101])],no,[0,13,14],fun _=>jg.c2,fun _ _ _ _ _=>jr (jb fun _=>ja) ja⟩
def jg.c4 {ρ:Type} (a0:Int)(a1:Int)(a2:Z7)(a3:Int)(a4:List Z9)(t0:Int)(t1:Z7)(t2:Int)(ua:Z7)(ub:Int)(uc:Int)(ud:Z7)(ue:Int)(Z:(Int×Int×Z7×Int×(List Z9)×Z7×Int×Int×Z7×Int)⊕(Int×Z7×Int×Int×Z7×Int)→Option ρ):Option ρ:= bnd (jN.self (ua,ub,uc,ud,ue,())) fun y=>sel y (fun u=>bnd (kF (t0,t1,t2) (Rose.mk (a0,a1,a2,a3) a4) u.1) fun y1=>Z (.inl (y1.head.1,y1.head.2.1,y1.head.2.2.1,y1.head.2.2.2,y1.kids,u.2.1,u.2.2.1,u.2.2.2.1,u.2.2.2.2.1,u.2.2.2.2.2.1))) (fun v=>Z (.inr (v.1,v.2.1,v.2.2.1,v.2.2.2.1,v.2.2.2.2.1,v.2.2.2.2.2.1)))
def jg.c4s:Shape:=((jg.c2s.s 8 tg22).o 8 tg11)
def jg.c4x1:Shape:=(((((((jg.c4s.d 0).d 1).d 2).d 6).d 7).d 8).o 900001 tg13)
def jg.c4r:RC:=⟨jg.c4s,[(jg.c4s,0,[6,205,3,205]),(jg.c4x1,1000000,[301,13,205,101])],no,[6,7,8,9,10,11,12,13,14,15,16,17,18],fun _=>jg.c4,fun _ _ _ _ _ _ _ _ _ _ _ _ _ _ _=>jb fun _=>(JN (fun _=>(jb fun _=>ja)) (fun _=>ja))⟩
def jg.ca_ {ρ:Type} (of:Int)(a0:Int)(a1:Int)(a2:Z7)(a3:Int)(a4:List Z9)(ua:Z7)(ub:Int)(uc:Int)(ud:Z7)(ue:Int)(Z:(Int×Int×Z7×Int×(List Z9)×Z7×Int×Int×Z7×Int)⊕((Int×Int×Z7×Int×(List Z9)×Int×Z7×Int×Int×Z7×Int)⊕(Int×Int×Z7×Int×(List Z9)×Z7×Int×Int×Z7×Int))→Option ρ):Option ρ:= bnd (jg.c2 of uc ud some) fun y=>br y (bnd (jL ua ub uc ud ue) fun y1=>bnd (jg.c4 a0 a1 a2 a3 a4 y1.1.1 y1.1.2.1 y1.1.2.2 y1.2.1 y1.2.2.1 y1.2.2.2.1 y1.2.2.2.2.1 y1.2.2.2.2.2.1 some) fun y2=>sel y2 (fun u=>Z (.inl (u.1,u.2.1,u.2.2.1,u.2.2.2.1,u.2.2.2.2.1,u.2.2.2.2.2.1,u.2.2.2.2.2.2.1,u.2.2.2.2.2.2.2.1,u.2.2.2.2.2.2.2.2.1,u.2.2.2.2.2.2.2.2.2))) (fun v=>Z (.inr (.inl (a0,a1,a2,a3,a4,v.1,v.2.1,v.2.2.1,v.2.2.2.1,v.2.2.2.2.1,v.2.2.2.2.2))))) (Z (.inr (.inr (a0,a1,a2,a3,a4,ua,ub,uc,ud,ue))))
def jg.ca_x0:Shape:=(jg.c4x1.g 8)
def jg.ca_r:LC:=⟨jg.c2s,[(jg.ca_x0,1000000,[301,5,210,101]),(jg.c2s,2,[6,210])],no,[6,7,8,9,10,11,12,13,14,15],[0,6,7,8,9,10,11,12,13,14,15],fun _=>jg.ca_,fun _ _ _ _ _ _ _ _ _ _ _ _ _=>jb fun _=>(jr (jb fun _=>(jb fun _=>(JN (fun _=>ja) (fun _=>ja)))) ja)⟩
def jg (of:Int) (ua:Z7) (ub:Int) (uc:Int) (ud:Z7) (ue:Int):Option ((Z9×Z7×Int×Int×Z7×Int×Unit)⊕(Int×Z7×Int×Int×Z7×Int×Unit)):= bnd (jN.self (ua,ub,uc,ud,ue,())) fun y=>sel y (fun u=>bnd (iter (fun s↦jg.ca_ of s.1 s.2.1 s.2.2.1 s.2.2.2.1 s.2.2.2.2.1 s.2.2.2.2.2.1 s.2.2.2.2.2.2.1 s.2.2.2.2.2.2.2.1 s.2.2.2.2.2.2.2.2.1 s.2.2.2.2.2.2.2.2.2 some) (u.1.head.1,u.1.head.2.1,u.1.head.2.2.1,u.1.head.2.2.2,Rose.kids u.1,u.2.1,u.2.2.1,u.2.2.2.1,u.2.2.2.2.1,u.2.2.2.2.2.1)) fun y1=>sel y1 (fun u_1=>some (Sum.inr (u_1.2.2.2.2.2.1,u_1.2.2.2.2.2.2.1,u_1.2.2.2.2.2.2.2.1,u_1.2.2.2.2.2.2.2.2.1,u_1.2.2.2.2.2.2.2.2.2.1,u_1.2.2.2.2.2.2.2.2.2.2,()))) (fun v_1=>some (Sum.inl (Rose.mk (v_1.1,v_1.2.1,v_1.2.2.1,v_1.2.2.2.1) v_1.2.2.2.2.1,v_1.2.2.2.2.2.1,v_1.2.2.2.2.2.2.1,v_1.2.2.2.2.2.2.2.1,v_1.2.2.2.2.2.2.2.2.1,v_1.2.2.2.2.2.2.2.2.2,())))) (fun v=>some (Sum.inr (v.1,v.2.1,v.2.2.1,v.2.2.2.1,v.2.2.2.2.1,v.2.2.2.2.2.1,())))
def jg.ma:MAlt:=⟨102,jg.pre,jg.post,true,jg.post2,fun X=>jg X.1 X.2.1 X.2.2.1 X.2.2.2.1 (q4 X).1 (q4 X).2.1⟩
def jg.G:EB Za:=⟨tb,Tryz.f102,[⟨61,Ji.ce,Ji.ok⟩,⟨62,kF.ce,kF.ok⟩],[0,1,2,6,7,8,26],[1000100],[(4,[(3,[1000100]),(5,[7])])],[(100002,jg.ca_r.ck),(4,jg.c4r.ck),(2,jg.c2r.ck)],[⟨14,jL.mc,jL.ok⟩],[⟨103,jN.self.ma,jN.self.ok⟩]⟩
theorem jg.ok:AltOk Za 102 jg.ma:=fnA jg.G (ma:=jg.ma) Tryz.func102 (m:=3) ⟨⟨⟨trivial,kL jg.ca_r⟩,kR jg.c2r⟩,kR jg.c4r⟩
def jN.pre:Shape:=⟨[(0,tg0)],[(1000100,tg2)]⟩
def jN.post:Shape:=⟨[(0,tg15)],[(1000100,tg2)]⟩
def jN.post2:Shape:=⟨[(0,tg12)],[(1000100,tg2)]⟩
def jN (ua:Z7) (ub:Int) (uc:Int) (ud:Z7) (ue:Int):Option ((Z9×Z7×Int×Int×Z7×Int×Unit)⊕(Int×Z7×Int×Int×Z7×Int×Unit)):= bnd (jh.self ((3:Int),ua,ub,uc,ud,ue,())) fun y=>sel y (fun u=>some (Sum.inl (Rose.mk (u.1.head.1,u.1.head.2.1,u.1.head.2.2.1,u.1.head.2.2.2) u.1.kids,u.2.1,u.2.2.1,u.2.2.2.1,u.2.2.2.2.1,u.2.2.2.2.2.1,()))) (fun v=>some (Sum.inr (v.1,v.2.1,v.2.2.1,v.2.2.2.1,v.2.2.2.2.1,v.2.2.2.2.2.1,())))
def jN.ma:MAlt:=⟨103,jN.pre,jN.post,true,jN.post2,fun X=>jN X.1 X.2.1 X.2.2.1 X.2.2.2.1 (q4 X).1⟩
def jN.G:EB Za:=⟨tb,Tryz.f103,[],[0,2],[1000100],[],[],[],[⟨102,jh.self.ma,jh.self.ok⟩]⟩
theorem jN.ok:AltOk Za 103 jN.ma:=fnA jN.G (ma:=jN.ma) Tryz.func103 (m:=0) trivial
def jh.pre:Shape:=⟨[(0,tg0),(1,tg6),(2,tg16)],[(1000090,tg18),(1000100,tg2)]⟩
def jh.post:Shape:=⟨[(0,tg15)],[(1000090,tg18),(1000100,tg2)]⟩
def jh.post2:Shape:=⟨[(0,tg12)],[(1000090,tg18),(1000100,tg2)]⟩
def jh.c2 {ρ:Type} (of:Int)(uc:Int)(ud:Z7)(Z:Bool→Option ρ):Option ρ:= br (uc==4) (bnd (Ji ud) fun y=>Z (y==of)) (Z false)
def jh.c2s:Shape:=((((jh.pre.s 6 tg20).s 7 tg21).o 6 tg19).o 7 tg19)
def jh.c2x0:Shape:=(jh.c2s.s 26 tg3)
def jh.c2r:RC:=⟨jh.c2s,[(jh.c2x0,0,[1,101])],no,[0,13,14],fun _=>jh.c2,fun _ _ _ _ _=>jr (jb fun _=>ja) ja⟩
def jh.c4 {ρ:Type} (a0:Int)(a1:Int)(a2:Z7)(a3:Int)(a4:List Z9)(t0:Int)(t1:Z7)(t2:Int)(ua:Z7)(ub:Int)(uc:Int)(ud:Z7)(ue:Int)(Z:(Int×Int×Z7×Int×(List Z9)×Z7×Int×Int×Z7×Int)⊕(Int×Z7×Int×Int×Z7×Int)→Option ρ):Option ρ:= bnd (jq.self (ua,ub,uc,ud,ue,())) fun y=>sel y (fun u=>bnd (kF (t0,t1,t2) (Rose.mk (a0,a1,a2,a3) a4) u.1) fun y1=>Z (.inl (y1.head.1,y1.head.2.1,y1.head.2.2.1,y1.head.2.2.2,y1.kids,u.2.1,u.2.2.1,u.2.2.2.1,u.2.2.2.2.1,u.2.2.2.2.2.1))) (fun v=>Z (.inr (v.1,v.2.1,v.2.2.1,v.2.2.2.1,v.2.2.2.2.1,v.2.2.2.2.2.1)))
def jh.c4s:Shape:=((jh.c2s.s 8 tg22).o 8 tg11)
def jh.c4x1:Shape:=(((((((jh.c4s.d 0).d 1).d 2).d 6).d 7).d 8).o 900001 tg13)
def jh.c4r:RC:=⟨jh.c4s,[(jh.c4s,0,[6,205,3,205]),(jh.c4x1,1000000,[301,13,205,101])],no,[6,7,8,9,10,11,12,13,14,15,16,17,18],fun _=>jh.c4,fun _ _ _ _ _ _ _ _ _ _ _ _ _ _ _=>jb fun _=>(JN (fun _=>(jb fun _=>ja)) (fun _=>ja))⟩
def jh.ca_ {ρ:Type} (of:Int)(a0:Int)(a1:Int)(a2:Z7)(a3:Int)(a4:List Z9)(ua:Z7)(ub:Int)(uc:Int)(ud:Z7)(ue:Int)(Z:(Int×Int×Z7×Int×(List Z9)×Z7×Int×Int×Z7×Int)⊕((Int×Int×Z7×Int×(List Z9)×Int×Z7×Int×Int×Z7×Int)⊕(Int×Int×Z7×Int×(List Z9)×Z7×Int×Int×Z7×Int))→Option ρ):Option ρ:= bnd (jh.c2 of uc ud some) fun y=>br y (bnd (jL ua ub uc ud ue) fun y1=>bnd (jh.c4 a0 a1 a2 a3 a4 y1.1.1 y1.1.2.1 y1.1.2.2 y1.2.1 y1.2.2.1 y1.2.2.2.1 y1.2.2.2.2.1 y1.2.2.2.2.2.1 some) fun y2=>sel y2 (fun u=>Z (.inl (u.1,u.2.1,u.2.2.1,u.2.2.2.1,u.2.2.2.2.1,u.2.2.2.2.2.1,u.2.2.2.2.2.2.1,u.2.2.2.2.2.2.2.1,u.2.2.2.2.2.2.2.2.1,u.2.2.2.2.2.2.2.2.2))) (fun v=>Z (.inr (.inl (a0,a1,a2,a3,a4,v.1,v.2.1,v.2.2.1,v.2.2.2.1,v.2.2.2.2.1,v.2.2.2.2.2))))) (Z (.inr (.inr (a0,a1,a2,a3,a4,ua,ub,uc,ud,ue))))
def jh.ca_x0:Shape:=(jh.c4x1.g 8)
def jh.ca_r:LC:=⟨jh.c2s,[(jh.ca_x0,1000000,[301,5,210,101]),(jh.c2s,2,[6,210])],no,[6,7,8,9,10,11,12,13,14,15],[0,6,7,8,9,10,11,12,13,14,15],fun _=>jh.ca_,fun _ _ _ _ _ _ _ _ _ _ _ _ _=>jb fun _=>(jr (jb fun _=>(jb fun _=>(JN (fun _=>ja) (fun _=>ja)))) ja)⟩
def jh (of:Int) (ua:Z7) (ub:Int) (uc:Int) (ud:Z7) (ue:Int):Option ((Z9×Z7×Int×Int×Z7×Int×Unit)⊕(Int×Z7×Int×Int×Z7×Int×Unit)):= bnd (jq.self (ua,ub,uc,ud,ue,())) fun y=>sel y (fun u=>bnd (iter (fun s↦jh.ca_ of s.1 s.2.1 s.2.2.1 s.2.2.2.1 s.2.2.2.2.1 s.2.2.2.2.2.1 s.2.2.2.2.2.2.1 s.2.2.2.2.2.2.2.1 s.2.2.2.2.2.2.2.2.1 s.2.2.2.2.2.2.2.2.2 some) (u.1.head.1,u.1.head.2.1,u.1.head.2.2.1,u.1.head.2.2.2,Rose.kids u.1,u.2.1,u.2.2.1,u.2.2.2.1,u.2.2.2.2.1,u.2.2.2.2.2.1)) fun y1=>sel y1 (fun u_1=>some (Sum.inr (u_1.2.2.2.2.2.1,u_1.2.2.2.2.2.2.1,u_1.2.2.2.2.2.2.2.1,u_1.2.2.2.2.2.2.2.2.1,u_1.2.2.2.2.2.2.2.2.2.1,u_1.2.2.2.2.2.2.2.2.2.2,()))) (fun v_1=>some (Sum.inl (Rose.mk (v_1.1,v_1.2.1,v_1.2.2.1,v_1.2.2.2.1) v_1.2.2.2.2.1,v_1.2.2.2.2.2.1,v_1.2.2.2.2.2.2.1,v_1.2.2.2.2.2.2.2.1,v_1.2.2.2.2.2.2.2.2.1,v_1.2.2.2.2.2.2.2.2.2,())))) (fun v=>some (Sum.inr (v.1,v.2.1,v.2.2.1,v.2.2.2.1,v.2.2.2.2.1,v.2.2.2.2.2.1,())))
def jh.ma:MAlt:=⟨102,jh.pre,jh.post,true,jh.post2,fun X=>jh X.1 X.2.1 X.2.2.1 X.2.2.2.1 (q4 X).1 (q4 X).2.1⟩
def jh.G:EB Za:=⟨tb,Tryz.f102,[⟨61,Ji.ce,Ji.ok⟩,⟨62,kF.ce,kF.ok⟩],[0,1,2,6,7,8,26],[1000100],[(4,[(3,[1000100]),(5,[7])])],[(100002,jh.ca_r.ck),(4,jh.c4r.ck),(2,jh.c2r.ck)],[⟨14,jL.mc,jL.ok⟩],[⟨123,jq.self.ma,jq.self.ok⟩]⟩
theorem jh.ok:AltOk Za 102 jh.ma:=fnA jh.G (ma:=jh.ma) Tryz.func102 (m:=3) ⟨⟨⟨trivial,kL jh.ca_r⟩,kR jh.c2r⟩,kR jh.c4r⟩
def jq.pre:Shape:=⟨[(0,tg0)],[(1000100,tg2)]⟩
def jq.post:Shape:=⟨[(0,tg15)],[(1000100,tg2)]⟩
def jq.post2:Shape:=⟨[(0,tg12)],[(1000100,tg2)]⟩
def jq.c3 {ρ:Type} (t0:Int)(t1:Z7)(t2:Int)(ua:Z7)(ub:Int)(uc:Int)(ud:Z7)(ue:Int)(Z:(Int×Int×Z7×Int×(List Z9)×Z7×Int×Int×Z7×Int)⊕(Int×Z7×Int×Int×Z7×Int)→Option ρ):Option ρ:= bnd (jq.self (ua,ub,uc,ud,ue,())) fun y=>sel y (fun u=>bnd (JR (23:Int) (t0,t1,t2) [u.1]) fun y1=>Z (.inl (y1.head.1,y1.head.2.1,y1.head.2.2.1,y1.head.2.2.2,y1.kids,u.2.1,u.2.2.1,u.2.2.2.1,u.2.2.2.2.1,u.2.2.2.2.2.1))) (fun v=>Z (.inr (v.1,v.2.1,v.2.2.1,v.2.2.2.1,v.2.2.2.2.1,v.2.2.2.2.2.1)))
def jq.c3s:Shape:=((((jq.pre.s 2 tg9).s 3 tg10).o 2 tg19).o 3 tg11)
def jq.c3x1:Shape:=((((jq.c3s.d 0).d 2).d 3).o 900001 tg13)
def jq.c3r:RC:=⟨jq.c3s,[(jq.c3s,0,[205,3,205]),(jq.c3x1,1000000,[8,205,101])],no,[5,6,7,8,9,10,11,12],fun _=>jq.c3,fun _ _ _ _ _ _ _ _ _ _=>jb fun _=>(JN (fun _=>(jb fun _=>ja)) (fun _=>ja))⟩
def jq.c7 {ρ:Type} (a0:Int)(a1:Int)(a2:Z7)(a3:Int)(a4:List Z9)(t0_1:Int)(t1_1:Z7)(t2_1:Int)(ua:Z7)(ub:Int)(uc:Int)(ud:Z7)(ue:Int)(Z:(Int×Int×Z7×Int×(List Z9)×Z7×Int×Int×Z7×Int)⊕(Int×Z7×Int×Int×Z7×Int)→Option ρ):Option ρ:= bnd (jq.self (ua,ub,uc,ud,ue,())) fun y=>sel y (fun u=>bnd (kF (t0_1,t1_1,t2_1) (Rose.mk (a0,a1,a2,a3) a4) u.1) fun y1=>Z (.inl (y1.head.1,y1.head.2.1,y1.head.2.2.1,y1.head.2.2.2,y1.kids,u.2.1,u.2.2.1,u.2.2.2.1,u.2.2.2.2.1,u.2.2.2.2.2.1))) (fun v=>Z (.inr (v.1,v.2.1,v.2.2.1,v.2.2.2.1,v.2.2.2.2.1,v.2.2.2.2.2.1)))
def jq.c7s:Shape:=((((jq.c3s.s 4 tg14).s 5 tg23).o 4 tg19).o 5 tg11)
def jq.c7x1:Shape:=((jq.c3x1.o 4 tg19).o 5 tg11)
def jq.c7r:RC:=⟨jq.c7s,[(jq.c7s,0,[205,11,205]),(jq.c7x1,1000000,[16,205,101])],no,[8,9,10,11,12,13,14,15,16,17,18,19,20],fun _=>jq.c7,fun _ _ _ _ _ _ _ _ _ _ _ _ _ _ _=>jb fun _=>(JN (fun _=>(jb fun _=>ja)) (fun _=>ja))⟩
def jq (ua:Z7) (ub:Int) (uc:Int) (ud:Z7) (ue:Int):Option ((Z9×Z7×Int×Int×Z7×Int×Unit)⊕(Int×Z7×Int×Int×Z7×Int×Unit)):= bnd (jv (Z6 [45]) ua ub uc ud ue) fun y=>br y.1 (bnd (jq.c3 uc ud ue y.2.1 y.2.2.1 y.2.2.2.1 y.2.2.2.2.1 y.2.2.2.2.2.1 some) fun y1=>sel y1 (fun u=>some (Sum.inl (Rose.mk (u.1,u.2.1,u.2.2.1,u.2.2.2.1) u.2.2.2.2.1,u.2.2.2.2.2.1,u.2.2.2.2.2.2.1,u.2.2.2.2.2.2.2.1,u.2.2.2.2.2.2.2.2.1,u.2.2.2.2.2.2.2.2.2,()))) (fun v=>some (Sum.inr (v.1,v.2.1,v.2.2.1,v.2.2.2.1,v.2.2.2.2.1,v.2.2.2.2.2,())))) (bnd (jX.self (y.2.1,y.2.2.1,y.2.2.2.1,y.2.2.2.2.1,y.2.2.2.2.2.1,())) fun y2=>sel y2 (fun u_1=>bnd (jQ (Z6 [42,42]) u_1.2.1 u_1.2.2.1 u_1.2.2.2.1 u_1.2.2.2.2.1 u_1.2.2.2.2.2.1) fun y3=>br y3.1 (bnd (jL y3.2.1 y3.2.2.1 y3.2.2.2.1 y3.2.2.2.2.1 y3.2.2.2.2.2.1) fun y4=>bnd (jq.c7 u_1.1.head.1 u_1.1.head.2.1 u_1.1.head.2.2.1 u_1.1.head.2.2.2 u_1.1.kids y4.1.1 y4.1.2.1 y4.1.2.2 y4.2.1 y4.2.2.1 y4.2.2.2.1 y4.2.2.2.2.1 y4.2.2.2.2.2.1 some) fun y5=>sel y5 (fun u_2=>some (Sum.inl (Rose.mk (u_2.1,u_2.2.1,u_2.2.2.1,u_2.2.2.2.1) u_2.2.2.2.2.1,u_2.2.2.2.2.2.1,u_2.2.2.2.2.2.2.1,u_2.2.2.2.2.2.2.2.1,u_2.2.2.2.2.2.2.2.2.1,u_2.2.2.2.2.2.2.2.2.2,()))) (fun v_2=>some (Sum.inr (v_2.1,v_2.2.1,v_2.2.2.1,v_2.2.2.2.1,v_2.2.2.2.2.1,v_2.2.2.2.2.2,())))) (some (Sum.inl (Rose.mk (u_1.1.head.1,u_1.1.head.2.1,u_1.1.head.2.2.1,u_1.1.head.2.2.2) u_1.1.kids,y3.2.1,y3.2.2.1,y3.2.2.2.1,y3.2.2.2.2.1,y3.2.2.2.2.2.1,())))) (fun v_1=>some (Sum.inr (v_1.1,v_1.2.1,v_1.2.2.1,v_1.2.2.2.1,v_1.2.2.2.2.1,v_1.2.2.2.2.2.1,()))))
def jq.ma:MAlt:=⟨123,jq.pre,jq.post,true,jq.post2,fun X=>jq X.1 X.2.1 X.2.2.1 X.2.2.2.1 (q4 X).1⟩
def jq.G:EB Za:=⟨tb,Tryz.f123,[⟨68,JR.ce,JR.ok⟩,⟨62,kF.ce,kF.ok⟩],[0,2,3,4,5,11,20],[1000100],[(7,[(3,[1000100]),(5,[2])]),(3,[(2,[1000100]),(3,[15]),(4,[15]),(5,[2])])],[(7,jq.c7r.ck),(3,jq.c3r.ck)],[⟨25,jv.mc,jv.ok⟩,⟨58,jQ.mc,jQ.ok⟩,⟨14,jL.mc,jL.ok⟩],[⟨123,jq.self.ma,jq.self.ok⟩,⟨131,jX.self.ma,jX.self.ok⟩]⟩
theorem jq.ok:AltOk Za 123 jq.ma:=fnA jq.G (ma:=jq.ma) Tryz.func123 (m:=2) ⟨⟨trivial,kR jq.c3r⟩,kR jq.c7r⟩
def jX.pre:Shape:=⟨[(0,tg0)],[(1000100,tg2)]⟩
def jX.post:Shape:=⟨[(0,tg15)],[(1000100,tg2)]⟩
def jX.post2:Shape:=⟨[(0,tg12)],[(1000100,tg2)]⟩
def jX (ua:Z7) (ub:Int) (uc:Int) (ud:Z7) (ue:Int):Option ((Z9×Z7×Int×Int×Z7×Int×Unit)⊕(Int×Z7×Int×Int×Z7×Int×Unit)):= br (uc==3) (bnd (jL ua ub uc ud ue) fun y=>bnd (YR ud) fun y1=>some (Sum.inl (Rose.mk ((20:Int),ue,[],y1.1) [],y.2.1,y.2.2.1,y.2.2.2.1,y.2.2.2.2.1,y.2.2.2.2.2.1,()))) (br (uc==1) (bnd (jL ua ub uc ud ue) fun y2=>bnd (JM (21:Int) (uc,ud,ue) (uc,ud,ue) []) fun y3=>some (Sum.inl (Rose.mk (y3.head.1,y3.head.2.1,y3.head.2.2.1,y3.head.2.2.2) y3.kids,y2.2.1,y2.2.2.1,y2.2.2.2.1,y2.2.2.2.2.1,y2.2.2.2.2.2.1,()))) (bnd (jv (Z6 [115,105,122,101]) ua ub uc ud ue) fun y4=>br y4.1 (bnd (jw (Z6 [40]) y4.2.1 y4.2.2.1 y4.2.2.2.1 y4.2.2.2.2.1 y4.2.2.2.2.2.1) fun y5=>sel y5 (fun u=>bnd (jM u.2.1 u.2.2.1 u.2.2.2.1 u.2.2.2.2.1 u.2.2.2.2.2.1) fun y6=>sel y6 (fun u_1=>bnd (jw (Z6 [41]) u_1.2.1 u_1.2.2.1 u_1.2.2.2.1 u_1.2.2.2.2.1 u_1.2.2.2.2.2.1) fun y7=>sel y7 (fun u_2=>bnd (JM (22:Int) (uc,ud,ue) (u_1.1.1,u_1.1.2.1,u_1.1.2.2) []) fun y8=>some (Sum.inl (Rose.mk (y8.head.1,y8.head.2.1,y8.head.2.2.1,y8.head.2.2.2) y8.kids,u_2.2.1,u_2.2.2.1,u_2.2.2.2.1,u_2.2.2.2.2.1,u_2.2.2.2.2.2.1,()))) (fun v_2=>some (Sum.inr (v_2.1,v_2.2.1,v_2.2.2.1,v_2.2.2.2.1,v_2.2.2.2.2.1,v_2.2.2.2.2.2.1,())))) (fun v_1=>some (Sum.inr (v_1.1,v_1.2.1,v_1.2.2.1,v_1.2.2.2.1,v_1.2.2.2.2.1,v_1.2.2.2.2.2.1,())))) (fun v=>some (Sum.inr (v.1,v.2.1,v.2.2.1,v.2.2.2.1,v.2.2.2.2.1,v.2.2.2.2.2.1,())))) (bnd (jw (Z6 [40]) y4.2.1 y4.2.2.1 y4.2.2.2.1 y4.2.2.2.2.1 y4.2.2.2.2.2.1) fun y9=>sel y9 (fun u_3=>bnd (ju.self (u_3.2.1,u_3.2.2.1,u_3.2.2.2.1,u_3.2.2.2.2.1,u_3.2.2.2.2.2.1,())) fun y10=>sel y10 (fun u_4=>bnd (jw (Z6 [41]) u_4.2.1 u_4.2.2.1 u_4.2.2.2.1 u_4.2.2.2.2.1 u_4.2.2.2.2.2.1) fun y11=>sel y11 (fun u_5=>some (Sum.inl (Rose.mk (u_4.1.head.1,u_4.1.head.2.1,u_4.1.head.2.2.1,u_4.1.head.2.2.2) u_4.1.kids,u_5.2.1,u_5.2.2.1,u_5.2.2.2.1,u_5.2.2.2.2.1,u_5.2.2.2.2.2.1,()))) (fun v_5=>some (Sum.inr (v_5.1,v_5.2.1,v_5.2.2.1,v_5.2.2.2.1,v_5.2.2.2.2.1,v_5.2.2.2.2.2.1,())))) (fun v_4=>some (Sum.inr (v_4.1,v_4.2.1,v_4.2.2.1,v_4.2.2.2.1,v_4.2.2.2.2.1,v_4.2.2.2.2.2.1,())))) (fun v_3=>some (Sum.inr (v_3.1,v_3.2.1,v_3.2.2.1,v_3.2.2.2.1,v_3.2.2.2.2.1,v_3.2.2.2.2.2.1,()))))))
def jX.ma:MAlt:=⟨131,jX.pre,jX.post,true,jX.post2,fun X=>jX X.1 X.2.1 X.2.2.1 X.2.2.2.1 (q4 X).1⟩
def jX.G:EB Za:=⟨tb,Tryz.f131,[⟨136,YR.ce,YR.ok⟩,⟨29,JM.ce,JM.ok⟩],[0,2,3,4,6,7,12,28,37],[1000100],[],[],[⟨14,jL.mc,jL.ok⟩,⟨25,jv.mc,jv.ok⟩],[⟨27,jw.ma,jw.ok⟩,⟨26,jM.ma,jM.ok⟩,⟨28,ju.self.ma,ju.self.ok⟩]⟩
theorem jX.ok:AltOk Za 131 jX.ma:=fnA jX.G (ma:=jX.ma) Tryz.func131 (m:=0) trivial
end
@[reducible] def Jj.fuel:Nat→Jj.Self
  | 0=>{ F_tongue_parser_expr_b:=fun _=>none,ok_tongue_parser_expr_b:=⟨⟨Tryz.f28,Tryz.func28,by kernel_rfl,by kernel_rfl⟩,fun _ _ _ _ _ _ _ hy=>by cases hy⟩,F_tongue_parser_sum_b:=fun _=>none,ok_tongue_parser_sum_b:=⟨⟨Tryz.f60,Tryz.func60,by kernel_rfl,by kernel_rfl⟩,fun _ _ _ _ _ _ _ hy=>by cases hy⟩,F_tongue_parser_chain__product_b:=fun _=>none,ok_tongue_parser_chain__product_b:=⟨⟨Tryz.f102,Tryz.func102,by kernel_rfl,by kernel_rfl⟩,fun _ _ _ _ _ _ _ hy=>by cases hy⟩,F_tongue_parser_product_b:=fun _=>none,ok_tongue_parser_product_b:=⟨⟨Tryz.f103,Tryz.func103,by kernel_rfl,by kernel_rfl⟩,fun _ _ _ _ _ _ _ hy=>by cases hy⟩,F_tongue_parser_chain__unary_b:=fun _=>none,ok_tongue_parser_chain__unary_b:=⟨⟨Tryz.f102,Tryz.func102,by kernel_rfl,by kernel_rfl⟩,fun _ _ _ _ _ _ _ hy=>by cases hy⟩,F_tongue_parser_unary_b:=fun _=>none,ok_tongue_parser_unary_b:=⟨⟨Tryz.f123,Tryz.func123,by kernel_rfl,by kernel_rfl⟩,fun _ _ _ _ _ _ _ hy=>by cases hy⟩,F_tongue_parser_atom_b:=fun _=>none,ok_tongue_parser_atom_b:=⟨⟨Tryz.f131,Tryz.func131,by kernel_rfl,by kernel_rfl⟩,fun _ _ _ _ _ _ _ hy=>by cases hy⟩ }
  | n+1=>{ F_tongue_parser_expr_b:=fun X=>(@ju.ma (Jj.fuel n)).F X,ok_tongue_parser_expr_b:=@ju.ok (Jj.fuel n),F_tongue_parser_sum_b:=fun X=>(@Jb.ma (Jj.fuel n)).F X,ok_tongue_parser_sum_b:=@Jb.ok (Jj.fuel n),F_tongue_parser_chain__product_b:=fun X=>(@jg.ma (Jj.fuel n)).F X,ok_tongue_parser_chain__product_b:=@jg.ok (Jj.fuel n),F_tongue_parser_product_b:=fun X=>(@jN.ma (Jj.fuel n)).F X,ok_tongue_parser_product_b:=@jN.ok (Jj.fuel n),F_tongue_parser_chain__unary_b:=fun X=>(@jh.ma (Jj.fuel n)).F X,ok_tongue_parser_chain__unary_b:=@jh.ok (Jj.fuel n),F_tongue_parser_unary_b:=fun X=>(@jq.ma (Jj.fuel n)).F X,ok_tongue_parser_unary_b:=@jq.ok (Jj.fuel n),F_tongue_parser_atom_b:=fun X=>(@jX.ma (Jj.fuel n)).F X,ok_tongue_parser_atom_b:=@jX.ok (Jj.fuel n) }
def JA (X:densU ju.self.pre.tys):Option (densU ju.self.post.tys⊕densU ju.self.post2.tys):=(Jj.fuel (1000000)).F_tongue_parser_expr_b X
def JA.ma:MAlt:=⟨28,ju.self.pre,ju.self.post,true,ju.self.post2,fun X=>JA X⟩
theorem JA.ok:AltOk Za 28 JA.ma:=(Jj.fuel (1000000)).ok_tongue_parser_expr_b
abbrev tg24:SD:=.one (.ref 1000095 0)
abbrev tg25:SO:=.box [.ref 1000100 0]
def JO.pre:Shape:=⟨[(0,tg24)],[(1000095,tg25),(1000100,tg2)]⟩
def JO.post:Shape:=⟨[(0,tg15)],[(1000095,tg25),(1000100,tg2)]⟩
def JO.post2:Shape:=⟨[(0,tg12)],[(1000095,tg25),(1000100,tg2)]⟩
def JO (ua:Z7) (ub:Int) (uc:Int) (ud:Z7) (ue:Int):Option ((Z9×Z7×Int×Int×Z7×Int×Unit)⊕(Int×Z7×Int×Int×Z7×Int×Unit)):= bnd (jM ua ub uc ud ue) fun y=>sel y (fun u=>bnd (JM (6:Int) (u.1.1,u.1.2.1,u.1.2.2) (u.1.1,u.1.2.1,u.1.2.2) []) fun y1=>some (Sum.inl (Rose.mk (y1.head.1,y1.head.2.1,y1.head.2.2.1,y1.head.2.2.2) y1.kids,u.2.1,u.2.2.1,u.2.2.2.1,u.2.2.2.2.1,u.2.2.2.2.2.1,()))) (fun v=>some (Sum.inr (v.1,v.2.1,v.2.2.1,v.2.2.2.1,v.2.2.2.2.1,v.2.2.2.2.2.1,())))
def JO.ma:MAlt:=⟨64,JO.pre,JO.post,true,JO.post2,fun X=>JO X.1 X.2.1 X.2.2.1 X.2.2.2.1 (q4 X).1⟩
def JO.G:EB Za:=⟨tb,Tryz.f64,[⟨29,JM.ce,JM.ok⟩],[0,1,2],[1000095,1000100],[],[],[],[⟨26,jM.ma,jM.ok⟩]⟩
theorem JO.ok:AltOk Za 64 JO.ma:=fnA JO.G (ma:=JO.ma) Tryz.func64 (m:=0) trivial
abbrev tg26:SO:=.clo 64 [] [.ref 1000095 0]
abbrev tg27:SD:=.one (.val (.sl (.st (.node (.pair (.int .i64) (.pair (.int .i64) (.pair .str (.int .i64))))))))
abbrev tg28:SD:=.one (.own 8 0)
abbrev tg29:SO:=.arr 0 false 24 (.st (.node (.pair (.int .i64) (.pair (.int .i64) (.pair .str (.int .i64))))))
def Jv.pre:Shape:=⟨[(0,tg0),(1,tg16)],[(1000090,tg26),(1000095,tg25),(1000100,tg2)]⟩
def Jv.post:Shape:=⟨[(0,tg27)],[(1000090,tg26),(1000095,tg25),(1000100,tg2)]⟩
def Jv.post2:Shape:=⟨[(0,tg12)],[(1000090,tg26),(1000095,tg25),(1000100,tg2)]⟩
def Jv.ca_ (t8:List Z9)(ua:Z7)(ub:Int)(uc:Int)(ud:Z7)(ue:Int)(Z:((List Z9)×Z7×Int×Int×Z7×Int)⊕(((List Z9)×Int×Z7×Int×Int×Z7×Int)⊕((List Z9)×Z7×Int×Int×Z7×Int))→Option ρ):Option ρ:= bnd (jv (Z6 [44]) ua ub uc ud ue) fun y=>br y.1 (bnd (JO y.2.1 y.2.2.1 y.2.2.2.1 y.2.2.2.2.1 y.2.2.2.2.2.1) fun y1=>sel y1 (fun u=>bnd (okIf (decide ((t8.length+1)*64≤140737488355328)&&decide (t8.length+1≤140737488355328))) fun y2=>Z (.inl ((t8++[u.1]),u.2.1,u.2.2.1,u.2.2.2.1,u.2.2.2.2.1,u.2.2.2.2.2.1))) (fun v=>Z (.inr (.inl (t8,v.1,v.2.1,v.2.2.1,v.2.2.2.1,v.2.2.2.2.1,v.2.2.2.2.2.1))))) (Z (.inr (.inr (t8,y.2.1,y.2.2.1,y.2.2.2.1,y.2.2.2.2.1,y.2.2.2.2.2.1))))
def Jv.ca_s:Shape:=(((Jv.pre.s 4 tg27).s 5 tg28).o 8 tg29)
def Jv.ca_x0:Shape:=(Jv.ca_s.o 900001 tg13)
def Jv.ca_r:LC:=⟨Jv.ca_s,[(Jv.ca_x0,1000000,[1,206,101]),(Jv.ca_s,2,[1,206])],no,[1,2,3,4,5,6],[1,2,3,4,5,6],@Jv.ca_,fun _ _ _ _ _ _ _ _=>jb fun _=>(jr (jb fun _=>(JN (fun _=>(jb fun _=>ja)) (fun _=>ja))) ja)⟩
def Jv (ua:Z7) (ub:Int) (uc:Int) (ud:Z7) (ue:Int):Option (((List Z9)×Z7×Int×Int×Z7×Int×Unit)⊕(Int×Z7×Int×Int×Z7×Int×Unit)):= bnd (JO ua ub uc ud ue) fun y=>sel y (fun u=>bnd (iter (fun s↦Jv.ca_ s.1 s.2.1 s.2.2.1 s.2.2.2.1 s.2.2.2.2.1 s.2.2.2.2.2 some) ([u.1],u.2.1,u.2.2.1,u.2.2.2.1,u.2.2.2.2.1,u.2.2.2.2.2.1)) fun y1=>sel y1 (fun u_1=>some (Sum.inr (u_1.2.1,u_1.2.2.1,u_1.2.2.2.1,u_1.2.2.2.2.1,u_1.2.2.2.2.2.1,u_1.2.2.2.2.2.2,()))) (fun v_1=>some (Sum.inl (v_1.1,v_1.2.1,v_1.2.2.1,v_1.2.2.2.1,v_1.2.2.2.2.1,v_1.2.2.2.2.2,())))) (fun v=>some (Sum.inr (v.1,v.2.1,v.2.2.1,v.2.2.2.1,v.2.2.2.2.1,v.2.2.2.2.2.1,())))
def Jv.ma:MAlt:=⟨63,Jv.pre,Jv.post,true,Jv.post2,fun X=>Jv X.1 X.2.1 X.2.2.1 X.2.2.2.1 (q4 X).1⟩
def Jv.G:EB Za:=⟨tb,Tryz.f63,[],[0,1,4,5,10],[8,1000100],[],[(100002,Jv.ca_r.ck)],[⟨25,jv.mc,jv.ok⟩],[⟨64,JO.ma,JO.ok⟩]⟩
theorem Jv.ok:AltOk Za 63 Jv.ma:=fnA Jv.G (ma:=Jv.ma) Tryz.func63 (m:=1) ⟨trivial,kL Jv.ca_r⟩
def Yn (l:List Z9):Option Z9:= some (Rose.mk ((25:Int),(0:Int),[],(0:Int)) l)
def Yn.ce:=ceOf tab Tryz.f66 Yn
def Yn.G:EB Za:=⟨tb,Tryz.f66,[],[0,2],[],[],[],[],[]⟩
theorem Yn.ok:CalleeOk Za 66 Yn.ce:=fnB Yn.G Tryz.func66 (m:=0) trivial
abbrev tg30:SD:=.one (.nilS)
abbrev tg31:SD:=.agg [.val (.int .i64),.val (.int .i64),.val .str,.val (.int .i64),.nilS]
def ko.pre:Shape:=⟨[(0,tg6),(1,tg8),(2,tg30)],[]⟩
def ko.post:Shape:=⟨[(0,tg31)],[]⟩
def ko (kind:Int) (t:Int×(Z7×Int)):Option (Int×Int×Z7×Int×Unit):= some (kind,t.2.2,[],(0:Int),())
def ko.mc:MCallee:=⟨68,ko.pre,ko.post,fun X=>ko X.1 X.2.1⟩
def ko.G:EB Za:=⟨tb,Tryz.f68,[],[0,1,2,4,6],[],[],[],[],[]⟩
theorem ko.ok:MOk Za 68 ko.mc:=fnM ko.G (mc:=ko.mc) Tryz.func68 (m:=0) trivial
abbrev tg32:SO:=.box [.val (.int .i64),.val (.int .i64),.val .str,.val (.int .i64),.own 13 0]
def jy.pre:Shape:=⟨[(0,tg0),(1,tg8)],[(1000100,tg2)]⟩
def jy.post:Shape:=⟨[(0,tg15)],[(1000100,tg2)]⟩
def jy.post2:Shape:=⟨[(0,tg12)],[(1000100,tg2)]⟩
def jy.c5 (t13:List Z9)(ua:Z7)(ub:Int)(uc:Int)(ud:Z7)(ue:Int)(Z:((List Z9)×Z7×Int×Int×Z7×Int)⊕(Int×Z7×Int×Int×Z7×Int)→Option ρ):Option ρ:= bnd (JA (ua,ub,uc,ud,ue,())) fun y=>sel y (fun u=>bnd (okIf (decide ((t13.length+1)*64≤140737488355328)&&decide (t13.length+1≤140737488355328))) fun y1=>Z (.inl ((t13++[u.1]),u.2.1,u.2.2.1,u.2.2.2.1,u.2.2.2.2.1,u.2.2.2.2.2.1))) (fun v=>Z (.inr (v.1,v.2.1,v.2.2.1,v.2.2.2.1,v.2.2.2.2.1,v.2.2.2.2.2.1)))
def jy.c5s:Shape:=((((((((jy.pre.s 3 tg10).s 4 tg14).s 5 tg23).o 3 tg11).o 4 tg19).o 5 tg32).o 13 tg29).o 5005 tg29)
def jy.c5x1:Shape:=((((((jy.c5s.d 0).d 1).d 3).d 4).d 5).o 900001 tg13)
def jy.c5r:RC:=⟨jy.c5s,[(jy.c5s,0,[12,400,201,301,1,205]),(jy.c5x1,1000000,[301,14,205,101])],fun X=>((2:Int),()),[13,15,16,17,18,19],@jy.c5,fun _ _ _ _ _ _ _ _=>jb fun _=>(JN (fun _=>(jb fun _=>ja)) (fun _=>ja))⟩
def jy.co_ (r3:Int)(t13:List Z9)(ua:Z7)(ub:Int)(uc:Int)(ud:Z7)(ue:Int)(Z:(Int×(List Z9)×Z7×Int×Int×Z7×Int)⊕(Int×Z7×Int×Int×Z7×Int)→Option ρ):Option ρ:= bnd (jv (Z6 [46,46]) ua ub uc ud ue) fun y=>br y.1 (bnd (jy.c5 t13 y.2.1 y.2.2.1 y.2.2.2.1 y.2.2.2.2.1 y.2.2.2.2.2.1 some) fun y1=>sel y1 (fun u=>Z (.inl ((2:Int),u.1,u.2.1,u.2.2.1,u.2.2.2.1,u.2.2.2.2.1,u.2.2.2.2.2))) (fun v=>Z (.inr (v.1,v.2.1,v.2.2.1,v.2.2.2.1,v.2.2.2.2.1,v.2.2.2.2.2)))) (Z (.inl (r3,t13,y.2.1,y.2.2.1,y.2.2.2.1,y.2.2.2.2.1,y.2.2.2.2.2.1)))
def jy.co_r:RC:=⟨jy.c5s,[(jy.c5s,0,[12,202,1,205]),(jy.c5x1,1000000,[301,14,205,101])],no,[12,13,15,16,17,18,19],@jy.co_,fun _ _ _ _ _ _ _ _ _=>jb fun _=>(jr (jb fun _=>(JN (fun _=>ja) (fun _=>ja))) ja)⟩
def jy.cr_ (r3:Int)(r4:List Z9)(ua:Z7)(ub:Int)(uc:Int)(ud:Z7)(ue:Int)(Z:(Int×(List Z9)×Z7×Int×Int×Z7×Int)⊕((Int×Int×Z7×Int×Int×Z7×Int)⊕((Int×Z7×Int×Int×Z7×Int)⊕(Int×Z7×Int×Int×Z7×Int)))→Option ρ):Option ρ:= bnd (jv (Z6 [91]) ua ub uc ud ue) fun y=>br y.1 (bnd (JA (y.2.1,y.2.2.1,y.2.2.2.1,y.2.2.2.2.1,y.2.2.2.2.2.1,())) fun y1=>sel y1 (fun u=>bnd (jy.co_ (1:Int) [u.1] u.2.1 u.2.2.1 u.2.2.2.1 u.2.2.2.2.1 u.2.2.2.2.2.1 some) fun y2=>sel y2 (fun u_1=>bnd (jw (Z6 [93]) u_1.2.2.1 u_1.2.2.2.1 u_1.2.2.2.2.1 u_1.2.2.2.2.2.1 u_1.2.2.2.2.2.2) fun y3=>sel y3 (fun u_2=>Z (.inl (u_1.1,u_1.2.1,u_2.2.1,u_2.2.2.1,u_2.2.2.2.1,u_2.2.2.2.2.1,u_2.2.2.2.2.2.1))) (fun v_2=>Z (.inr (.inl (u_1.1,v_2.1,v_2.2.1,v_2.2.2.1,v_2.2.2.2.1,v_2.2.2.2.2.1,v_2.2.2.2.2.2.1))))) (fun v_1=>Z (.inr (.inr (.inl (v_1.1,v_1.2.1,v_1.2.2.1,v_1.2.2.2.1,v_1.2.2.2.2.1,v_1.2.2.2.2.2)))))) (fun v=>Z (.inr (.inr (.inr (v.1,v.2.1,v.2.2.1,v.2.2.2.1,v.2.2.2.2.1,v.2.2.2.2.2.1)))))) (Z (.inl (r3,r4,y.2.1,y.2.2.1,y.2.2.2.1,y.2.2.2.2.1,y.2.2.2.2.2.1)))
def jy.cr_s:Shape:=((jy.c5s.g 13).o 5 tg19)
def jy.cr_x1:Shape:=((jy.c5s.g 13).o 900001 tg13)
def jy.cr_x2:Shape:=(jy.c5x1.g 13)
def jy.cr_x3:Shape:=(jy.cr_x1.o 5 tg19)
def jy.cr_r:RC:=⟨jy.cr_s,[(jy.cr_s,0,[12,202,1,205]),(jy.cr_x1,1000000,[12,201,301,1,205,101]),(jy.cr_x2,1000000,[301,11,400,302,1,205,101]),(jy.cr_x3,1000000,[15,205,101])],fun X=>((1:Int),()),[12,13,15,16,17,18,19],@jy.cr_,fun _ _ _ _ _ _ _ _ _=>jb fun _=>(jr (jb fun _=>(JN (fun _=>(jb fun _=>(JN (fun _=>(jb fun _=>(JN (fun _=>ja) (fun _=>ja)))) (fun _=>ja)))) (fun _=>ja))) ja)⟩
def jy (w:Int×(Z7×Int)) (ua:Z7) (ub:Int) (uc:Int) (ud:Z7) (ue:Int):Option ((Z9×Z7×Int×Int×Z7×Int×Unit)⊕(Int×Z7×Int×Int×Z7×Int×Unit)):= bnd (JM (19:Int) (w.1,w.2.1,w.2.2) (w.1,w.2.1,w.2.2) []) fun y=>bnd (jy.cr_ y.head.2.2.2 y.kids ua ub uc ud ue some) fun y1=>sel y1 (fun u=>some (Sum.inl (Rose.mk (y.head.1,y.head.2.1,y.head.2.2.1,u.1) u.2.1,u.2.2.1,u.2.2.2.1,u.2.2.2.2.1,u.2.2.2.2.2.1,u.2.2.2.2.2.2,()))) (fun v=>sel v (fun u_1=>some (Sum.inr (u_1.2.1,u_1.2.2.1,u_1.2.2.2.1,u_1.2.2.2.2.1,u_1.2.2.2.2.2.1,u_1.2.2.2.2.2.2,()))) (fun v_1=>sel v_1 (fun u_2=>some (Sum.inr (u_2.1,u_2.2.1,u_2.2.2.1,u_2.2.2.2.1,u_2.2.2.2.2.1,u_2.2.2.2.2.2,()))) (fun v_2=>some (Sum.inr (v_2.1,v_2.2.1,v_2.2.2.1,v_2.2.2.2.1,v_2.2.2.2.2.1,v_2.2.2.2.2.2,())))))
def jy.ma:MAlt:=⟨72,jy.pre,jy.post,true,jy.post2,fun X=>jy X.1 X.2.1 X.2.2.1 X.2.2.2.1 (q4 X).1 (q4 X).2.1⟩
def jy.G:EB Za:=⟨tb,Tryz.f72,[⟨29,JM.ce,JM.ok⟩],[0,1,3,4,5,10,17],[5,13,5005,1000100,900600013],[(5,[(3,[1000100]),(4,[22]),(5,[13]),(7,[5]),(9,[5])])],[(208205,jy.cr_r.ck),(216389,jy.co_r.ck),(5,jy.c5r.ck)],[⟨25,jv.mc,jv.ok⟩],[⟨28,JA.ma,JA.ok⟩,⟨27,jw.ma,jw.ok⟩]⟩
theorem jy.ok:AltOk Za 72 jy.ma:=fnA jy.G (ma:=jy.ma) Tryz.func72 (m:=3) ⟨⟨⟨trivial,kJ jy.cr_r⟩,kJ jy.co_r⟩,kR jy.c5r⟩
def Js.pre:Shape:=⟨[(0,tg0)],[(1000100,tg2)]⟩
def Js.post:Shape:=⟨[(0,tg15)],[(1000100,tg2)]⟩
def Js.post2:Shape:=⟨[(0,tg12)],[(1000100,tg2)]⟩
def Js (ua:Z7) (ub:Int) (uc:Int) (ud:Z7) (ue:Int):Option ((Z9×Z7×Int×Int×Z7×Int×Unit)⊕(Int×Z7×Int×Int×Z7×Int×Unit)):= bnd (jM ua ub uc ud ue) fun y=>sel y (fun u=>bnd (jy u.1 u.2.1 u.2.2.1 u.2.2.2.1 u.2.2.2.2.1 u.2.2.2.2.2.1) fun y1=>sel y1 (fun u_1=>some (Sum.inl (Rose.mk (u_1.1.head.1,u_1.1.head.2.1,u_1.1.head.2.2.1,u_1.1.head.2.2.2) u_1.1.kids,u_1.2.1,u_1.2.2.1,u_1.2.2.2.1,u_1.2.2.2.2.1,u_1.2.2.2.2.2.1,()))) (fun v_1=>some (Sum.inr (v_1.1,v_1.2.1,v_1.2.2.1,v_1.2.2.2.1,v_1.2.2.2.2.1,v_1.2.2.2.2.2.1,())))) (fun v=>some (Sum.inr (v.1,v.2.1,v.2.2.1,v.2.2.2.1,v.2.2.2.2.1,v.2.2.2.2.2.1,())))
def Js.ma:MAlt:=⟨70,Js.pre,Js.post,true,Js.post2,fun X=>Js X.1 X.2.1 X.2.2.1 X.2.2.2.1 (q4 X).1⟩
def Js.G:EB Za:=⟨tb,Tryz.f70,[],[0,2],[1000100],[],[],[],[⟨26,jM.ma,jM.ok⟩,⟨72,jy.ma,jy.ok⟩]⟩
theorem Js.ok:AltOk Za 70 Js.ma:=fnA Js.G (ma:=Js.ma) Tryz.func70 (m:=0) trivial
abbrev tg33:SO:=.clo 28 [.ref 1000100 0] []
def Jl.pre:Shape:=⟨[(0,tg0),(1,tg16)],[(1000090,tg33),(1000100,tg2)]⟩
def Jl.post:Shape:=⟨[(0,tg27)],[(1000090,tg33),(1000100,tg2)]⟩
def Jl.post2:Shape:=⟨[(0,tg12)],[(1000090,tg33),(1000100,tg2)]⟩
def Jl.ca_ (t8:List Z9)(ua:Z7)(ub:Int)(uc:Int)(ud:Z7)(ue:Int)(Z:((List Z9)×Z7×Int×Int×Z7×Int)⊕(((List Z9)×Int×Z7×Int×Int×Z7×Int)⊕((List Z9)×Z7×Int×Int×Z7×Int))→Option ρ):Option ρ:= bnd (jv (Z6 [44]) ua ub uc ud ue) fun y=>br y.1 (bnd (JA (y.2.1,y.2.2.1,y.2.2.2.1,y.2.2.2.2.1,y.2.2.2.2.2.1,())) fun y1=>sel y1 (fun u=>bnd (okIf (decide ((t8.length+1)*64≤140737488355328)&&decide (t8.length+1≤140737488355328))) fun y2=>Z (.inl ((t8++[u.1]),u.2.1,u.2.2.1,u.2.2.2.1,u.2.2.2.2.1,u.2.2.2.2.2.1))) (fun v=>Z (.inr (.inl (t8,v.1,v.2.1,v.2.2.1,v.2.2.2.1,v.2.2.2.2.1,v.2.2.2.2.2.1))))) (Z (.inr (.inr (t8,y.2.1,y.2.2.1,y.2.2.2.1,y.2.2.2.2.1,y.2.2.2.2.2.1))))
def Jl.ca_s:Shape:=(((Jl.pre.s 4 tg27).s 5 tg28).o 8 tg29)
def Jl.ca_x0:Shape:=(Jl.ca_s.o 900001 tg13)
def Jl.ca_r:LC:=⟨Jl.ca_s,[(Jl.ca_x0,1000000,[1,206,101]),(Jl.ca_s,2,[1,206])],no,[1,2,3,4,5,6],[1,2,3,4,5,6],@Jl.ca_,fun _ _ _ _ _ _ _ _=>jb fun _=>(jr (jb fun _=>(JN (fun _=>(jb fun _=>ja)) (fun _=>ja))) ja)⟩
def Jl (ua:Z7) (ub:Int) (uc:Int) (ud:Z7) (ue:Int):Option (((List Z9)×Z7×Int×Int×Z7×Int×Unit)⊕(Int×Z7×Int×Int×Z7×Int×Unit)):= bnd (JA (ua,ub,uc,ud,ue,())) fun y=>sel y (fun u=>bnd (iter (fun s↦Jl.ca_ s.1 s.2.1 s.2.2.1 s.2.2.2.1 s.2.2.2.2.1 s.2.2.2.2.2 some) ([u.1],u.2.1,u.2.2.1,u.2.2.2.1,u.2.2.2.2.1,u.2.2.2.2.2.1)) fun y1=>sel y1 (fun u_1=>some (Sum.inr (u_1.2.1,u_1.2.2.1,u_1.2.2.2.1,u_1.2.2.2.2.1,u_1.2.2.2.2.2.1,u_1.2.2.2.2.2.2,()))) (fun v_1=>some (Sum.inl (v_1.1,v_1.2.1,v_1.2.2.1,v_1.2.2.2.1,v_1.2.2.2.2.1,v_1.2.2.2.2.2,())))) (fun v=>some (Sum.inr (v.1,v.2.1,v.2.2.1,v.2.2.2.1,v.2.2.2.2.1,v.2.2.2.2.2.1,())))
def Jl.ma:MAlt:=⟨63,Jl.pre,Jl.post,true,Jl.post2,fun X=>Jl X.1 X.2.1 X.2.2.1 X.2.2.2.1 (q4 X).1⟩
def Jl.G:EB Za:=⟨tb,Tryz.f63,[],[0,1,4,5,10],[8,1000100],[],[(100002,Jl.ca_r.ck)],[⟨25,jv.mc,jv.ok⟩],[⟨28,JA.ma,JA.ok⟩]⟩
theorem Jl.ok:AltOk Za 63 Jl.ma:=fnA Jl.G (ma:=Jl.ma) Tryz.func63 (m:=1) ⟨trivial,kL Jl.ca_r⟩
abbrev tg34:SO:=.clo 70 [.ref 1000100 0] []
def Jr.pre:Shape:=⟨[(0,tg0),(1,tg16)],[(1000090,tg34),(1000100,tg2)]⟩
def Jr.post:Shape:=⟨[(0,tg27)],[(1000090,tg34),(1000100,tg2)]⟩
def Jr.post2:Shape:=⟨[(0,tg12)],[(1000090,tg34),(1000100,tg2)]⟩
def Jr.ca_ (t8:List Z9)(ua:Z7)(ub:Int)(uc:Int)(ud:Z7)(ue:Int)(Z:((List Z9)×Z7×Int×Int×Z7×Int)⊕(((List Z9)×Int×Z7×Int×Int×Z7×Int)⊕((List Z9)×Z7×Int×Int×Z7×Int))→Option ρ):Option ρ:= bnd (jv (Z6 [44]) ua ub uc ud ue) fun y=>br y.1 (bnd (Js y.2.1 y.2.2.1 y.2.2.2.1 y.2.2.2.2.1 y.2.2.2.2.2.1) fun y1=>sel y1 (fun u=>bnd (okIf (decide ((t8.length+1)*64≤140737488355328)&&decide (t8.length+1≤140737488355328))) fun y2=>Z (.inl ((t8++[u.1]),u.2.1,u.2.2.1,u.2.2.2.1,u.2.2.2.2.1,u.2.2.2.2.2.1))) (fun v=>Z (.inr (.inl (t8,v.1,v.2.1,v.2.2.1,v.2.2.2.1,v.2.2.2.2.1,v.2.2.2.2.2.1))))) (Z (.inr (.inr (t8,y.2.1,y.2.2.1,y.2.2.2.1,y.2.2.2.2.1,y.2.2.2.2.2.1))))
def Jr.ca_s:Shape:=(((Jr.pre.s 4 tg27).s 5 tg28).o 8 tg29)
def Jr.ca_x0:Shape:=(Jr.ca_s.o 900001 tg13)
def Jr.ca_r:LC:=⟨Jr.ca_s,[(Jr.ca_x0,1000000,[1,206,101]),(Jr.ca_s,2,[1,206])],no,[1,2,3,4,5,6],[1,2,3,4,5,6],@Jr.ca_,fun _ _ _ _ _ _ _ _=>jb fun _=>(jr (jb fun _=>(JN (fun _=>(jb fun _=>ja)) (fun _=>ja))) ja)⟩
def Jr (ua:Z7) (ub:Int) (uc:Int) (ud:Z7) (ue:Int):Option (((List Z9)×Z7×Int×Int×Z7×Int×Unit)⊕(Int×Z7×Int×Int×Z7×Int×Unit)):= bnd (Js ua ub uc ud ue) fun y=>sel y (fun u=>bnd (iter (fun s↦Jr.ca_ s.1 s.2.1 s.2.2.1 s.2.2.2.1 s.2.2.2.2.1 s.2.2.2.2.2 some) ([u.1],u.2.1,u.2.2.1,u.2.2.2.1,u.2.2.2.2.1,u.2.2.2.2.2.1)) fun y1=>sel y1 (fun u_1=>some (Sum.inr (u_1.2.1,u_1.2.2.1,u_1.2.2.2.1,u_1.2.2.2.2.1,u_1.2.2.2.2.2.1,u_1.2.2.2.2.2.2,()))) (fun v_1=>some (Sum.inl (v_1.1,v_1.2.1,v_1.2.2.1,v_1.2.2.2.1,v_1.2.2.2.2.1,v_1.2.2.2.2.2,())))) (fun v=>some (Sum.inr (v.1,v.2.1,v.2.2.1,v.2.2.2.1,v.2.2.2.2.1,v.2.2.2.2.2.1,())))
def Jr.ma:MAlt:=⟨63,Jr.pre,Jr.post,true,Jr.post2,fun X=>Jr X.1 X.2.1 X.2.2.1 X.2.2.2.1 (q4 X).1⟩
def Jr.G:EB Za:=⟨tb,Tryz.f63,[],[0,1,4,5,10],[8,1000100],[],[(100002,Jr.ca_r.ck)],[⟨25,jv.mc,jv.ok⟩],[⟨70,Js.ma,Js.ok⟩]⟩
theorem Jr.ok:AltOk Za 63 Jr.ma:=fnA Jr.G (ma:=Jr.ma) Tryz.func63 (m:=1) ⟨trivial,kL Jr.ca_r⟩
def jF.pre:Shape:=⟨[(0,tg0),(1,tg8),(2,tg27),(3,tg8)],[(1000100,tg2)]⟩
def jF.post:Shape:=⟨[(0,tg15)],[(1000100,tg2)]⟩
def jF.post2:Shape:=⟨[(0,tg12)],[(1000100,tg2)]⟩
def jF.cn_ (args:List Z9)(ua:Z7)(ub:Int)(uc:Int)(ud:Z7)(ue:Int)(Z:((List Z9)×Z7×Int×Int×Z7×Int)⊕((List Z9)×Int×Z7×Int×Int×Z7×Int)→Option ρ):Option ρ:= bnd (jv (Z6 [40]) ua ub uc ud ue) fun y=>br y.1 (bnd (Jl y.2.1 y.2.2.1 y.2.2.2.1 y.2.2.2.2.1 y.2.2.2.2.2.1) fun y1=>sel y1 (fun u=>bnd (jw (Z6 [41]) u.2.1 u.2.2.1 u.2.2.2.1 u.2.2.2.2.1 u.2.2.2.2.2.1) fun y2=>sel y2 (fun u_1=>Z (.inl (u.1,u_1.2.1,u_1.2.2.1,u_1.2.2.2.1,u_1.2.2.2.2.1,u_1.2.2.2.2.2.1))) (fun v_1=>Z (.inr (u.1,v_1.1,v_1.2.1,v_1.2.2.1,v_1.2.2.2.1,v_1.2.2.2.2.1,v_1.2.2.2.2.2.1)))) (fun v=>Z (.inr (args,v.1,v.2.1,v.2.2.1,v.2.2.2.1,v.2.2.2.2.1,v.2.2.2.2.2.1)))) (Z (.inl (args,y.2.1,y.2.2.1,y.2.2.2.1,y.2.2.2.2.1,y.2.2.2.2.2.1)))
def jF.cn_s:Shape:=((((((((jF.pre.s 5 tg23).s 7 tg21).s 8 tg22).s 9 tg27).s 10 tg27).o 5 tg11).o 7 tg11).o 8 tg19)
def jF.cn_x1:Shape:=(jF.cn_s.o 900001 tg13)
def jF.cn_r:RC:=⟨jF.cn_s,[(jF.cn_s,0,[3,201,12,205]),(jF.cn_x1,1000000,[3,201,12,205,101])],no,[3,16,17,18,19,20],@jF.cn_,fun _ _ _ _ _ _ _ _=>jb fun _=>(jr (jb fun _=>(JN (fun _=>(jb fun _=>(JN (fun _=>ja) (fun _=>ja)))) (fun _=>ja))) ja)⟩
def jF.ci_ (refs:List Z9)(ua:Z7)(ub:Int)(uc:Int)(ud:Z7)(ue:Int)(Z:((List Z9)×Z7×Int×Int×Z7×Int)⊕(Int×Z7×Int×Int×Z7×Int)→Option ρ):Option ρ:= br (uc==1) (bnd (Jr ua ub uc ud ue) fun y=>sel y (fun u=>Z (.inl (u.1,u.2.1,u.2.2.1,u.2.2.2.1,u.2.2.2.2.1,u.2.2.2.2.2.1))) (fun v=>Z (.inr (v.1,v.2.1,v.2.2.1,v.2.2.2.1,v.2.2.2.2.1,v.2.2.2.2.2.1)))) (Z (.inl (refs,ua,ub,uc,ud,ue)))
def jF.ci_r:RC:=⟨jF.cn_s,[(jF.cn_s,0,[4,201,11,205]),(jF.cn_x1,1000000,[16,205,101])],no,[4,16,17,18,19,20],@jF.ci_,fun _ _ _ _ _ _ _ _=>jr (jb fun _=>(JN (fun _=>ja) (fun _=>ja))) ja⟩
def jF.c8 (mods:List Z9)(args:List Z9)(refs:List Z9)(t0:Int)(t1:Z7)(t2:Int)(w0:Int)(w1:Z7)(w2:Int)(Z:Int×Int×Z7×Int×(List Z9)→Option ρ):Option ρ:= bnd (Yn mods) fun y=>bnd (Yn args) fun y1=>bnd (Yn refs) fun y2=>bnd (JM (8:Int) (t0,t1,t2) (w0,w1,w2) [y,y1,y2]) fun y3=>Z (y3.head.1,y3.head.2.1,y3.head.2.2.1,y3.head.2.2.2,y3.kids)
def jF.c8r:RC:=⟨jF.cn_s,[(jF.cn_s,0,[11,205])],no,[1,3,4,5,6,7,8,9,10],@jF.c8,fun _ _ _ _ _ _ _ _ _ _ _=>jb fun _=>(jb fun _=>(jb fun _=>(jb fun _=>ja)))⟩
def jF (t:Int×(Z7×Int)) (mods:List Z9) (w:Int×(Z7×Int)) (ua:Z7) (ub:Int) (uc:Int) (ud:Z7) (ue:Int):Option ((Z9×Z7×Int×Int×Z7×Int×Unit)⊕(Int×Z7×Int×Int×Z7×Int×Unit)):= bnd (jF.cn_ [] ua ub uc ud ue some) fun y=>sel y (fun u=>bnd (jF.ci_ [] u.2.1 u.2.2.1 u.2.2.2.1 u.2.2.2.2.1 u.2.2.2.2.2 some) fun y1=>sel y1 (fun u_1=>bnd (jw (Z6 [59]) u_1.2.1 u_1.2.2.1 u_1.2.2.2.1 u_1.2.2.2.2.1 u_1.2.2.2.2.2) fun y2=>sel y2 (fun u_2=>bnd (jF.c8 mods u.1 u_1.1 t.1 t.2.1 t.2.2 w.1 w.2.1 w.2.2 some) fun y3=>some (Sum.inl (Rose.mk (y3.1,y3.2.1,y3.2.2.1,y3.2.2.2.1) y3.2.2.2.2,u_2.2.1,u_2.2.2.1,u_2.2.2.2.1,u_2.2.2.2.2.1,u_2.2.2.2.2.2.1,()))) (fun v_2=>some (Sum.inr (v_2.1,v_2.2.1,v_2.2.2.1,v_2.2.2.2.1,v_2.2.2.2.2.1,v_2.2.2.2.2.2.1,())))) (fun v_1=>some (Sum.inr (v_1.1,v_1.2.1,v_1.2.2.1,v_1.2.2.2.1,v_1.2.2.2.2.1,v_1.2.2.2.2.2,())))) (fun v=>some (Sum.inr (v.2.1,v.2.2.1,v.2.2.2.1,v.2.2.2.2.1,v.2.2.2.2.2.1,v.2.2.2.2.2.2,())))
def jF.ma:MAlt:=⟨74,jF.pre,jF.post,true,jF.post2,fun X=>jF X.1 X.2.1 X.2.2.1 X.2.2.2.1 (q4 X).1 (q4 X).2.1 (q4 X).2.2.1 (q4 X).2.2.2.1⟩
def jF.G:EB Za:=⟨tb,Tryz.f74,[⟨66,Yn.ce,Yn.ok⟩,⟨29,JM.ce,JM.ok⟩],[0,1,2,3,5,7,8,9,10,12,24],[1000100],[(8,[(8,[39]),(9,[39]),(10,[8])])],[(8,jF.c8r.ck),(220485,jF.ci_r.ck),(208199,jF.cn_r.ck)],[⟨25,jv.mc,jv.ok⟩],[⟨63,Jl.ma,Jl.ok⟩,⟨27,jw.ma,jw.ok⟩,⟨1000028,Jr.ma,Jr.ok⟩]⟩
theorem jF.ok:AltOk Za 74 jF.ma:=fnA jF.G (ma:=jF.ma) Tryz.func74 (m:=3) ⟨⟨⟨trivial,kJ jF.cn_r⟩,kJ jF.ci_r⟩,kR jF.c8r⟩
end
end W
end
