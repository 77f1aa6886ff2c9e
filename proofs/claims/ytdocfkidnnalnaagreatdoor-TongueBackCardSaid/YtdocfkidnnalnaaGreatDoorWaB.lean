/- Lifted functions, part 1: each with its contract. -/
import Derived.Test.YtdocfkidnnalnaaGreatDoorCaB
import Derived.Test.YtdocfkidnnalnaaGreatDoorLfB
import Derived.Test.YtdocfkidnnalnaaGreatDoorProg
set_option linter.all false
section
set_option maxHeartbeats 4000000
set_option maxRecDepth 100000
namespace W
open Go Go.Ql Go.Proofs Go.IntKind
noncomputable section
variable {ρ:Type}
abbrev tg0:SD:=.one (.ref 1000100 0)
abbrev tg1:SD:=.one (.val .str)
abbrev tg2:SO:=.box [.val .str,.val (.int .i64),.val (.int .i64),.val .str,.val (.int .i64)]
abbrev tg3:SD:=.one (.val .bool)
abbrev q4 {a b c d e:Type} (x:a×b×c×d×e):e:=x.2.2.2.2
abbrev q8 {a b c d e f g h i:Type} (x:a×b×c×d×e×f×g×h×i):i:=x.2.2.2.2.2.2.2.2
abbrev YO:=Int×(Int×((List Int)×(Int×(Int×(List Int)))))
abbrev YD:=Bool×(List Int)
abbrev YP:=Int×(Int×Bool)
abbrev YN:=(List YD)×Int
def jM.pre:Shape:=⟨[(0,tg0),(1,tg1)],[(1000100,tg2)]⟩
def jM.post:Shape:=⟨[(0,tg3)],[(1000100,tg2)]⟩
def jM.c1 (w:Z6)(uc:Int)(ud:Z6)(Z:Bool→Option ρ):Option ρ:=
  br (uc==4)
   (Z (ud==w))
   (br (uc==2)
     (Z (ud==w))
     (Z false))
def jM.c1s:Shape:=(jM.pre.s 4 tg3)
def jM.c1r:RC:=⟨jM.c1s,[(jM.c1s,0,[1,201])],no,[0,4,5],@jM.c1,fun _ _ _ _ _=>jN jd (jN jd jd)⟩
def jM (w:Z6) (ua:Z6) (ub:Int) (uc:Int) (ud:Z6) (ue:Int):Option (Bool×Z6×Int×Int×Z6×Int×Unit):=
  bnd (jM.c1 w uc ud some) fun y=>
  some (y,ua,ub,uc,ud,ue,())
def jM.mc:MCallee:=⟨58,jM.pre,jM.post,fun X=>jM X.1 X.2.1 X.2.2.1 X.2.2.2.1 (q4 X).1 (q4 X).2.1⟩
def jM.G:EB Z9:=⟨tb,Tryz.f58,[],[0,1,4],[1000100],[],[(1,jM.c1r.ck)],[],[]⟩
theorem jM.ok:MOk Z9 58 jM.mc:=fnM jM.G (mc:=jM.mc) Tryz.func58 (m:=1) ⟨trivial,kR jM.c1r⟩
abbrev tg4:SD:=.one (.val (.int .u8))
def jf.pre:Shape:=⟨[(0,tg0)],[(1000100,tg2)]⟩
def jf.post:Shape:=⟨[],[(1000100,tg2)]⟩
def jf.c0  (Z:Unit→Option ρ):Option ρ:=
  Z ()
def jf.c0x0:Shape:=(jf.pre.s 12 tg3)
def jf.c0r:RC:=⟨jf.pre,[(jf.c0x0,0,[400])],fun X=>((decide (X.2.1<(X.1.length:Int))),()),[],@jf.c0,fun _ _=>jd⟩
def jf.c1 (ua:Z6)(ub:Int)(Z:Int→Option ρ):Option ρ:=
  bnd (idx ua ub) fun y=>
  Z (↑(UInt8.toNat y):Int)
def jf.c1x0:Shape:=(jf.pre.s 2 tg4)
def jf.c1r:RC:=⟨jf.pre,[(jf.c1x0,0,[101])],no,[0,1],@jf.c1,fun _ _ _ _=>jm fun _=>jd⟩
def jf.c2 (c:Int)(Z:Bool→Option ρ):Option ρ:=
  br (c==32)
   (Z true)
   (br (c==9)
     (Z true)
     (br (c==10)
       (Z true)
       (Z (c==13))))
def jf.c2x0:Shape:=(jf.c1x0.s 22 tg3)
def jf.c2r:RC:=⟨jf.c1x0,[(jf.c2x0,0,[1,101])],no,[0],@jf.c2,fun _ _ _=>jN jd (jN jd (jN jd jd))⟩
def jf.c4 (c:Int)(ua:Z6)(ub:Int)(Z:Bool→Option ρ):Option ρ:=
  br (c==47)
   (br (decide (i64.wrap (ub+1)<(ua.length:Int)))
     (bnd (idx ua (i64.wrap (ub+1))) fun y=>
      Z ((↑(UInt8.toNat y):Int)==47))
     (Z false))
   (Z false)
def jf.c4x0:Shape:=(jf.c1x0.s 44 tg3)
def jf.c4r:RC:=⟨jf.c1x0,[(jf.c4x0,0,[1,101])],no,[0,1,2],@jf.c4,fun _ _ _ _ _=>jN (jN (jm fun _=>jd) jd) jd⟩
def jf.c5 (ua:Z6)(ub:Int)(Z:Bool→Option ρ):Option ρ:=
  br (decide (ub<(ua.length:Int)))
   (bnd (idx ua ub) fun y=>
    Z ((↑(UInt8.toNat y):Int) !=10))
   (Z false)
def jf.c5x0:Shape:=(jf.c1x0.s 94 tg3)
def jf.c5r:RC:=⟨jf.c1x0,[(jf.c5x0,0,[1,101])],no,[1,2],@jf.c5,fun _ _ _ _=>jN (jm fun _=>jd) jd⟩
def jf.cx_ (ua:Z6)(ub:Int)(Z:Int⊕Int→Option ρ):Option ρ:=
  bnd (jf.c5 ua ub some) fun y=>
  br y
   (Z (.inl (i64.wrap (ub+1))))
   (Z (.inr ub))
def jf.cx_r:LC:=⟨jf.c1x0,[(jf.c1x0,5,[2,201])],no,[2],[1,2],@jf.cx_,fun _ _ _ _=>jm fun _=>(jN jd jd)⟩
def jf.cv_ (ua:Z6)(ub:Int)(Z:Int⊕(Int⊕Int)→Option ρ):Option ρ:=
  bnd (jf.c0 some) fun y=>
  br (decide (ub<(ua.length:Int)))
   (bnd (jf.c1 ua ub some) fun y1=>
    bnd (jf.c2 y1 some) fun y2=>
    br y2
     (Z (.inl (i64.wrap (ub+1))))
     (bnd (jf.c4 y1 ua ub some) fun y3=>
      br y3
       (bnd (iter (fun s↦jf.cx_ ua s some) ub) fun y4=>
        Z (.inl y4))
       (Z (.inr (.inl ub)))))
   (Z (.inr (.inr ub)))
def jf.cv_r:LC:=⟨jf.pre,[(jf.pre,1,[1,201]),(jf.pre,2,[1,201])],no,[1],[0,1],@jf.cv_,fun _ _ _ _=>jm fun _=>(jN (jm fun _=>(jm fun _=>(jN jd (jm fun _=>(jN (jm fun _=>jd) jd))))) jd)⟩
def jf (ua:Z6) (ub:Int) (uc:Int) (ud:Z6) (ue:Int):Option (Z6×Int×Int×Z6×Int×Unit):=
  bnd (iter (fun s↦jf.cv_ ua s some) ub) fun y=>
  sel y
   (fun u=>some (ua,u,uc,ud,ue,()))
   (fun v=>some (ua,v,uc,ud,ue,()))
def jf.mc:MCallee:=⟨51,jf.pre,jf.post,fun X=>jf X.1 X.2.1 X.2.2.1 X.2.2.2.1 (q4 X).1⟩
def jf.G:EB Z9:=⟨tb,Tryz.f51,[],[0,2,12,22,44,94],[1000100],[(5,[]),(4,[]),(1,[]),(0,[])],[(100000,jf.cv_r.ck),(100005,jf.cx_r.ck),(5,jf.c5r.ck),(4,jf.c4r.ck),(2,jf.c2r.ck),(1,jf.c1r.ck),(0,jf.c0r.ck)],[],[]⟩
theorem jf.ok:MOk Z9 51 jf.mc:=fnM jf.G (mc:=jf.mc) Tryz.func51 (m:=7) ⟨⟨⟨⟨⟨⟨⟨trivial,kL jf.cv_r⟩,kR jf.c0r⟩,kR jf.c1r⟩,kR jf.c2r⟩,kR jf.c4r⟩,kL jf.cx_r⟩,kR jf.c5r⟩
def JN.c1 (c:Int)(Z:Bool→Option ρ):Option ρ:=
  br (decide ((97:Int)≤c))
   (br (decide (c≤122))
     (Z true)
     (br (decide ((65:Int)≤c))
       (br (decide (c≤90))
         (Z true)
         (Z (c==95)))
       (Z (c==95))))
   (br (decide ((65:Int)≤c))
     (br (decide (c≤90))
       (Z true)
       (Z (c==95)))
     (Z (c==95)))
def JN.c1s:Shape:=⟨[(0,tg4),(2,tg3)],[]⟩
def JN.c1r:RC:=⟨JN.c1s,[(JN.c1s,0,[1,201])],no,[0],@JN.c1,fun _ _ _=>jN (jN jd (jN (jN jd jd) jd)) (jN (jN jd jd) jd)⟩
def JN (c:Int):Option Bool:=
  bnd (JN.c1 c some) fun y=>
  some y
def JN.ce:=ceOf tab Tryz.f52 JN
def JN.G:EB Z9:=⟨tb,Tryz.f52,[],[0,2],[],[],[(1,JN.c1r.ck)],[],[]⟩
theorem JN.ok:CalleeOk Z9 52 JN.ce:=fnB JN.G Tryz.func52 (m:=1) ⟨trivial,kR JN.c1r⟩
def JL.c1 (c:Int)(Z:Bool→Option ρ):Option ρ:=
  br (decide ((48:Int)≤c))
   (Z (decide (c≤57)))
   (Z false)
def JL.c1s:Shape:=⟨[(0,tg4),(2,tg3)],[]⟩
def JL.c1r:RC:=⟨JL.c1s,[(JL.c1s,0,[1,201])],no,[0],@JL.c1,fun _ _ _=>jN jd jd⟩
def JL (c:Int):Option Bool:=
  bnd (JL.c1 c some) fun y=>
  some y
def JL.ce:=ceOf tab Tryz.f55 JL
def JL.G:EB Z9:=⟨tb,Tryz.f55,[],[0,2],[],[],[(1,JL.c1r.ck)],[],[]⟩
theorem JL.ok:CalleeOk Z9 55 JL.ce:=fnB JL.G Tryz.func55 (m:=1) ⟨trivial,kR JL.c1r⟩
def Js.c1 (c:Int)(Z:Bool→Option ρ):Option ρ:=
  bnd (JN c) fun y=>
  br y
   (Z true)
   (bnd (JL c) fun y1=>
    Z y1)
def Js.c1s:Shape:=⟨[(0,tg4),(2,tg3)],[]⟩
def Js.c1r:RC:=⟨Js.c1s,[(Js.c1s,0,[1,201])],no,[0],@Js.c1,fun _ _ _=>jm fun _=>(jN jd (jm fun _=>jd))⟩
def Js (c:Int):Option Bool:=
  bnd (Js.c1 c some) fun y=>
  some y
def Js.ce:=ceOf tab Tryz.f54 Js
def Js.G:EB Z9:=⟨tb,Tryz.f54,[⟨52,JN.ce,JN.ok⟩,⟨55,JL.ce,JL.ok⟩],[0,2],[],[],[(1,Js.c1r.ck)],[],[]⟩
theorem Js.ok:CalleeOk Z9 54 Js.ce:=fnB Js.G Tryz.func54 (m:=1) ⟨trivial,kR Js.c1r⟩
abbrev tg5:SD:=.one (.fn 54)
abbrev tg6:SD:=.one (.val (.int .i64))
def jv.pre:Shape:=⟨[(0,tg0),(1,tg5)],[(1000100,tg2)]⟩
def jv.post:Shape:=⟨[(0,tg1)],[(1000100,tg2)]⟩
def jv.c2 (ua:Z6)(ub:Int)(Z:Bool→Option ρ):Option ρ:=
  br (decide (ub<(ua.length:Int)))
   (bnd (idx ua ub) fun y=>
    bnd (Js (↑(UInt8.toNat y):Int)) fun y1=>
    Z y1)
   (Z false)
def jv.c2s:Shape:=((jv.pre.s 4 tg1).s 5 tg6)
def jv.c2x0:Shape:=(jv.c2s.s 32 tg3)
def jv.c2r:RC:=⟨jv.c2s,[(jv.c2x0,0,[2,101])],no,[2,3],@jv.c2,fun _ _ _ _=>jN (jm fun _=>(jm fun _=>jd)) jd⟩
def jv.ca_ (ua:Z6)(ub:Int)(Z:Int⊕Int→Option ρ):Option ρ:=
  bnd (jv.c2 ua ub some) fun y=>
  br y
   (Z (.inl (i64.wrap (ub+1))))
   (Z (.inr ub))
def jv.ca_r:LC:=⟨jv.c2s,[(jv.c2s,2,[3,201])],no,[3],[2,3],@jv.ca_,fun _ _ _ _=>jm fun _=>(jN jd jd)⟩
def jv.c4 (t5:Int)(ua:Z6)(ub:Int)(Z:Unit→Option ρ):Option ρ:=
  bnd (okIf (decide ((0:Int)≤t5)&&decide (t5≤ub)&&decide (ub≤(ua.length:Int)))) fun y=>
  Z ()
def jv.c4r:RC:=⟨jv.c2s,[(jv.c2s,0,[400,301])],fun X=>((List.drop (Int.toNat X.2.1) (List.take (Int.toNat X.2.2.2.1) X.2.2.1)),()),[1,2,3],@jv.c4,fun _ _ _ _ _=>jm fun _=>jd⟩
def jv (ua:Z6) (ub:Int) (uc:Int) (ud:Z6) (ue:Int):Option (Z6×Z6×Int×Int×Z6×Int×Unit):=
  bnd (iter (fun s↦jv.ca_ ua s some) ub) fun y=>
  bnd (jv.c4 ub ua y some) fun y1=>
  some (List.drop (Int.toNat ub) (List.take (Int.toNat y) ua),ua,y,uc,ud,ue,())
def jv.mc:MCallee:=⟨53,jv.pre,jv.post,fun X=>jv X.1 X.2.1 X.2.2.1 X.2.2.2.1 (q4 X).1⟩
def jv.G:EB Z9:=⟨tb,Tryz.f53,[⟨54,Js.ce,Js.ok⟩],[0,1,4,5,32],[1000100],[(4,[]),(2,[])],[(4,jv.c4r.ck),(100002,jv.ca_r.ck),(2,jv.c2r.ck)],[],[]⟩
theorem jv.ok:MOk Z9 53 jv.mc:=fnM jv.G (mc:=jv.mc) Tryz.func53 (m:=3) ⟨⟨⟨trivial,kL jv.ca_r⟩,kR jv.c2r⟩,kR jv.c4r⟩
def Jz.cq_ (t3:Z6)(Z:Bool→Option ρ):Option ρ:=
  br (t3==Z5 [113,117,98,105,116])
   (Z (t3==Z5 [113,117,98,105,116]))
   (br (t3==Z5 [98,105,116])
     (Z (t3==Z5 [98,105,116]))
     (br (t3==Z5 [99,111,110,115,116])
       (Z (t3==Z5 [99,111,110,115,116]))
       (br (t3==Z5 [103,97,116,101])
         (Z (t3==Z5 [103,97,116,101]))
         (br (t3==Z5 [102,111,114])
           (Z (t3==Z5 [102,111,114]))
           (br (t3==Z5 [105,110])
             (Z (t3==Z5 [105,110]))
             (br (t3==Z5 [119,104,101,110])
               (Z (t3==Z5 [119,104,101,110]))
               (br (t3==Z5 [105,102])
                 (Z (t3==Z5 [105,102]))
                 (br (t3==Z5 [101,108,115,101])
                   (Z (t3==Z5 [101,108,115,101]))
                   (br (t3==Z5 [109,101,97,115,117,114,101])
                     (Z (t3==Z5 [109,101,97,115,117,114,101]))
                     (br (t3==Z5 [114,101,115,101,116])
                       (Z (t3==Z5 [114,101,115,101,116]))
                       (br (t3==Z5 [119,105,116,104,105,110])
                         (Z (t3==Z5 [119,105,116,104,105,110]))
                         (br (t3==Z5 [97,112,112,108,121])
                           (Z (t3==Z5 [97,112,112,108,121]))
                           (br (t3==Z5 [105,110,118])
                             (Z (t3==Z5 [105,110,118]))
                             (br (t3==Z5 [99,116,114,108])
                               (Z (t3==Z5 [99,116,114,108]))
                               (br (t3==Z5 [112,111,119])
                                 (Z (t3==Z5 [112,111,119]))
                                 (Z (t3==Z5 [115,105,122,101])))))))))))))))))
def Jz.cq_s:Shape:=⟨[(0,tg1),(2,tg3),(3,tg1)],[]⟩
def Jz.cq_x0:Shape:=(Jz.cq_s.s 4 tg3)
def Jz.cq_r:RC:=⟨Jz.cq_s,[(Jz.cq_x0,0,[3,101])],no,[2],@Jz.cq_,fun _ _ _=>jN jd (jN jd (jN jd (jN jd (jN jd (jN jd (jN jd (jN jd (jN jd (jN jd (jN jd (jN jd (jN jd (jN jd (jN jd (jN jd jd)))))))))))))))⟩
def Jz (w:Z6):Option Bool:=
  bnd (Jz.cq_ w some) fun y=>
  br y
   (some true)
   (some false)
def Jz.ce:=ceOf tab Tryz.f56 Jz
def Jz.G:EB Z9:=⟨tb,Tryz.f56,[],[0,2,3,4],[1002082570004,2000000000004],[],[(208257,Jz.cq_r.ck)],[],[]⟩
theorem Jz.ok:CalleeOk Z9 56 Jz.ce:=fnB Jz.G Tryz.func56 (m:=1) ⟨trivial,kJ Jz.cq_r⟩
def jA.pre:Shape:=⟨[(0,tg0)],[(1000100,tg2)]⟩
def jA.post:Shape:=⟨[(0,tg1)],[(1000100,tg2)]⟩
def jA.c1 (ua:Z6)(ub:Int)(Z:Unit→Option ρ):Option ρ:=
  bnd (okIf (decide ((0:Int)≤ub)&&decide (ub≤(ua.length:Int))&&decide ((ua.length:Int)≤(ua.length:Int)))) fun y=>
  Z ()
def jA.c1s:Shape:=(jA.pre.s 2 tg1)
def jA.c1x0:Shape:=(jA.c1s.s 3 tg1)
def jA.c1r:RC:=⟨jA.c1s,[(jA.c1x0,0,[1,400])],fun X=>((List.drop (Int.toNat X.2.2.1) (List.take (Int.toNat (X.2.1.length:Int)) X.2.1)),()),[1,2],@jA.c1,fun _ _ _ _=>jm fun _=>jd⟩
def jA.cr_ (t17:Z6)(Z:Bool→Option ρ):Option ρ:=
  br (t17==Z5 [46,46])
   (Z (t17==Z5 [46,46]))
   (br (t17==Z5 [45,62])
     (Z (t17==Z5 [45,62]))
     (br (t17==Z5 [94,61])
       (Z (t17==Z5 [94,61]))
       (br (t17==Z5 [61,61])
         (Z (t17==Z5 [61,61]))
         (br (t17==Z5 [33,61])
           (Z (t17==Z5 [33,61]))
           (br (t17==Z5 [60,61])
             (Z (t17==Z5 [60,61]))
             (br (t17==Z5 [62,61])
               (Z (t17==Z5 [62,61]))
               (Z (t17==Z5 [42,42]))))))))
def jA.cr_s:Shape:=(jA.c1x0.s 17 tg1)
def jA.cr_x0:Shape:=(jA.cr_s.s 18 tg3)
def jA.cr_r:RC:=⟨jA.cr_s,[(jA.cr_x0,0,[3,101])],no,[2],@jA.cr_,fun _ _ _=>jN jd (jN jd (jN jd (jN jd (jN jd (jN jd (jN jd jd))))))⟩
def jA.cz_ (rest:Z6)(Z:Unit⊕Unit→Option ρ):Option ρ:=
  br (decide ((rest.length:Int)>1))
   (bnd (okIf (decide ((2:Int)≤(rest.length:Int)))) fun y=>
    bnd (jA.cr_ (List.take (2:Nat) rest) some) fun y1=>
    br y1
     (bnd (okIf (decide ((2:Int)≤(rest.length:Int)))) fun y2=>
      Z (.inl ()))
     (Z (.inr ())))
   (Z (.inr ()))
def jA.cz_r:RC:=⟨jA.c1x0,[(jA.c1x0,1,[400,301,2,401,301]),(jA.c1x0,0,[])],fun X=>((List.take (2:Nat) X.2.1),(i64.wrap (X.2.2.2.1+2)),()),[1],@jA.cz_,fun _ _ _=>jN (jm fun _=>(jm fun _=>(jN (jm fun _=>jd) jd))) jd⟩
def jA.cs_ (t37:Int)(Z:Bool→Option ρ):Option ρ:=
  br (t37==123)
   (Z (t37==123))
   (br (t37==125)
     (Z (t37==125))
     (br (t37==40)
       (Z (t37==40))
       (br (t37==41)
         (Z (t37==41))
         (br (t37==91)
           (Z (t37==91))
           (br (t37==93)
             (Z (t37==93))
             (br (t37==59)
               (Z (t37==59))
               (br (t37==44)
                 (Z (t37==44))
                 (br (t37==64)
                   (Z (t37==64))
                   (br (t37==61)
                     (Z (t37==61))
                     (br (t37==60)
                       (Z (t37==60))
                       (br (t37==62)
                         (Z (t37==62))
                         (br (t37==43)
                           (Z (t37==43))
                           (br (t37==45)
                             (Z (t37==45))
                             (br (t37==42)
                               (Z (t37==42))
                               (br (t37==47)
                                 (Z (t37==47))
                                 (br (t37==37)
                                   (Z (t37==37))
                                   (br (t37==33)
                                     (Z (t37==33))
                                     (br (t37==38)
                                       (Z (t37==38))
                                       (br (t37==124)
                                         (Z (t37==124))
                                         (Z (t37==94)))))))))))))))))))))
def jA.cs_s:Shape:=(jA.c1x0.s 37 tg4)
def jA.cs_x0:Shape:=(jA.cs_s.s 38 tg3)
def jA.cs_r:RC:=⟨jA.cs_s,[(jA.cs_x0,0,[3,101])],no,[2],@jA.cs_,fun _ _ _=>jN jd (jN jd (jN jd (jN jd (jN jd (jN jd (jN jd (jN jd (jN jd (jN jd (jN jd (jN jd (jN jd (jN jd (jN jd (jN jd (jN jd (jN jd (jN jd (jN jd jd)))))))))))))))))))⟩
def jA (ua:Z6) (ub:Int) (uc:Int) (ud:Z6) (ue:Int):Option (Z6×Z6×Int×Int×Z6×Int×Unit):=
  bnd (jA.c1 ua ub some) fun y=>
  bnd (jA.cz_ (List.drop (Int.toNat ub) (List.take (Int.toNat (ua.length:Int)) ua)) some) fun y1=>
  sel y1
   (fun u=>some (List.take (2:Nat) (List.drop (Int.toNat ub) (List.take (Int.toNat (ua.length:Int)) ua)),ua,i64.wrap (ub+2),uc,ud,ue,()))
   (fun v=>bnd (idx (List.drop (Int.toNat ub) (List.take (Int.toNat (ua.length:Int)) ua)) (0:Int)) fun y2=>
    bnd (jA.cs_ (↑(UInt8.toNat y2):Int) some) fun y3=>
    br y3
     (bnd (okIf (decide ((1:Int)≤(↑(List.length (List.drop (Int.toNat ub) (List.take (Int.toNat (ua.length:Int)) ua))):Int)))) fun y4=>
      some (List.take (1:Nat) (List.drop (Int.toNat ub) (List.take (Int.toNat (ua.length:Int)) ua)),ua,i64.wrap (ub+1),uc,ud,ue,()))
     (some (Z5 [],ua,ub,uc,ud,ue,())))
def jA.mc:MCallee:=⟨57,jA.pre,jA.post,fun X=>jA X.1 X.2.1 X.2.2.1 X.2.2.2.1 (q4 X).1⟩
def jA.G:EB Z9:=⟨tb,Tryz.f57,[],[0,2,3,15,17,18,37,38],[1000100,1002164130018,1002615210038,2000000000018,2000000000038],[(1,[])],[(261521,jA.cs_r.ck),(208236,jA.cz_r.ck),(216413,jA.cr_r.ck),(1,jA.c1r.ck)],[],[]⟩
theorem jA.ok:MOk Z9 57 jA.mc:=fnM jA.G (mc:=jA.mc) Tryz.func57 (m:=4) ⟨⟨⟨⟨trivial,kR jA.c1r⟩,kJ jA.cz_r⟩,kJ jA.cr_r⟩,kJ jA.cs_r⟩
abbrev tg7:SD:=.one (.fn 55)
def js.pre:Shape:=⟨[(0,tg0),(1,tg7)],[(1000100,tg2)]⟩
def js.post:Shape:=⟨[(0,tg1)],[(1000100,tg2)]⟩
def js.c2 (ua:Z6)(ub:Int)(Z:Bool→Option ρ):Option ρ:=
  br (decide (ub<(ua.length:Int)))
   (bnd (idx ua ub) fun y=>
    bnd (JL (↑(UInt8.toNat y):Int)) fun y1=>
    Z y1)
   (Z false)
def js.c2s:Shape:=((js.pre.s 4 tg1).s 5 tg6)
def js.c2x0:Shape:=(js.c2s.s 32 tg3)
def js.c2r:RC:=⟨js.c2s,[(js.c2x0,0,[2,101])],no,[2,3],@js.c2,fun _ _ _ _=>jN (jm fun _=>(jm fun _=>jd)) jd⟩
def js.ca_ (ua:Z6)(ub:Int)(Z:Int⊕Int→Option ρ):Option ρ:=
  bnd (js.c2 ua ub some) fun y=>
  br y
   (Z (.inl (i64.wrap (ub+1))))
   (Z (.inr ub))
def js.ca_r:LC:=⟨js.c2s,[(js.c2s,2,[3,201])],no,[3],[2,3],@js.ca_,fun _ _ _ _=>jm fun _=>(jN jd jd)⟩
def js.c4 (t5:Int)(ua:Z6)(ub:Int)(Z:Unit→Option ρ):Option ρ:=
  bnd (okIf (decide ((0:Int)≤t5)&&decide (t5≤ub)&&decide (ub≤(ua.length:Int)))) fun y=>
  Z ()
def js.c4r:RC:=⟨js.c2s,[(js.c2s,0,[400,301])],fun X=>((List.drop (Int.toNat X.2.1) (List.take (Int.toNat X.2.2.2.1) X.2.2.1)),()),[1,2,3],@js.c4,fun _ _ _ _ _=>jm fun _=>jd⟩
def js (ua:Z6) (ub:Int) (uc:Int) (ud:Z6) (ue:Int):Option (Z6×Z6×Int×Int×Z6×Int×Unit):=
  bnd (iter (fun s↦js.ca_ ua s some) ub) fun y=>
  bnd (js.c4 ub ua y some) fun y1=>
  some (List.drop (Int.toNat ub) (List.take (Int.toNat y) ua),ua,y,uc,ud,ue,())
def js.mc:MCallee:=⟨53,js.pre,js.post,fun X=>js X.1 X.2.1 X.2.2.1 X.2.2.2.1 (q4 X).1⟩
def js.G:EB Z9:=⟨tb,Tryz.f53,[⟨55,JL.ce,JL.ok⟩],[0,1,4,5,32],[1000100],[(4,[]),(2,[])],[(4,js.c4r.ck),(100002,js.ca_r.ck),(2,js.c2r.ck)],[],[]⟩
theorem js.ok:MOk Z9 53 js.mc:=fnM js.G (mc:=js.mc) Tryz.func53 (m:=3) ⟨⟨⟨trivial,kL js.ca_r⟩,kR js.c2r⟩,kR js.c4r⟩
abbrev tg8:SD:=.one (.val (.st (.pair (.int .i64) (.pair .str (.int .i64)))))
abbrev tg9:SD:=.one (.ref 2 0)
abbrev tg10:SD:=.one (.ref 3 0)
abbrev tg11:SO:=.box [.val (.int .i64),.val .str,.val (.int .i64)]
def jD.pre:Shape:=⟨[(0,tg0)],[(1000100,tg2)]⟩
def jD.post:Shape:=⟨[(0,tg8)],[(1000100,tg2)]⟩
def jD.c3  (Z:Unit→Option ρ):Option ρ:=
  Z ()
def jD.c3s:Shape:=((((jD.pre.s 2 tg9).s 3 tg10).o 2 tg11).o 3 tg11)
def jD.c3x0:Shape:=(jD.c3s.s 21 tg3)
def jD.c3r:RC:=⟨jD.c3s,[(jD.c3x0,0,[400])],fun X=>(((q4 X).2.2.2.1==(X.2.2.2.2.2.2.1.length:Int)),()),[],@jD.c3,fun _ _=>jd⟩
def jD.c5 (ua:Z6)(ub:Int)(Z:Int→Option ρ):Option ρ:=
  bnd (idx ua ub) fun y=>
  Z (↑(UInt8.toNat y):Int)
def jD.c5x0:Shape:=(jD.c3s.s 4 tg4)
def jD.c5r:RC:=⟨jD.c3s,[(jD.c5x0,0,[101])],no,[6,7],@jD.c5,fun _ _ _ _=>jm fun _=>jd⟩
def jD.c15 (c:Int)(t1:Z6)(Z:Bool→Option ρ):Option ρ:=
  br (decide ((t1.length:Int)>9))
   (Z true)
   (br (decide ((t1.length:Int)>1))
     (Z (c==48))
     (Z false))
def jD.c15x0:Shape:=(jD.c5x0.s 71 tg3)
def jD.c15r:RC:=⟨jD.c5x0,[(jD.c15x0,0,[1,101])],no,[0,5],@jD.c15,fun _ _ _ _=>jN jd (jN jd jd)⟩
def jD.cD_ (ua:Z6)(ub:Int)(uc:Int)(ud:Z6)(ue:Int)(Z:Int×Z6×Z6×Int×Int×Z6×Int→Option ρ):Option ρ:=
  bnd (jD.c5 ua ub some) fun y=>
  bnd (JN y) fun y1=>
  br y1
   (bnd (jv ua ub uc ud ue) fun y2=>
    bnd (Jz y2.1) fun y3=>
    br y3
     (Z ((2:Int),y2.1,y2.2.1,y2.2.2.1,y2.2.2.2.1,y2.2.2.2.2.1,y2.2.2.2.2.2.1))
     (Z ((1:Int),y2.1,y2.2.1,y2.2.2.1,y2.2.2.2.1,y2.2.2.2.2.1,y2.2.2.2.2.2.1)))
   (bnd (JL y) fun y4=>
    br y4
     (bnd (js ua ub uc ud ue) fun y5=>
      bnd (jD.c15 y y5.1 some) fun y6=>
      br y6
       (Z ((5:Int),y5.1,y5.2.1,y5.2.2.1,y5.2.2.2.1,y5.2.2.2.2.1,y5.2.2.2.2.2.1))
       (Z ((3:Int),y5.1,y5.2.1,y5.2.2.1,y5.2.2.2.1,y5.2.2.2.2.1,y5.2.2.2.2.2.1)))
     (bnd (jA ua ub uc ud ue) fun y7=>
      br (y7.1==Z5 [])
       (Z ((5:Int),y7.1,y7.2.1,y7.2.2.1,y7.2.2.2.1,y7.2.2.2.2.1,y7.2.2.2.2.2.1))
       (Z ((4:Int),y7.1,y7.2.1,y7.2.2.1,y7.2.2.2.1,y7.2.2.2.2.1,y7.2.2.2.2.2.1))))
def jD.cD_r:RC:=⟨jD.c3s,[(jD.c3s,0,[3,202,1,205])],no,[6,7,8,9,10],@jD.cD_,fun _ _ _ _ _ _ _=>jm fun _=>(jm fun _=>(jN (jm fun _=>(jm fun _=>(jN jd jd))) (jm fun _=>(jN (jm fun _=>(jm fun _=>(jN jd jd))) (jm fun _=>(jN jd jd))))))⟩
def jD (ua:Z6) (ub:Int) (uc:Int) (ud:Z6) (ue:Int):Option (Z7×Z6×Int×Int×Z6×Int×Unit):=
  bnd (jf ua ub uc ud ue) fun y=>
  bnd (jD.c3 some) fun y1=>
  br (y.2.1==(↑(List.length y.1):Int))
   (some (((0:Int),[],y.2.1),y.1,y.2.1,y.2.2.1,y.2.2.2.1,y.2.2.2.2.1,()))
   (bnd (jD.cD_ y.1 y.2.1 y.2.2.1 y.2.2.2.1 y.2.2.2.2.1 some) fun y2=>
    some ((y2.1,y2.2.1,y.2.1),y2.2.2.1,y2.2.2.2.1,y2.2.2.2.2.1,y2.2.2.2.2.2.1,y2.2.2.2.2.2.2,()))
def jD.mc:MCallee:=⟨24,jD.pre,jD.post,fun X=>jD X.1 X.2.1 X.2.2.1 X.2.2.2.1 (q4 X).1⟩
def jD.G:EB Z9:=⟨tb,Tryz.f24,[⟨52,JN.ce,JN.ok⟩,⟨56,Jz.ce,Jz.ok⟩,⟨55,JL.ce,JL.ok⟩],[0,2,3,4,21,38,40,49,51,71],[1000100],[(5,[]),(3,[])],[(220510,jD.cD_r.ck),(15,jD.c15r.ck),(5,jD.c5r.ck),(3,jD.c3r.ck)],[⟨51,jf.mc,jf.ok⟩,⟨53,jv.mc,jv.ok⟩,⟨57,jA.mc,jA.ok⟩,⟨1000055,js.mc,js.ok⟩],[]⟩
theorem jD.ok:MOk Z9 24 jD.mc:=fnM jD.G (mc:=jD.mc) Tryz.func24 (m:=4) ⟨⟨⟨⟨trivial,kR jD.c3r⟩,kJ jD.cD_r⟩,kR jD.c5r⟩,kR jD.c15r⟩
def jI.pre:Shape:=⟨[(0,tg0)],[(1000100,tg2)]⟩
def jI.post:Shape:=⟨[(0,tg8)],[(1000100,tg2)]⟩
def jI (ua:Z6) (ub:Int) (uc:Int) (ud:Z6) (ue:Int):Option (Z7×Z6×Int×Int×Z6×Int×Unit):=
  bnd (jD ua ub uc ud ue) fun y=>
  some ((uc,ud,ue),y.2.1,y.2.2.1,y.1.1,y.1.2.1,y.1.2.2,())
def jI.mc:MCallee:=⟨14,jI.pre,jI.post,fun X=>jI X.1 X.2.1 X.2.2.1 X.2.2.2.1 (q4 X).1⟩
def jI.G:EB Z9:=⟨tb,Tryz.f14,[],[0,2,3],[1000100],[],[],[⟨24,jD.mc,jD.ok⟩],[]⟩
theorem jI.ok:MOk Z9 14 jI.mc:=fnM jI.G (mc:=jI.mc) Tryz.func14 (m:=0) trivial
def jq.pre:Shape:=⟨[(0,tg0),(1,tg1)],[(1000100,tg2)]⟩
def jq.post:Shape:=⟨[(0,tg3)],[(1000100,tg2)]⟩
def jq (w:Z6) (ua:Z6) (ub:Int) (uc:Int) (ud:Z6) (ue:Int):Option (Bool×Z6×Int×Int×Z6×Int×Unit):=
  bnd (jM w ua ub uc ud ue) fun y=>
  br y.1
   (bnd (jI y.2.1 y.2.2.1 y.2.2.2.1 y.2.2.2.2.1 y.2.2.2.2.2.1) fun y1=>
    some (true,y1.2.1,y1.2.2.1,y1.2.2.2.1,y1.2.2.2.2.1,y1.2.2.2.2.2.1,()))
   (some (false,y.2.1,y.2.2.1,y.2.2.2.1,y.2.2.2.2.1,y.2.2.2.2.2.1,()))
def jq.mc:MCallee:=⟨25,jq.pre,jq.post,fun X=>jq X.1 X.2.1 X.2.2.1 X.2.2.2.1 (q4 X).1 (q4 X).2.1⟩
def jq.G:EB Z9:=⟨tb,Tryz.f25,[],[0,1,4,7],[1000100],[],[],[⟨58,jM.mc,jM.ok⟩,⟨14,jI.mc,jI.ok⟩],[]⟩
theorem jq.ok:MOk Z9 25 jq.mc:=fnM jq.G (mc:=jq.mc) Tryz.func25 (m:=0) trivial
abbrev tg12:SD:=.one (.val (.ifc 35 (.st (.int .i64))))
def Jt.pre:Shape:=⟨[(0,tg0)],[(1000100,tg2)]⟩
def Jt.post:Shape:=⟨[],[(1000100,tg2)]⟩
def Jt.post2:Shape:=⟨[(0,tg12)],[(1000100,tg2)]⟩
def Jt (ua:Z6) (ub:Int) (uc:Int) (ud:Z6) (ue:Int):Option ((Z6×Int×Int×Z6×Int×Unit)⊕(Int×Z6×Int×Int×Z6×Int×Unit)):=
  some (Sum.inr (ue,ua,ub,uc,ud,ue,()))
def Jt.ma:MAlt:=⟨59,Jt.pre,Jt.post,true,Jt.post2,fun X=>Jt X.1 X.2.1 X.2.2.1 X.2.2.2.1 (q4 X).1⟩
def Jt.G:EB Z9:=⟨tb,Tryz.f59,[],[0],[1000100],[],[],[],[]⟩
theorem Jt.ok:AltOk Z9 59 Jt.ma:=fnA Jt.G (ma:=Jt.ma) Tryz.func59 (m:=0) trivial
abbrev tg13:SO:=.clo 0 [] [.val (.ifc 35 (.st (.int .i64)))]
def jJ.pre:Shape:=⟨[(0,tg0)],[(1000100,tg2)]⟩
def jJ.post:Shape:=⟨[(0,tg8)],[(1000100,tg2)]⟩
def jJ.post2:Shape:=⟨[(0,tg12)],[(1000100,tg2)]⟩
def jJ.ce_ (ua:Z6)(ub:Int)(uc:Int)(ud:Z6)(ue:Int)(Z:(Z6×Int×Int×Z6×Int)⊕(Int×Z6×Int×Int×Z6×Int)→Option ρ):Option ρ:=
  br (uc !=1)
   (bnd (Jt ua ub uc ud ue) fun y=>
    sel y
     (fun u=>Z (.inl (u.1,u.2.1,u.2.2.1,u.2.2.2.1,u.2.2.2.2.1)))
     (fun v=>Z (.inr (v.1,v.2.1,v.2.2.1,v.2.2.2.1,v.2.2.2.2.1,v.2.2.2.2.2.1))))
   (Z (.inl (ua,ub,uc,ud,ue)))
def jJ.ce_s:Shape:=((jJ.pre.s 2 tg9).o 2 tg11)
def jJ.ce_x1:Shape:=(jJ.ce_s.o 900001 tg13)
def jJ.ce_r:RC:=⟨jJ.ce_s,[(jJ.ce_s,0,[3,205]),(jJ.ce_x1,1000000,[3,205,101])],no,[3,4,5,6,7],@jJ.ce_,fun _ _ _ _ _ _ _=>jN (jm fun _=>(Jw (fun _=>jd) (fun _=>jd))) jd⟩
def jJ (ua:Z6) (ub:Int) (uc:Int) (ud:Z6) (ue:Int):Option ((Z7×Z6×Int×Int×Z6×Int×Unit)⊕(Int×Z6×Int×Int×Z6×Int×Unit)):=
  bnd (jJ.ce_ ua ub uc ud ue some) fun y=>
  sel y
   (fun u=>bnd (jI u.1 u.2.1 u.2.2.1 u.2.2.2.1 u.2.2.2.2) fun y1=>
    some (Sum.inl ((y1.1.1,y1.1.2.1,y1.1.2.2),y1.2.1,y1.2.2.1,y1.2.2.2.1,y1.2.2.2.2.1,y1.2.2.2.2.2.1,())))
   (fun v=>some (Sum.inr (v.1,v.2.1,v.2.2.1,v.2.2.2.1,v.2.2.2.2.1,v.2.2.2.2.2,())))
def jJ.ma:MAlt:=⟨26,jJ.pre,jJ.post,true,jJ.post2,fun X=>jJ X.1 X.2.1 X.2.2.1 X.2.2.2.1 (q4 X).1⟩
def jJ.G:EB Z9:=⟨tb,Tryz.f26,[],[0,2,8],[1000100],[],[(204101,jJ.ce_r.ck)],[⟨14,jI.mc,jI.ok⟩],[⟨59,Jt.ma,Jt.ok⟩]⟩
theorem jJ.ok:AltOk Z9 26 jJ.ma:=fnA jJ.G (ma:=jJ.ma) Tryz.func26 (m:=1) ⟨trivial,kJ jJ.ce_r⟩
abbrev tg14:SD:=.one (.ref 4 0)
def jr.pre:Shape:=⟨[(0,tg0),(1,tg1)],[(1000100,tg2)]⟩
def jr.post:Shape:=⟨[(0,tg8)],[(1000100,tg2)]⟩
def jr.post2:Shape:=⟨[(0,tg12)],[(1000100,tg2)]⟩
def jr.ce_ (w:Z6)(ua:Z6)(ub:Int)(uc:Int)(ud:Z6)(ue:Int)(Z:(Z6×Int×Int×Z6×Int)⊕(Int×Z6×Int×Int×Z6×Int)→Option ρ):Option ρ:=
  bnd (jM w ua ub uc ud ue) fun y=>
  br (!y.1)
   (bnd (Jt y.2.1 y.2.2.1 y.2.2.2.1 y.2.2.2.2.1 y.2.2.2.2.2.1) fun y1=>
    sel y1
     (fun u=>Z (.inl (u.1,u.2.1,u.2.2.1,u.2.2.2.1,u.2.2.2.2.1)))
     (fun v=>Z (.inr (v.1,v.2.1,v.2.2.1,v.2.2.2.1,v.2.2.2.2.1,v.2.2.2.2.2.1))))
   (Z (.inl (y.2.1,y.2.2.1,y.2.2.2.1,y.2.2.2.2.1,y.2.2.2.2.2.1)))
def jr.ce_s:Shape:=((jr.pre.s 4 tg14).o 4 tg11)
def jr.ce_x1:Shape:=(jr.ce_s.o 900001 tg13)
def jr.ce_r:RC:=⟨jr.ce_s,[(jr.ce_s,0,[4,205]),(jr.ce_x1,1000000,[4,205,101])],no,[0,4,5,6,7,8],@jr.ce_,fun _ _ _ _ _ _ _ _=>jm fun _=>(jN (jm fun _=>(Jw (fun _=>jd) (fun _=>jd))) jd)⟩
def jr (w:Z6) (ua:Z6) (ub:Int) (uc:Int) (ud:Z6) (ue:Int):Option ((Z7×Z6×Int×Int×Z6×Int×Unit)⊕(Int×Z6×Int×Int×Z6×Int×Unit)):=
  bnd (jr.ce_ w ua ub uc ud ue some) fun y=>
  sel y
   (fun u=>bnd (jI u.1 u.2.1 u.2.2.1 u.2.2.2.1 u.2.2.2.2) fun y1=>
    some (Sum.inl ((y1.1.1,y1.1.2.1,y1.1.2.2),y1.2.1,y1.2.2.1,y1.2.2.2.1,y1.2.2.2.2.1,y1.2.2.2.2.2.1,())))
   (fun v=>some (Sum.inr (v.1,v.2.1,v.2.2.1,v.2.2.2.1,v.2.2.2.2.1,v.2.2.2.2.2,())))
def jr.ma:MAlt:=⟨27,jr.pre,jr.post,true,jr.post2,fun X=>jr X.1 X.2.1 X.2.2.1 X.2.2.2.1 (q4 X).1 (q4 X).2.1⟩
def jr.G:EB Z9:=⟨tb,Tryz.f27,[],[0,1,4,8],[1000100],[],[(204101,jr.ce_r.ck)],[⟨58,jM.mc,jM.ok⟩,⟨14,jI.mc,jI.ok⟩],[⟨59,Jt.ma,Jt.ok⟩]⟩
theorem jr.ok:AltOk Z9 27 jr.ma:=fnA jr.G (ma:=jr.ma) Tryz.func27 (m:=1) ⟨trivial,kJ jr.ce_r⟩
def Jb.cn_ (t3:Z6)(Z:Bool→Option ρ):Option ρ:=
  br (t3==Z5 [61,61])
   (Z (t3==Z5 [61,61]))
   (br (t3==Z5 [33,61])
     (Z (t3==Z5 [33,61]))
     (br (t3==Z5 [60])
       (Z (t3==Z5 [60]))
       (br (t3==Z5 [60,61])
         (Z (t3==Z5 [60,61]))
         (br (t3==Z5 [62])
           (Z (t3==Z5 [62]))
           (Z (t3==Z5 [62,61]))))))
def Jb.cn_s:Shape:=⟨[(0,tg1),(2,tg6),(3,tg1)],[]⟩
def Jb.cn_x0:Shape:=(Jb.cn_s.s 4 tg3)
def Jb.cn_r:RC:=⟨Jb.cn_s,[(Jb.cn_x0,0,[3,101])],no,[2],@Jb.cn_,fun _ _ _=>jN jd (jN jd (jN jd (jN jd (jN jd jd))))⟩
def Jb.ct_ (t3:Z6)(Z:Bool→Option ρ):Option ρ:=
  br (t3==Z5 [43])
   (Z (t3==Z5 [43]))
   (Z (t3==Z5 [45]))
def Jb.ct_x0:Shape:=(Jb.cn_x0.s 11 tg3)
def Jb.ct_r:RC:=⟨Jb.cn_x0,[(Jb.ct_x0,0,[4,101])],no,[2],@Jb.ct_,fun _ _ _=>jN jd jd⟩
def Jb.cy_ (t3:Z6)(Z:Bool→Option ρ):Option ρ:=
  br (t3==Z5 [42])
   (Z (t3==Z5 [42]))
   (br (t3==Z5 [47])
     (Z (t3==Z5 [47]))
     (Z (t3==Z5 [37])))
def Jb.cy_x0:Shape:=(Jb.ct_x0.s 14 tg3)
def Jb.cy_r:RC:=⟨Jb.ct_x0,[(Jb.cy_x0,0,[5,101])],no,[2],@Jb.cy_,fun _ _ _=>jN jd (jN jd jd)⟩
def Jb (w:Z6):Option Int:=
  bnd (Jb.cn_ w some) fun y=>
  br y
   (some (1:Int))
   (bnd (Jb.ct_ w some) fun y1=>
    br y1
     (some (2:Int))
     (bnd (Jb.cy_ w some) fun y2=>
      br y2
       (some (3:Int))
       (br (w==Z5 [42,42])
         (some (5:Int))
         (some (0:Int)))))
def Jb.ce:=ceOf tab Tryz.f61 Jb
def Jb.G:EB Z9:=⟨tb,Tryz.f61,[],[0,2,3,4,11,14,18],[1002082130004,1002368690011,1002491610014,2000000000004,2000000000011,2000000000014],[],[(249161,Jb.cy_r.ck),(236869,Jb.ct_r.ck),(208213,Jb.cn_r.ck)],[],[]⟩
theorem Jb.ok:CalleeOk Z9 61 Jb.ce:=fnB Jb.G Tryz.func61 (m:=3) ⟨⟨⟨trivial,kJ Jb.cn_r⟩,kJ Jb.ct_r⟩,kJ Jb.cy_r⟩
def JV (t:Int×(Z6×Int)) (a:Z8) (b:Z8):Option Z8:=
  some (Rose.mk ((24:Int),t.2.2,t.2.1,(0:Int)) [Rose.mk (a.head.1,a.head.2.1,a.head.2.2.1,a.head.2.2.2) a.kids,Rose.mk (b.head.1,b.head.2.1,b.head.2.2.1,b.head.2.2.2) b.kids])
def JV.ce:=ceOf tab Tryz.f62 JV
def JV.G:EB Z9:=⟨tb,Tryz.f62,[],[0,1,2,3,4,5,6],[],[],[],[],[]⟩
theorem JV.ok:CalleeOk Z9 62 JV.ce:=fnB JV.G Tryz.func62 (m:=0) trivial
def Jy (kind:Int) (t:Int×(Z6×Int)) (kids:List Z8):Option Z8:=
  some (Rose.mk (kind,t.2.2,[],(0:Int)) kids)
def Jy.ce:=ceOf tab Tryz.f68 Jy
def Jy.G:EB Z9:=⟨tb,Tryz.f68,[],[0,1,2,4,6],[],[],[],[],[]⟩
theorem Jy.ok:CalleeOk Z9 68 Jy.ce:=fnB Jy.G Tryz.func68 (m:=0) trivial
def Jv (kind:Int) (t:Int×(Z6×Int)) (w:Int×(Z6×Int)) (kids:List Z8):Option Z8:=
  some (Rose.mk (kind,t.2.2,w.2.1,(0:Int)) kids)
def Jv.ce:=ceOf tab Tryz.f29 Jv
def Jv.G:EB Z9:=⟨tb,Tryz.f29,[],[0,1,2,3,5,6,8],[],[],[],[],[]⟩
theorem Jv.ok:CalleeOk Z9 29 Jv.ce:=fnB Jv.G Tryz.func29 (m:=0) trivial
abbrev tg15:SD:=.one (.val (.st (.node (.pair (.int .i64) (.pair (.int .i64) (.pair .str (.int .i64)))))))
abbrev tg16:SD:=.one (.clo 1000090)
abbrev tg17:SO:=.clo 103 [.ref 1000100 0] []
abbrev tg18:SO:=.clo 123 [.ref 1000100 0] []
abbrev tg19:SO:=.box [.val (.int .i64),.val (.int .i64),.val .str,.val (.int .i64),.val (.sl (.st (.node (.pair (.int .i64) (.pair (.int .i64) (.pair .str (.int .i64)))))))]
abbrev tg20:SD:=.one (.ref 6 0)
abbrev tg21:SD:=.one (.ref 7 0)
abbrev tg22:SD:=.one (.ref 8 0)
abbrev tg23:SD:=.one (.ref 5 0)
def jp.self.pre:Shape:=⟨[(0,tg0)],[(1000100,tg2)]⟩
def jp.self.post:Shape:=⟨[(0,tg15)],[(1000100,tg2)]⟩
def jp.self.post2:Shape:=⟨[(0,tg12)],[(1000100,tg2)]⟩
def jV.self.pre:Shape:=⟨[(0,tg0)],[(1000100,tg2)]⟩
def jV.self.post:Shape:=⟨[(0,tg15)],[(1000100,tg2)]⟩
def jV.self.post2:Shape:=⟨[(0,tg12)],[(1000100,tg2)]⟩
def jc.self.pre:Shape:=⟨[(0,tg0),(1,tg6),(2,tg16)],[(1000090,tg17),(1000100,tg2)]⟩
def jc.self.post:Shape:=⟨[(0,tg15)],[(1000090,tg17),(1000100,tg2)]⟩
def jc.self.post2:Shape:=⟨[(0,tg12)],[(1000090,tg17),(1000100,tg2)]⟩
def jK.self.pre:Shape:=⟨[(0,tg0)],[(1000100,tg2)]⟩
def jK.self.post:Shape:=⟨[(0,tg15)],[(1000100,tg2)]⟩
def jK.self.post2:Shape:=⟨[(0,tg12)],[(1000100,tg2)]⟩
def je.self.pre:Shape:=⟨[(0,tg0),(1,tg6),(2,tg16)],[(1000090,tg18),(1000100,tg2)]⟩
def je.self.post:Shape:=⟨[(0,tg15)],[(1000090,tg18),(1000100,tg2)]⟩
def je.self.post2:Shape:=⟨[(0,tg12)],[(1000090,tg18),(1000100,tg2)]⟩
def jn.self.pre:Shape:=⟨[(0,tg0)],[(1000100,tg2)]⟩
def jn.self.post:Shape:=⟨[(0,tg15)],[(1000100,tg2)]⟩
def jn.self.post2:Shape:=⟨[(0,tg12)],[(1000100,tg2)]⟩
def jR.self.pre:Shape:=⟨[(0,tg0)],[(1000100,tg2)]⟩
def jR.self.post:Shape:=⟨[(0,tg15)],[(1000100,tg2)]⟩
def jR.self.post2:Shape:=⟨[(0,tg12)],[(1000100,tg2)]⟩
class Jd.Self where
  F_tongue_parser_expr_b:densU jp.self.pre.tys→Option (densU jp.self.post.tys⊕densU jp.self.post2.tys)
  ok_tongue_parser_expr_b:AltOk Z9 28 ⟨28,jp.self.pre,jp.self.post,true,jp.self.post2,F_tongue_parser_expr_b⟩
  F_tongue_parser_sum_b:densU jV.self.pre.tys→Option (densU jV.self.post.tys⊕densU jV.self.post2.tys)
  ok_tongue_parser_sum_b:AltOk Z9 60 ⟨60,jV.self.pre,jV.self.post,true,jV.self.post2,F_tongue_parser_sum_b⟩
  F_tongue_parser_chain__product_b:densU jc.self.pre.tys→Option (densU jc.self.post.tys⊕densU jc.self.post2.tys)
  ok_tongue_parser_chain__product_b:AltOk Z9 102 ⟨102,jc.self.pre,jc.self.post,true,jc.self.post2,F_tongue_parser_chain__product_b⟩
  F_tongue_parser_product_b:densU jK.self.pre.tys→Option (densU jK.self.post.tys⊕densU jK.self.post2.tys)
  ok_tongue_parser_product_b:AltOk Z9 103 ⟨103,jK.self.pre,jK.self.post,true,jK.self.post2,F_tongue_parser_product_b⟩
  F_tongue_parser_chain__unary_b:densU je.self.pre.tys→Option (densU je.self.post.tys⊕densU je.self.post2.tys)
  ok_tongue_parser_chain__unary_b:AltOk Z9 102 ⟨102,je.self.pre,je.self.post,true,je.self.post2,F_tongue_parser_chain__unary_b⟩
  F_tongue_parser_unary_b:densU jn.self.pre.tys→Option (densU jn.self.post.tys⊕densU jn.self.post2.tys)
  ok_tongue_parser_unary_b:AltOk Z9 123 ⟨123,jn.self.pre,jn.self.post,true,jn.self.post2,F_tongue_parser_unary_b⟩
  F_tongue_parser_atom_b:densU jR.self.pre.tys→Option (densU jR.self.post.tys⊕densU jR.self.post2.tys)
  ok_tongue_parser_atom_b:AltOk Z9 131 ⟨131,jR.self.pre,jR.self.post,true,jR.self.post2,F_tongue_parser_atom_b⟩
section
variable [Jd.Self]
def jp.self (X:densU jp.self.pre.tys):Option (densU jp.self.post.tys⊕densU jp.self.post2.tys):=Jd.Self.F_tongue_parser_expr_b X
def jp.self.ma:MAlt:=⟨28,jp.self.pre,jp.self.post,true,jp.self.post2,fun X=>jp.self X⟩
theorem jp.self.ok:AltOk Z9 28 jp.self.ma:=Jd.Self.ok_tongue_parser_expr_b
def jV.self (X:densU jV.self.pre.tys):Option (densU jV.self.post.tys⊕densU jV.self.post2.tys):=Jd.Self.F_tongue_parser_sum_b X
def jV.self.ma:MAlt:=⟨60,jV.self.pre,jV.self.post,true,jV.self.post2,fun X=>jV.self X⟩
theorem jV.self.ok:AltOk Z9 60 jV.self.ma:=Jd.Self.ok_tongue_parser_sum_b
def jc.self (X:densU jc.self.pre.tys):Option (densU jc.self.post.tys⊕densU jc.self.post2.tys):=Jd.Self.F_tongue_parser_chain__product_b X
def jc.self.ma:MAlt:=⟨102,jc.self.pre,jc.self.post,true,jc.self.post2,fun X=>jc.self X⟩
theorem jc.self.ok:AltOk Z9 102 jc.self.ma:=Jd.Self.ok_tongue_parser_chain__product_b
def jK.self (X:densU jK.self.pre.tys):Option (densU jK.self.post.tys⊕densU jK.self.post2.tys):=Jd.Self.F_tongue_parser_product_b X
def jK.self.ma:MAlt:=⟨103,jK.self.pre,jK.self.post,true,jK.self.post2,fun X=>jK.self X⟩
theorem jK.self.ok:AltOk Z9 103 jK.self.ma:=Jd.Self.ok_tongue_parser_product_b
def je.self (X:densU je.self.pre.tys):Option (densU je.self.post.tys⊕densU je.self.post2.tys):=Jd.Self.F_tongue_parser_chain__unary_b X
def je.self.ma:MAlt:=⟨102,je.self.pre,je.self.post,true,je.self.post2,fun X=>je.self X⟩
theorem je.self.ok:AltOk Z9 102 je.self.ma:=Jd.Self.ok_tongue_parser_chain__unary_b
def jn.self (X:densU jn.self.pre.tys):Option (densU jn.self.post.tys⊕densU jn.self.post2.tys):=Jd.Self.F_tongue_parser_unary_b X
def jn.self.ma:MAlt:=⟨123,jn.self.pre,jn.self.post,true,jn.self.post2,fun X=>jn.self X⟩
theorem jn.self.ok:AltOk Z9 123 jn.self.ma:=Jd.Self.ok_tongue_parser_unary_b
def jR.self (X:densU jR.self.pre.tys):Option (densU jR.self.post.tys⊕densU jR.self.post2.tys):=Jd.Self.F_tongue_parser_atom_b X
def jR.self.ma:MAlt:=⟨131,jR.self.pre,jR.self.post,true,jR.self.post2,fun X=>jR.self X⟩
theorem jR.self.ok:AltOk Z9 131 jR.self.ma:=Jd.Self.ok_tongue_parser_atom_b
def jp.pre:Shape:=⟨[(0,tg0)],[(1000100,tg2)]⟩
def jp.post:Shape:=⟨[(0,tg15)],[(1000100,tg2)]⟩
def jp.post2:Shape:=⟨[(0,tg12)],[(1000100,tg2)]⟩
def jp.c2 {ρ:Type} (uc:Int)(ud:Z6)(Z:Bool→Option ρ):Option ρ:=
  br (uc==4)
   (bnd (Jb ud) fun y=>
    Z (y==1))
   (Z false)
def jp.c2s:Shape:=((((jp.pre.s 2 tg9).s 3 tg10).o 2 tg19).o 3 tg19)
def jp.c2x0:Shape:=(jp.c2s.s 21 tg3)
def jp.c2r:RC:=⟨jp.c2s,[(jp.c2x0,0,[101])],no,[12,13],fun _=>jp.c2,fun _ _ _ _=>jN (jm fun _=>jd) jd⟩
def jp.c4 {ρ:Type} (a0:Int)(a1:Int)(a2:Z6)(a3:Int)(a4:List Z8)(t0:Int)(t1:Z6)(t2:Int)(ua:Z6)(ub:Int)(uc:Int)(ud:Z6)(ue:Int)(Z:(Int×Int×Z6×Int×(List Z8)×Z6×Int×Int×Z6×Int)⊕(Int×Z6×Int×Int×Z6×Int)→Option ρ):Option ρ:=
  bnd (jV.self (ua,ub,uc,ud,ue,())) fun y=>
  sel y
   (fun u=>bnd (JV (t0,t1,t2) (Rose.mk (a0,a1,a2,a3) a4) u.1) fun y1=>
    Z (.inl (y1.head.1,y1.head.2.1,y1.head.2.2.1,y1.head.2.2.2,y1.kids,u.2.1,u.2.2.1,u.2.2.2.1,u.2.2.2.2.1,u.2.2.2.2.2.1)))
   (fun v=>Z (.inr (v.1,v.2.1,v.2.2.1,v.2.2.2.1,v.2.2.2.2.1,v.2.2.2.2.2.1)))
def jp.c4s:Shape:=((jp.c2s.s 4 tg14).o 4 tg11)
def jp.c4x1:Shape:=(((((jp.c4s.d 0).d 2).d 3).d 4).o 900001 tg13)
def jp.c4r:RC:=⟨jp.c4s,[(jp.c4s,0,[205,8,205]),(jp.c4x1,1000000,[13,205,101])],no,[5,6,7,8,9,10,11,12,13,14,15,16,17],fun _=>jp.c4,fun _ _ _ _ _ _ _ _ _ _ _ _ _ _ _=>jm fun _=>(Jw (fun _=>(jm fun _=>jd)) (fun _=>jd))⟩
def jp (ua:Z6) (ub:Int) (uc:Int) (ud:Z6) (ue:Int):Option ((Z8×Z6×Int×Int×Z6×Int×Unit)⊕(Int×Z6×Int×Int×Z6×Int×Unit)):=
  bnd (jV.self (ua,ub,uc,ud,ue,())) fun y=>
  sel y
   (fun u=>bnd (jp.c2 u.2.2.2.1 u.2.2.2.2.1 some) fun y1=>
    br y1
     (bnd (jI u.2.1 u.2.2.1 u.2.2.2.1 u.2.2.2.2.1 u.2.2.2.2.2.1) fun y2=>
      bnd (jp.c4 u.1.head.1 u.1.head.2.1 u.1.head.2.2.1 u.1.head.2.2.2 u.1.kids y2.1.1 y2.1.2.1 y2.1.2.2 y2.2.1 y2.2.2.1 y2.2.2.2.1 y2.2.2.2.2.1 y2.2.2.2.2.2.1 some) fun y3=>
      sel y3
       (fun u_1=>some (Sum.inl (Rose.mk (u_1.1,u_1.2.1,u_1.2.2.1,u_1.2.2.2.1) u_1.2.2.2.2.1,u_1.2.2.2.2.2.1,u_1.2.2.2.2.2.2.1,u_1.2.2.2.2.2.2.2.1,u_1.2.2.2.2.2.2.2.2.1,u_1.2.2.2.2.2.2.2.2.2,())))
       (fun v_1=>some (Sum.inr (v_1.1,v_1.2.1,v_1.2.2.1,v_1.2.2.2.1,v_1.2.2.2.2.1,v_1.2.2.2.2.2,()))))
     (some (Sum.inl (Rose.mk (u.1.head.1,u.1.head.2.1,u.1.head.2.2.1,u.1.head.2.2.2) u.1.kids,u.2.1,u.2.2.1,u.2.2.2.1,u.2.2.2.2.1,u.2.2.2.2.2.1,()))))
   (fun v=>some (Sum.inr (v.1,v.2.1,v.2.2.1,v.2.2.2.1,v.2.2.2.2.1,v.2.2.2.2.2.1,())))
def jp.ma:MAlt:=⟨28,jp.pre,jp.post,true,jp.post2,fun X=>jp X.1 X.2.1 X.2.2.1 X.2.2.2.1 (q4 X).1⟩
def jp.G:EB Z9:=⟨tb,Tryz.f28,[⟨61,Jb.ce,Jb.ok⟩,⟨62,JV.ce,JV.ok⟩],[0,2,3,4,21],[1000100],[(4,[(3,[1000100]),(5,[2])])],[(4,jp.c4r.ck),(2,jp.c2r.ck)],[⟨14,jI.mc,jI.ok⟩],[⟨60,jV.self.ma,jV.self.ok⟩]⟩
theorem jp.ok:AltOk Z9 28 jp.ma:=fnA jp.G (ma:=jp.ma) Tryz.func28 (m:=2) ⟨⟨trivial,kR jp.c2r⟩,kR jp.c4r⟩
def jV.pre:Shape:=⟨[(0,tg0)],[(1000100,tg2)]⟩
def jV.post:Shape:=⟨[(0,tg15)],[(1000100,tg2)]⟩
def jV.post2:Shape:=⟨[(0,tg12)],[(1000100,tg2)]⟩
def jV (ua:Z6) (ub:Int) (uc:Int) (ud:Z6) (ue:Int):Option ((Z8×Z6×Int×Int×Z6×Int×Unit)⊕(Int×Z6×Int×Int×Z6×Int×Unit)):=
  bnd (jc.self ((2:Int),ua,ub,uc,ud,ue,())) fun y=>
  sel y
   (fun u=>some (Sum.inl (Rose.mk (u.1.head.1,u.1.head.2.1,u.1.head.2.2.1,u.1.head.2.2.2) u.1.kids,u.2.1,u.2.2.1,u.2.2.2.1,u.2.2.2.2.1,u.2.2.2.2.2.1,())))
   (fun v=>some (Sum.inr (v.1,v.2.1,v.2.2.1,v.2.2.2.1,v.2.2.2.2.1,v.2.2.2.2.2.1,())))
def jV.ma:MAlt:=⟨60,jV.pre,jV.post,true,jV.post2,fun X=>jV X.1 X.2.1 X.2.2.1 X.2.2.2.1 (q4 X).1⟩
def jV.G:EB Z9:=⟨tb,Tryz.f60,[],[0,2],[1000100],[],[],[],[⟨102,jc.self.ma,jc.self.ok⟩]⟩
theorem jV.ok:AltOk Z9 60 jV.ma:=fnA jV.G (ma:=jV.ma) Tryz.func60 (m:=0) trivial
def jc.pre:Shape:=⟨[(0,tg0),(1,tg6),(2,tg16)],[(1000090,tg17),(1000100,tg2)]⟩
def jc.post:Shape:=⟨[(0,tg15)],[(1000090,tg17),(1000100,tg2)]⟩
def jc.post2:Shape:=⟨[(0,tg12)],[(1000090,tg17),(1000100,tg2)]⟩
def jc.c2 {ρ:Type} (of:Int)(uc:Int)(ud:Z6)(Z:Bool→Option ρ):Option ρ:=
  br (uc==4)
   (bnd (Jb ud) fun y=>
    Z (y==of))
   (Z false)
def jc.c2s:Shape:=((((jc.pre.s 6 tg20).s 7 tg21).o 6 tg19).o 7 tg19)
def jc.c2x0:Shape:=(jc.c2s.s 26 tg3)
def jc.c2r:RC:=⟨jc.c2s,[(jc.c2x0,0,[1,101])],no,[0,13,14],fun _=>jc.c2,fun _ _ _ _ _=>jN (jm fun _=>jd) jd⟩
def jc.c4 {ρ:Type} (a0:Int)(a1:Int)(a2:Z6)(a3:Int)(a4:List Z8)(t0:Int)(t1:Z6)(t2:Int)(ua:Z6)(ub:Int)(uc:Int)(ud:Z6)(ue:Int)(Z:(Int×Int×Z6×Int×(List Z8)×Z6×Int×Int×Z6×Int)⊕(Int×Z6×Int×Int×Z6×Int)→Option ρ):Option ρ:=
  bnd (jK.self (ua,ub,uc,ud,ue,())) fun y=>
  sel y
   (fun u=>bnd (JV (t0,t1,t2) (Rose.mk (a0,a1,a2,a3) a4) u.1) fun y1=>
    Z (.inl (y1.head.1,y1.head.2.1,y1.head.2.2.1,y1.head.2.2.2,y1.kids,u.2.1,u.2.2.1,u.2.2.2.1,u.2.2.2.2.1,u.2.2.2.2.2.1)))
   (fun v=>Z (.inr (v.1,v.2.1,v.2.2.1,v.2.2.2.1,v.2.2.2.2.1,v.2.2.2.2.2.1)))
def jc.c4s:Shape:=((jc.c2s.s 8 tg22).o 8 tg11)
def jc.c4x1:Shape:=(((((((jc.c4s.d 0).d 1).d 2).d 6).d 7).d 8).o 900001 tg13)
def jc.c4r:RC:=⟨jc.c4s,[(jc.c4s,0,[6,205,3,205]),(jc.c4x1,1000000,[301,13,205,101])],no,[6,7,8,9,10,11,12,13,14,15,16,17,18],fun _=>jc.c4,fun _ _ _ _ _ _ _ _ _ _ _ _ _ _ _=>jm fun _=>(Jw (fun _=>(jm fun _=>jd)) (fun _=>jd))⟩
def jc.ca_ {ρ:Type} (of:Int)(a0:Int)(a1:Int)(a2:Z6)(a3:Int)(a4:List Z8)(ua:Z6)(ub:Int)(uc:Int)(ud:Z6)(ue:Int)(Z:(Int×Int×Z6×Int×(List Z8)×Z6×Int×Int×Z6×Int)⊕((Int×Int×Z6×Int×(List Z8)×Int×Z6×Int×Int×Z6×Int)⊕(Int×Int×Z6×Int×(List Z8)×Z6×Int×Int×Z6×Int))→Option ρ):Option ρ:=
  bnd (jc.c2 of uc ud some) fun y=>
  br y
   (bnd (jI ua ub uc ud ue) fun y1=>
    bnd (jc.c4 a0 a1 a2 a3 a4 y1.1.1 y1.1.2.1 y1.1.2.2 y1.2.1 y1.2.2.1 y1.2.2.2.1 y1.2.2.2.2.1 y1.2.2.2.2.2.1 some) fun y2=>
    sel y2
     (fun u=>Z (.inl (u.1,u.2.1,u.2.2.1,u.2.2.2.1,u.2.2.2.2.1,u.2.2.2.2.2.1,u.2.2.2.2.2.2.1,u.2.2.2.2.2.2.2.1,u.2.2.2.2.2.2.2.2.1,u.2.2.2.2.2.2.2.2.2)))
     (fun v=>Z (.inr (.inl (a0,a1,a2,a3,a4,v.1,v.2.1,v.2.2.1,v.2.2.2.1,v.2.2.2.2.1,v.2.2.2.2.2)))))
   (Z (.inr (.inr (a0,a1,a2,a3,a4,ua,ub,uc,ud,ue))))
def jc.ca_x0:Shape:=(jc.c4x1.g 8)
def jc.ca_r:LC:=⟨jc.c2s,[(jc.ca_x0,1000000,[301,5,210,101]),(jc.c2s,2,[6,210])],no,[6,7,8,9,10,11,12,13,14,15],[0,6,7,8,9,10,11,12,13,14,15],fun _=>jc.ca_,fun _ _ _ _ _ _ _ _ _ _ _ _ _=>jm fun _=>(jN (jm fun _=>(jm fun _=>(Jw (fun _=>jd) (fun _=>jd)))) jd)⟩
def jc (of:Int) (ua:Z6) (ub:Int) (uc:Int) (ud:Z6) (ue:Int):Option ((Z8×Z6×Int×Int×Z6×Int×Unit)⊕(Int×Z6×Int×Int×Z6×Int×Unit)):=
  bnd (jK.self (ua,ub,uc,ud,ue,())) fun y=>
  sel y
   (fun u=>bnd (iter (fun s↦jc.ca_ of s.1 s.2.1 s.2.2.1 s.2.2.2.1 s.2.2.2.2.1 s.2.2.2.2.2.1 s.2.2.2.2.2.2.1 s.2.2.2.2.2.2.2.1 s.2.2.2.2.2.2.2.2.1 s.2.2.2.2.2.2.2.2.2 some) (u.1.head.1,u.1.head.2.1,u.1.head.2.2.1,u.1.head.2.2.2,Rose.kids u.1,u.2.1,u.2.2.1,u.2.2.2.1,u.2.2.2.2.1,u.2.2.2.2.2.1)) fun y1=>
    sel y1
     (fun u_1=>some (Sum.inr (u_1.2.2.2.2.2.1,u_1.2.2.2.2.2.2.1,u_1.2.2.2.2.2.2.2.1,u_1.2.2.2.2.2.2.2.2.1,u_1.2.2.2.2.2.2.2.2.2.1,u_1.2.2.2.2.2.2.2.2.2.2,())))
     (fun v_1=>some (Sum.inl (Rose.mk (v_1.1,v_1.2.1,v_1.2.2.1,v_1.2.2.2.1) v_1.2.2.2.2.1,v_1.2.2.2.2.2.1,v_1.2.2.2.2.2.2.1,v_1.2.2.2.2.2.2.2.1,v_1.2.2.2.2.2.2.2.2.1,v_1.2.2.2.2.2.2.2.2.2,()))))
   (fun v=>some (Sum.inr (v.1,v.2.1,v.2.2.1,v.2.2.2.1,v.2.2.2.2.1,v.2.2.2.2.2.1,())))
def jc.ma:MAlt:=⟨102,jc.pre,jc.post,true,jc.post2,fun X=>jc X.1 X.2.1 X.2.2.1 X.2.2.2.1 (q4 X).1 (q4 X).2.1⟩
def jc.G:EB Z9:=⟨tb,Tryz.f102,[⟨61,Jb.ce,Jb.ok⟩,⟨62,JV.ce,JV.ok⟩],[0,1,2,6,7,8,26],[1000100],[(4,[(3,[1000100]),(5,[7])])],[(100002,jc.ca_r.ck),(4,jc.c4r.ck),(2,jc.c2r.ck)],[⟨14,jI.mc,jI.ok⟩],[⟨103,jK.self.ma,jK.self.ok⟩]⟩
theorem jc.ok:AltOk Z9 102 jc.ma:=fnA jc.G (ma:=jc.ma) Tryz.func102 (m:=3) ⟨⟨⟨trivial,kL jc.ca_r⟩,kR jc.c2r⟩,kR jc.c4r⟩
def jK.pre:Shape:=⟨[(0,tg0)],[(1000100,tg2)]⟩
def jK.post:Shape:=⟨[(0,tg15)],[(1000100,tg2)]⟩
def jK.post2:Shape:=⟨[(0,tg12)],[(1000100,tg2)]⟩
def jK (ua:Z6) (ub:Int) (uc:Int) (ud:Z6) (ue:Int):Option ((Z8×Z6×Int×Int×Z6×Int×Unit)⊕(Int×Z6×Int×Int×Z6×Int×Unit)):=
  bnd (je.self ((3:Int),ua,ub,uc,ud,ue,())) fun y=>
  sel y
   (fun u=>some (Sum.inl (Rose.mk (u.1.head.1,u.1.head.2.1,u.1.head.2.2.1,u.1.head.2.2.2) u.1.kids,u.2.1,u.2.2.1,u.2.2.2.1,u.2.2.2.2.1,u.2.2.2.2.2.1,())))
   (fun v=>some (Sum.inr (v.1,v.2.1,v.2.2.1,v.2.2.2.1,v.2.2.2.2.1,v.2.2.2.2.2.1,())))
def jK.ma:MAlt:=⟨103,jK.pre,jK.post,true,jK.post2,fun X=>jK X.1 X.2.1 X.2.2.1 X.2.2.2.1 (q4 X).1⟩
def jK.G:EB Z9:=⟨tb,Tryz.f103,[],[0,2],[1000100],[],[],[],[⟨102,je.self.ma,je.self.ok⟩]⟩
theorem jK.ok:AltOk Z9 103 jK.ma:=fnA jK.G (ma:=jK.ma) Tryz.func103 (m:=0) trivial
def je.pre:Shape:=⟨[(0,tg0),(1,tg6),(2,tg16)],[(1000090,tg18),(1000100,tg2)]⟩
def je.post:Shape:=⟨[(0,tg15)],[(1000090,tg18),(1000100,tg2)]⟩
def je.post2:Shape:=⟨[(0,tg12)],[(1000090,tg18),(1000100,tg2)]⟩
def je.c2 {ρ:Type} (of:Int)(uc:Int)(ud:Z6)(Z:Bool→Option ρ):Option ρ:=
  br (uc==4)
   (bnd (Jb ud) fun y=>
    Z (y==of))
   (Z false)
def je.c2s:Shape:=((((je.pre.s 6 tg20).s 7 tg21).o 6 tg19).o 7 tg19)
def je.c2x0:Shape:=(je.c2s.s 26 tg3)
def je.c2r:RC:=⟨je.c2s,[(je.c2x0,0,[1,101])],no,[0,13,14],fun _=>je.c2,fun _ _ _ _ _=>jN (jm fun _=>jd) jd⟩
def je.c4 {ρ:Type} (a0:Int)(a1:Int)(a2:Z6)(a3:Int)(a4:List Z8)(t0:Int)(t1:Z6)(t2:Int)(ua:Z6)(ub:Int)(uc:Int)(ud:Z6)(ue:Int)(Z:(Int×Int×Z6×Int×(List Z8)×Z6×Int×Int×Z6×Int)⊕(Int×Z6×Int×Int×Z6×Int)→Option ρ):Option ρ:=
  bnd (jn.self (ua,ub,uc,ud,ue,())) fun y=>
  sel y
   (fun u=>bnd (JV (t0,t1,t2) (Rose.mk (a0,a1,a2,a3) a4) u.1) fun y1=>
    Z (.inl (y1.head.1,y1.head.2.1,y1.head.2.2.1,y1.head.2.2.2,y1.kids,u.2.1,u.2.2.1,u.2.2.2.1,u.2.2.2.2.1,u.2.2.2.2.2.1)))
   (fun v=>Z (.inr (v.1,v.2.1,v.2.2.1,v.2.2.2.1,v.2.2.2.2.1,v.2.2.2.2.2.1)))
def je.c4s:Shape:=((je.c2s.s 8 tg22).o 8 tg11)
def je.c4x1:Shape:=(((((((je.c4s.d 0).d 1).d 2).d 6).d 7).d 8).o 900001 tg13)
def je.c4r:RC:=⟨je.c4s,[(je.c4s,0,[6,205,3,205]),(je.c4x1,1000000,[301,13,205,101])],no,[6,7,8,9,10,11,12,13,14,15,16,17,18],fun _=>je.c4,fun _ _ _ _ _ _ _ _ _ _ _ _ _ _ _=>jm fun _=>(Jw (fun _=>(jm fun _=>jd)) (fun _=>jd))⟩
def je.ca_ {ρ:Type} (of:Int)(a0:Int)(a1:Int)(a2:Z6)(a3:Int)(a4:List Z8)(ua:Z6)(ub:Int)(uc:Int)(ud:Z6)(ue:Int)(Z:(Int×Int×Z6×Int×(List Z8)×Z6×Int×Int×Z6×Int)⊕((Int×Int×Z6×Int×(List Z8)×Int×Z6×Int×Int×Z6×Int)⊕(Int×Int×Z6×Int×(List Z8)×Z6×Int×Int×Z6×Int))→Option ρ):Option ρ:=
  bnd (je.c2 of uc ud some) fun y=>
  br y
   (bnd (jI ua ub uc ud ue) fun y1=>
    bnd (je.c4 a0 a1 a2 a3 a4 y1.1.1 y1.1.2.1 y1.1.2.2 y1.2.1 y1.2.2.1 y1.2.2.2.1 y1.2.2.2.2.1 y1.2.2.2.2.2.1 some) fun y2=>
    sel y2
     (fun u=>Z (.inl (u.1,u.2.1,u.2.2.1,u.2.2.2.1,u.2.2.2.2.1,u.2.2.2.2.2.1,u.2.2.2.2.2.2.1,u.2.2.2.2.2.2.2.1,u.2.2.2.2.2.2.2.2.1,u.2.2.2.2.2.2.2.2.2)))
     (fun v=>Z (.inr (.inl (a0,a1,a2,a3,a4,v.1,v.2.1,v.2.2.1,v.2.2.2.1,v.2.2.2.2.1,v.2.2.2.2.2)))))
   (Z (.inr (.inr (a0,a1,a2,a3,a4,ua,ub,uc,ud,ue))))
def je.ca_x0:Shape:=(je.c4x1.g 8)
def je.ca_r:LC:=⟨je.c2s,[(je.ca_x0,1000000,[301,5,210,101]),(je.c2s,2,[6,210])],no,[6,7,8,9,10,11,12,13,14,15],[0,6,7,8,9,10,11,12,13,14,15],fun _=>je.ca_,fun _ _ _ _ _ _ _ _ _ _ _ _ _=>jm fun _=>(jN (jm fun _=>(jm fun _=>(Jw (fun _=>jd) (fun _=>jd)))) jd)⟩
def je (of:Int) (ua:Z6) (ub:Int) (uc:Int) (ud:Z6) (ue:Int):Option ((Z8×Z6×Int×Int×Z6×Int×Unit)⊕(Int×Z6×Int×Int×Z6×Int×Unit)):=
  bnd (jn.self (ua,ub,uc,ud,ue,())) fun y=>
  sel y
   (fun u=>bnd (iter (fun s↦je.ca_ of s.1 s.2.1 s.2.2.1 s.2.2.2.1 s.2.2.2.2.1 s.2.2.2.2.2.1 s.2.2.2.2.2.2.1 s.2.2.2.2.2.2.2.1 s.2.2.2.2.2.2.2.2.1 s.2.2.2.2.2.2.2.2.2 some) (u.1.head.1,u.1.head.2.1,u.1.head.2.2.1,u.1.head.2.2.2,Rose.kids u.1,u.2.1,u.2.2.1,u.2.2.2.1,u.2.2.2.2.1,u.2.2.2.2.2.1)) fun y1=>
    sel y1
     (fun u_1=>some (Sum.inr (u_1.2.2.2.2.2.1,u_1.2.2.2.2.2.2.1,u_1.2.2.2.2.2.2.2.1,u_1.2.2.2.2.2.2.2.2.1,u_1.2.2.2.2.2.2.2.2.2.1,u_1.2.2.2.2.2.2.2.2.2.2,())))
     (fun v_1=>some (Sum.inl (Rose.mk (v_1.1,v_1.2.1,v_1.2.2.1,v_1.2.2.2.1) v_1.2.2.2.2.1,v_1.2.2.2.2.2.1,v_1.2.2.2.2.2.2.1,v_1.2.2.2.2.2.2.2.1,v_1.2.2.2.2.2.2.2.2.1,v_1.2.2.2.2.2.2.2.2.2,()))))
   (fun v=>some (Sum.inr (v.1,v.2.1,v.2.2.1,v.2.2.2.1,v.2.2.2.2.1,v.2.2.2.2.2.1,())))
def je.ma:MAlt:=⟨102,je.pre,je.post,true,je.post2,fun X=>je X.1 X.2.1 X.2.2.1 X.2.2.2.1 (q4 X).1 (q4 X).2.1⟩
def je.G:EB Z9:=⟨tb,Tryz.f102,[⟨61,Jb.ce,Jb.ok⟩,⟨62,JV.ce,JV.ok⟩],[0,1,2,6,7,8,26],[1000100],[(4,[(3,[1000100]),(5,[7])])],[(100002,je.ca_r.ck),(4,je.c4r.ck),(2,je.c2r.ck)],[⟨14,jI.mc,jI.ok⟩],[⟨123,jn.self.ma,jn.self.ok⟩]⟩
theorem je.ok:AltOk Z9 102 je.ma:=fnA je.G (ma:=je.ma) Tryz.func102 (m:=3) ⟨⟨⟨trivial,kL je.ca_r⟩,kR je.c2r⟩,kR je.c4r⟩
def jn.pre:Shape:=⟨[(0,tg0)],[(1000100,tg2)]⟩
def jn.post:Shape:=⟨[(0,tg15)],[(1000100,tg2)]⟩
def jn.post2:Shape:=⟨[(0,tg12)],[(1000100,tg2)]⟩
def jn.c3 {ρ:Type} (t0:Int)(t1:Z6)(t2:Int)(ua:Z6)(ub:Int)(uc:Int)(ud:Z6)(ue:Int)(Z:(Int×Int×Z6×Int×(List Z8)×Z6×Int×Int×Z6×Int)⊕(Int×Z6×Int×Int×Z6×Int)→Option ρ):Option ρ:=
  bnd (jn.self (ua,ub,uc,ud,ue,())) fun y=>
  sel y
   (fun u=>bnd (Jy (23:Int) (t0,t1,t2) [u.1]) fun y1=>
    Z (.inl (y1.head.1,y1.head.2.1,y1.head.2.2.1,y1.head.2.2.2,y1.kids,u.2.1,u.2.2.1,u.2.2.2.1,u.2.2.2.2.1,u.2.2.2.2.2.1)))
   (fun v=>Z (.inr (v.1,v.2.1,v.2.2.1,v.2.2.2.1,v.2.2.2.2.1,v.2.2.2.2.2.1)))
def jn.c3s:Shape:=((((jn.pre.s 2 tg9).s 3 tg10).o 2 tg19).o 3 tg11)
def jn.c3x1:Shape:=((((jn.c3s.d 0).d 2).d 3).o 900001 tg13)
def jn.c3r:RC:=⟨jn.c3s,[(jn.c3s,0,[205,3,205]),(jn.c3x1,1000000,[8,205,101])],no,[5,6,7,8,9,10,11,12],fun _=>jn.c3,fun _ _ _ _ _ _ _ _ _ _=>jm fun _=>(Jw (fun _=>(jm fun _=>jd)) (fun _=>jd))⟩
def jn.c7 {ρ:Type} (a0:Int)(a1:Int)(a2:Z6)(a3:Int)(a4:List Z8)(t0_1:Int)(t1_1:Z6)(t2_1:Int)(ua:Z6)(ub:Int)(uc:Int)(ud:Z6)(ue:Int)(Z:(Int×Int×Z6×Int×(List Z8)×Z6×Int×Int×Z6×Int)⊕(Int×Z6×Int×Int×Z6×Int)→Option ρ):Option ρ:=
  bnd (jn.self (ua,ub,uc,ud,ue,())) fun y=>
  sel y
   (fun u=>bnd (JV (t0_1,t1_1,t2_1) (Rose.mk (a0,a1,a2,a3) a4) u.1) fun y1=>
    Z (.inl (y1.head.1,y1.head.2.1,y1.head.2.2.1,y1.head.2.2.2,y1.kids,u.2.1,u.2.2.1,u.2.2.2.1,u.2.2.2.2.1,u.2.2.2.2.2.1)))
   (fun v=>Z (.inr (v.1,v.2.1,v.2.2.1,v.2.2.2.1,v.2.2.2.2.1,v.2.2.2.2.2.1)))
def jn.c7s:Shape:=((((jn.c3s.s 4 tg14).s 5 tg23).o 4 tg19).o 5 tg11)
def jn.c7x1:Shape:=((jn.c3x1.o 4 tg19).o 5 tg11)
def jn.c7r:RC:=⟨jn.c7s,[(jn.c7s,0,[205,11,205]),(jn.c7x1,1000000,[16,205,101])],no,[8,9,10,11,12,13,14,15,16,17,18,19,20],fun _=>jn.c7,fun _ _ _ _ _ _ _ _ _ _ _ _ _ _ _=>jm fun _=>(Jw (fun _=>(jm fun _=>jd)) (fun _=>jd))⟩
def jn (ua:Z6) (ub:Int) (uc:Int) (ud:Z6) (ue:Int):Option ((Z8×Z6×Int×Int×Z6×Int×Unit)⊕(Int×Z6×Int×Int×Z6×Int×Unit)):=
  bnd (jq (Z5 [45]) ua ub uc ud ue) fun y=>
  br y.1
   (bnd (jn.c3 uc ud ue y.2.1 y.2.2.1 y.2.2.2.1 y.2.2.2.2.1 y.2.2.2.2.2.1 some) fun y1=>
    sel y1
     (fun u=>some (Sum.inl (Rose.mk (u.1,u.2.1,u.2.2.1,u.2.2.2.1) u.2.2.2.2.1,u.2.2.2.2.2.1,u.2.2.2.2.2.2.1,u.2.2.2.2.2.2.2.1,u.2.2.2.2.2.2.2.2.1,u.2.2.2.2.2.2.2.2.2,())))
     (fun v=>some (Sum.inr (v.1,v.2.1,v.2.2.1,v.2.2.2.1,v.2.2.2.2.1,v.2.2.2.2.2,()))))
   (bnd (jR.self (y.2.1,y.2.2.1,y.2.2.2.1,y.2.2.2.2.1,y.2.2.2.2.2.1,())) fun y2=>
    sel y2
     (fun u_1=>bnd (jM (Z5 [42,42]) u_1.2.1 u_1.2.2.1 u_1.2.2.2.1 u_1.2.2.2.2.1 u_1.2.2.2.2.2.1) fun y3=>
      br y3.1
       (bnd (jI y3.2.1 y3.2.2.1 y3.2.2.2.1 y3.2.2.2.2.1 y3.2.2.2.2.2.1) fun y4=>
        bnd (jn.c7 u_1.1.head.1 u_1.1.head.2.1 u_1.1.head.2.2.1 u_1.1.head.2.2.2 u_1.1.kids y4.1.1 y4.1.2.1 y4.1.2.2 y4.2.1 y4.2.2.1 y4.2.2.2.1 y4.2.2.2.2.1 y4.2.2.2.2.2.1 some) fun y5=>
        sel y5
         (fun u_2=>some (Sum.inl (Rose.mk (u_2.1,u_2.2.1,u_2.2.2.1,u_2.2.2.2.1) u_2.2.2.2.2.1,u_2.2.2.2.2.2.1,u_2.2.2.2.2.2.2.1,u_2.2.2.2.2.2.2.2.1,u_2.2.2.2.2.2.2.2.2.1,u_2.2.2.2.2.2.2.2.2.2,())))
         (fun v_2=>some (Sum.inr (v_2.1,v_2.2.1,v_2.2.2.1,v_2.2.2.2.1,v_2.2.2.2.2.1,v_2.2.2.2.2.2,()))))
       (some (Sum.inl (Rose.mk (u_1.1.head.1,u_1.1.head.2.1,u_1.1.head.2.2.1,u_1.1.head.2.2.2) u_1.1.kids,y3.2.1,y3.2.2.1,y3.2.2.2.1,y3.2.2.2.2.1,y3.2.2.2.2.2.1,()))))
     (fun v_1=>some (Sum.inr (v_1.1,v_1.2.1,v_1.2.2.1,v_1.2.2.2.1,v_1.2.2.2.2.1,v_1.2.2.2.2.2.1,()))))
def jn.ma:MAlt:=⟨123,jn.pre,jn.post,true,jn.post2,fun X=>jn X.1 X.2.1 X.2.2.1 X.2.2.2.1 (q4 X).1⟩
def jn.G:EB Z9:=⟨tb,Tryz.f123,[⟨68,Jy.ce,Jy.ok⟩,⟨62,JV.ce,JV.ok⟩],[0,2,3,4,5,11,20],[1000100],[(7,[(3,[1000100]),(5,[2])]),(3,[(2,[1000100]),(3,[15]),(4,[15]),(5,[2])])],[(7,jn.c7r.ck),(3,jn.c3r.ck)],[⟨25,jq.mc,jq.ok⟩,⟨58,jM.mc,jM.ok⟩,⟨14,jI.mc,jI.ok⟩],[⟨123,jn.self.ma,jn.self.ok⟩,⟨131,jR.self.ma,jR.self.ok⟩]⟩
theorem jn.ok:AltOk Z9 123 jn.ma:=fnA jn.G (ma:=jn.ma) Tryz.func123 (m:=2) ⟨⟨trivial,kR jn.c3r⟩,kR jn.c7r⟩
def jR.pre:Shape:=⟨[(0,tg0)],[(1000100,tg2)]⟩
def jR.post:Shape:=⟨[(0,tg15)],[(1000100,tg2)]⟩
def jR.post2:Shape:=⟨[(0,tg12)],[(1000100,tg2)]⟩
def jR (ua:Z6) (ub:Int) (uc:Int) (ud:Z6) (ue:Int):Option ((Z8×Z6×Int×Int×Z6×Int×Unit)⊕(Int×Z6×Int×Int×Z6×Int×Unit)):=
  br (uc==3)
   (bnd (jI ua ub uc ud ue) fun y=>
    bnd (Ya ud) fun y1=>
    some (Sum.inl (Rose.mk ((20:Int),ue,[],y1.1) [],y.2.1,y.2.2.1,y.2.2.2.1,y.2.2.2.2.1,y.2.2.2.2.2.1,())))
   (br (uc==1)
     (bnd (jI ua ub uc ud ue) fun y2=>
      bnd (Jv (21:Int) (uc,ud,ue) (uc,ud,ue) []) fun y3=>
      some (Sum.inl (Rose.mk (y3.head.1,y3.head.2.1,y3.head.2.2.1,y3.head.2.2.2) y3.kids,y2.2.1,y2.2.2.1,y2.2.2.2.1,y2.2.2.2.2.1,y2.2.2.2.2.2.1,())))
     (bnd (jq (Z5 [115,105,122,101]) ua ub uc ud ue) fun y4=>
      br y4.1
       (bnd (jr (Z5 [40]) y4.2.1 y4.2.2.1 y4.2.2.2.1 y4.2.2.2.2.1 y4.2.2.2.2.2.1) fun y5=>
        sel y5
         (fun u=>bnd (jJ u.2.1 u.2.2.1 u.2.2.2.1 u.2.2.2.2.1 u.2.2.2.2.2.1) fun y6=>
          sel y6
           (fun u_1=>bnd (jr (Z5 [41]) u_1.2.1 u_1.2.2.1 u_1.2.2.2.1 u_1.2.2.2.2.1 u_1.2.2.2.2.2.1) fun y7=>
            sel y7
             (fun u_2=>bnd (Jv (22:Int) (uc,ud,ue) (u_1.1.1,u_1.1.2.1,u_1.1.2.2) []) fun y8=>
              some (Sum.inl (Rose.mk (y8.head.1,y8.head.2.1,y8.head.2.2.1,y8.head.2.2.2) y8.kids,u_2.2.1,u_2.2.2.1,u_2.2.2.2.1,u_2.2.2.2.2.1,u_2.2.2.2.2.2.1,())))
             (fun v_2=>some (Sum.inr (v_2.1,v_2.2.1,v_2.2.2.1,v_2.2.2.2.1,v_2.2.2.2.2.1,v_2.2.2.2.2.2.1,()))))
           (fun v_1=>some (Sum.inr (v_1.1,v_1.2.1,v_1.2.2.1,v_1.2.2.2.1,v_1.2.2.2.2.1,v_1.2.2.2.2.2.1,()))))
         (fun v=>some (Sum.inr (v.1,v.2.1,v.2.2.1,v.2.2.2.1,v.2.2.2.2.1,v.2.2.2.2.2.1,()))))
       (bnd (jr (Z5 [40]) y4.2.1 y4.2.2.1 y4.2.2.2.1 y4.2.2.2.2.1 y4.2.2.2.2.2.1) fun y9=>
        sel y9
         (fun u_3=>bnd (jp.self (u_3.2.1,u_3.2.2.1,u_3.2.2.2.1,u_3.2.2.2.2.1,u_3.2.2.2.2.2.1,())) fun y10=>
          sel y10
           (fun u_4=>bnd (jr (Z5 [41]) u_4.2.1 u_4.2.2.1 u_4.2.2.2.1 u_4.2.2.2.2.1 u_4.2.2.2.2.2.1) fun y11=>
            sel y11
             (fun u_5=>some (Sum.inl (Rose.mk (u_4.1.head.1,u_4.1.head.2.1,u_4.1.head.2.2.1,u_4.1.head.2.2.2) u_4.1.kids,u_5.2.1,u_5.2.2.1,u_5.2.2.2.1,u_5.2.2.2.2.1,u_5.2.2.2.2.2.1,())))
             (fun v_5=>some (Sum.inr (v_5.1,v_5.2.1,v_5.2.2.1,v_5.2.2.2.1,v_5.2.2.2.2.1,v_5.2.2.2.2.2.1,()))))
           (fun v_4=>some (Sum.inr (v_4.1,v_4.2.1,v_4.2.2.1,v_4.2.2.2.1,v_4.2.2.2.2.1,v_4.2.2.2.2.2.1,()))))
         (fun v_3=>some (Sum.inr (v_3.1,v_3.2.1,v_3.2.2.1,v_3.2.2.2.1,v_3.2.2.2.2.1,v_3.2.2.2.2.2.1,()))))))
def jR.ma:MAlt:=⟨131,jR.pre,jR.post,true,jR.post2,fun X=>jR X.1 X.2.1 X.2.2.1 X.2.2.2.1 (q4 X).1⟩
def jR.G:EB Z9:=⟨tb,Tryz.f131,[⟨136,Ya.ce,Ya.ok⟩,⟨29,Jv.ce,Jv.ok⟩],[0,2,3,4,6,7,12,28,37],[1000100],[],[],[⟨14,jI.mc,jI.ok⟩,⟨25,jq.mc,jq.ok⟩],[⟨27,jr.ma,jr.ok⟩,⟨26,jJ.ma,jJ.ok⟩,⟨28,jp.self.ma,jp.self.ok⟩]⟩
theorem jR.ok:AltOk Z9 131 jR.ma:=fnA jR.G (ma:=jR.ma) Tryz.func131 (m:=0) trivial
end
@[reducible] def Jd.fuel:Nat→Jd.Self
  | 0=>{ F_tongue_parser_expr_b:=fun _=>none,ok_tongue_parser_expr_b:=⟨⟨Tryz.f28,Tryz.func28,by kernel_rfl,by kernel_rfl⟩,fun _ _ _ _ _ _ _ hy=>by cases hy⟩,F_tongue_parser_sum_b:=fun _=>none,ok_tongue_parser_sum_b:=⟨⟨Tryz.f60,Tryz.func60,by kernel_rfl,by kernel_rfl⟩,fun _ _ _ _ _ _ _ hy=>by cases hy⟩,F_tongue_parser_chain__product_b:=fun _=>none,ok_tongue_parser_chain__product_b:=⟨⟨Tryz.f102,Tryz.func102,by kernel_rfl,by kernel_rfl⟩,fun _ _ _ _ _ _ _ hy=>by cases hy⟩,F_tongue_parser_product_b:=fun _=>none,ok_tongue_parser_product_b:=⟨⟨Tryz.f103,Tryz.func103,by kernel_rfl,by kernel_rfl⟩,fun _ _ _ _ _ _ _ hy=>by cases hy⟩,F_tongue_parser_chain__unary_b:=fun _=>none,ok_tongue_parser_chain__unary_b:=⟨⟨Tryz.f102,Tryz.func102,by kernel_rfl,by kernel_rfl⟩,fun _ _ _ _ _ _ _ hy=>by cases hy⟩,F_tongue_parser_unary_b:=fun _=>none,ok_tongue_parser_unary_b:=⟨⟨Tryz.f123,Tryz.func123,by kernel_rfl,by kernel_rfl⟩,fun _ _ _ _ _ _ _ hy=>by cases hy⟩,F_tongue_parser_atom_b:=fun _=>none,ok_tongue_parser_atom_b:=⟨⟨Tryz.f131,Tryz.func131,by kernel_rfl,by kernel_rfl⟩,fun _ _ _ _ _ _ _ hy=>by cases hy⟩ }
  | n+1=>{ F_tongue_parser_expr_b:=fun X=>(@jp.ma (Jd.fuel n)).F X,ok_tongue_parser_expr_b:=@jp.ok (Jd.fuel n),F_tongue_parser_sum_b:=fun X=>(@jV.ma (Jd.fuel n)).F X,ok_tongue_parser_sum_b:=@jV.ok (Jd.fuel n),F_tongue_parser_chain__product_b:=fun X=>(@jc.ma (Jd.fuel n)).F X,ok_tongue_parser_chain__product_b:=@jc.ok (Jd.fuel n),F_tongue_parser_product_b:=fun X=>(@jK.ma (Jd.fuel n)).F X,ok_tongue_parser_product_b:=@jK.ok (Jd.fuel n),F_tongue_parser_chain__unary_b:=fun X=>(@je.ma (Jd.fuel n)).F X,ok_tongue_parser_chain__unary_b:=@je.ok (Jd.fuel n),F_tongue_parser_unary_b:=fun X=>(@jn.ma (Jd.fuel n)).F X,ok_tongue_parser_unary_b:=@jn.ok (Jd.fuel n),F_tongue_parser_atom_b:=fun X=>(@jR.ma (Jd.fuel n)).F X,ok_tongue_parser_atom_b:=@jR.ok (Jd.fuel n) }
def Jq (X:densU jp.self.pre.tys):Option (densU jp.self.post.tys⊕densU jp.self.post2.tys):=(Jd.fuel (1000000)).F_tongue_parser_expr_b X
def Jq.ma:MAlt:=⟨28,jp.self.pre,jp.self.post,true,jp.self.post2,fun X=>Jq X⟩
theorem Jq.ok:AltOk Z9 28 Jq.ma:=(Jd.fuel (1000000)).ok_tongue_parser_expr_b
abbrev tg24:SD:=.one (.ref 1000095 0)
abbrev tg25:SO:=.box [.ref 1000100 0]
def Jx.pre:Shape:=⟨[(0,tg24)],[(1000095,tg25),(1000100,tg2)]⟩
def Jx.post:Shape:=⟨[(0,tg15)],[(1000095,tg25),(1000100,tg2)]⟩
def Jx.post2:Shape:=⟨[(0,tg12)],[(1000095,tg25),(1000100,tg2)]⟩
def Jx (ua:Z6) (ub:Int) (uc:Int) (ud:Z6) (ue:Int):Option ((Z8×Z6×Int×Int×Z6×Int×Unit)⊕(Int×Z6×Int×Int×Z6×Int×Unit)):=
  bnd (jJ ua ub uc ud ue) fun y=>
  sel y
   (fun u=>bnd (Jv (6:Int) (u.1.1,u.1.2.1,u.1.2.2) (u.1.1,u.1.2.1,u.1.2.2) []) fun y1=>
    some (Sum.inl (Rose.mk (y1.head.1,y1.head.2.1,y1.head.2.2.1,y1.head.2.2.2) y1.kids,u.2.1,u.2.2.1,u.2.2.2.1,u.2.2.2.2.1,u.2.2.2.2.2.1,())))
   (fun v=>some (Sum.inr (v.1,v.2.1,v.2.2.1,v.2.2.2.1,v.2.2.2.2.1,v.2.2.2.2.2.1,())))
def Jx.ma:MAlt:=⟨64,Jx.pre,Jx.post,true,Jx.post2,fun X=>Jx X.1 X.2.1 X.2.2.1 X.2.2.2.1 (q4 X).1⟩
def Jx.G:EB Z9:=⟨tb,Tryz.f64,[⟨29,Jv.ce,Jv.ok⟩],[0,1,2],[1000095,1000100],[],[],[],[⟨26,jJ.ma,jJ.ok⟩]⟩
theorem Jx.ok:AltOk Z9 64 Jx.ma:=fnA Jx.G (ma:=Jx.ma) Tryz.func64 (m:=0) trivial
abbrev tg26:SO:=.clo 64 [] [.ref 1000095 0]
abbrev tg27:SD:=.one (.val (.sl (.st (.node (.pair (.int .i64) (.pair (.int .i64) (.pair .str (.int .i64))))))))
abbrev tg28:SD:=.one (.own 8 0)
abbrev tg29:SO:=.arr 0 false 24 (.st (.node (.pair (.int .i64) (.pair (.int .i64) (.pair .str (.int .i64))))))
def Jn.pre:Shape:=⟨[(0,tg0),(1,tg16)],[(1000090,tg26),(1000095,tg25),(1000100,tg2)]⟩
def Jn.post:Shape:=⟨[(0,tg27)],[(1000090,tg26),(1000095,tg25),(1000100,tg2)]⟩
def Jn.post2:Shape:=⟨[(0,tg12)],[(1000090,tg26),(1000095,tg25),(1000100,tg2)]⟩
def Jn.ca_ (t8:List Z8)(ua:Z6)(ub:Int)(uc:Int)(ud:Z6)(ue:Int)(Z:((List Z8)×Z6×Int×Int×Z6×Int)⊕(((List Z8)×Int×Z6×Int×Int×Z6×Int)⊕((List Z8)×Z6×Int×Int×Z6×Int))→Option ρ):Option ρ:=
  bnd (jq (Z5 [44]) ua ub uc ud ue) fun y=>
  br y.1
   (bnd (Jx y.2.1 y.2.2.1 y.2.2.2.1 y.2.2.2.2.1 y.2.2.2.2.2.1) fun y1=>
    sel y1
     (fun u=>bnd (okIf (decide ((t8.length+1)*64≤140737488355328)&&decide (t8.length+1≤140737488355328))) fun y2=>
      Z (.inl ((t8++[u.1]),u.2.1,u.2.2.1,u.2.2.2.1,u.2.2.2.2.1,u.2.2.2.2.2.1)))
     (fun v=>Z (.inr (.inl (t8,v.1,v.2.1,v.2.2.1,v.2.2.2.1,v.2.2.2.2.1,v.2.2.2.2.2.1)))))
   (Z (.inr (.inr (t8,y.2.1,y.2.2.1,y.2.2.2.1,y.2.2.2.2.1,y.2.2.2.2.2.1))))
def Jn.ca_s:Shape:=(((Jn.pre.s 4 tg27).s 5 tg28).o 8 tg29)
def Jn.ca_x0:Shape:=(Jn.ca_s.o 900001 tg13)
def Jn.ca_r:LC:=⟨Jn.ca_s,[(Jn.ca_x0,1000000,[1,206,101]),(Jn.ca_s,2,[1,206])],no,[1,2,3,4,5,6],[1,2,3,4,5,6],@Jn.ca_,fun _ _ _ _ _ _ _ _=>jm fun _=>(jN (jm fun _=>(Jw (fun _=>(jm fun _=>jd)) (fun _=>jd))) jd)⟩
def Jn (ua:Z6) (ub:Int) (uc:Int) (ud:Z6) (ue:Int):Option (((List Z8)×Z6×Int×Int×Z6×Int×Unit)⊕(Int×Z6×Int×Int×Z6×Int×Unit)):=
  bnd (Jx ua ub uc ud ue) fun y=>
  sel y
   (fun u=>bnd (iter (fun s↦Jn.ca_ s.1 s.2.1 s.2.2.1 s.2.2.2.1 s.2.2.2.2.1 s.2.2.2.2.2 some) ([u.1],u.2.1,u.2.2.1,u.2.2.2.1,u.2.2.2.2.1,u.2.2.2.2.2.1)) fun y1=>
    sel y1
     (fun u_1=>some (Sum.inr (u_1.2.1,u_1.2.2.1,u_1.2.2.2.1,u_1.2.2.2.2.1,u_1.2.2.2.2.2.1,u_1.2.2.2.2.2.2,())))
     (fun v_1=>some (Sum.inl (v_1.1,v_1.2.1,v_1.2.2.1,v_1.2.2.2.1,v_1.2.2.2.2.1,v_1.2.2.2.2.2,()))))
   (fun v=>some (Sum.inr (v.1,v.2.1,v.2.2.1,v.2.2.2.1,v.2.2.2.2.1,v.2.2.2.2.2.1,())))
def Jn.ma:MAlt:=⟨63,Jn.pre,Jn.post,true,Jn.post2,fun X=>Jn X.1 X.2.1 X.2.2.1 X.2.2.2.1 (q4 X).1⟩
def Jn.G:EB Z9:=⟨tb,Tryz.f63,[],[0,1,4,5,10],[8,1000100],[],[(100002,Jn.ca_r.ck)],[⟨25,jq.mc,jq.ok⟩],[⟨64,Jx.ma,Jx.ok⟩]⟩
theorem Jn.ok:AltOk Z9 63 Jn.ma:=fnA Jn.G (ma:=Jn.ma) Tryz.func63 (m:=1) ⟨trivial,kL Jn.ca_r⟩
def ky (l:List Z8):Option Z8:=
  some (Rose.mk ((25:Int),(0:Int),[],(0:Int)) l)
def ky.ce:=ceOf tab Tryz.f66 ky
def ky.G:EB Z9:=⟨tb,Tryz.f66,[],[0,2],[],[],[],[],[]⟩
theorem ky.ok:CalleeOk Z9 66 ky.ce:=fnB ky.G Tryz.func66 (m:=0) trivial
abbrev tg30:SD:=.one (.nilS)
abbrev tg31:SD:=.agg [.val (.int .i64),.val (.int .i64),.val .str,.val (.int .i64),.nilS]
def JO.pre:Shape:=⟨[(0,tg6),(1,tg8),(2,tg30)],[]⟩
def JO.post:Shape:=⟨[(0,tg31)],[]⟩
def JO (kind:Int) (t:Int×(Z6×Int)):Option (Int×Int×Z6×Int×Unit):=
  some (kind,t.2.2,[],(0:Int),())
def JO.mc:MCallee:=⟨68,JO.pre,JO.post,fun X=>JO X.1 X.2.1⟩
def JO.G:EB Z9:=⟨tb,Tryz.f68,[],[0,1,2,4,6],[],[],[],[],[]⟩
theorem JO.ok:MOk Z9 68 JO.mc:=fnM JO.G (mc:=JO.mc) Tryz.func68 (m:=0) trivial
abbrev tg32:SO:=.box [.val (.int .i64),.val (.int .i64),.val .str,.val (.int .i64),.own 13 0]
def ju.pre:Shape:=⟨[(0,tg0),(1,tg8)],[(1000100,tg2)]⟩
def ju.post:Shape:=⟨[(0,tg15)],[(1000100,tg2)]⟩
def ju.post2:Shape:=⟨[(0,tg12)],[(1000100,tg2)]⟩
def ju.c5 (t13:List Z8)(ua:Z6)(ub:Int)(uc:Int)(ud:Z6)(ue:Int)(Z:((List Z8)×Z6×Int×Int×Z6×Int)⊕(Int×Z6×Int×Int×Z6×Int)→Option ρ):Option ρ:=
  bnd (Jq (ua,ub,uc,ud,ue,())) fun y=>
  sel y
   (fun u=>bnd (okIf (decide ((t13.length+1)*64≤140737488355328)&&decide (t13.length+1≤140737488355328))) fun y1=>
    Z (.inl ((t13++[u.1]),u.2.1,u.2.2.1,u.2.2.2.1,u.2.2.2.2.1,u.2.2.2.2.2.1)))
   (fun v=>Z (.inr (v.1,v.2.1,v.2.2.1,v.2.2.2.1,v.2.2.2.2.1,v.2.2.2.2.2.1)))
def ju.c5s:Shape:=((((((((ju.pre.s 3 tg10).s 4 tg14).s 5 tg23).o 3 tg11).o 4 tg19).o 5 tg32).o 13 tg29).o 5005 tg29)
def ju.c5x1:Shape:=((((((ju.c5s.d 0).d 1).d 3).d 4).d 5).o 900001 tg13)
def ju.c5r:RC:=⟨ju.c5s,[(ju.c5s,0,[12,400,201,301,1,205]),(ju.c5x1,1000000,[301,14,205,101])],fun X=>((2:Int),()),[13,15,16,17,18,19],@ju.c5,fun _ _ _ _ _ _ _ _=>jm fun _=>(Jw (fun _=>(jm fun _=>jd)) (fun _=>jd))⟩
def ju.cC_ (r3:Int)(t13:List Z8)(ua:Z6)(ub:Int)(uc:Int)(ud:Z6)(ue:Int)(Z:(Int×(List Z8)×Z6×Int×Int×Z6×Int)⊕(Int×Z6×Int×Int×Z6×Int)→Option ρ):Option ρ:=
  bnd (jq (Z5 [46,46]) ua ub uc ud ue) fun y=>
  br y.1
   (bnd (ju.c5 t13 y.2.1 y.2.2.1 y.2.2.2.1 y.2.2.2.2.1 y.2.2.2.2.2.1 some) fun y1=>
    sel y1
     (fun u=>Z (.inl ((2:Int),u.1,u.2.1,u.2.2.1,u.2.2.2.1,u.2.2.2.2.1,u.2.2.2.2.2)))
     (fun v=>Z (.inr (v.1,v.2.1,v.2.2.1,v.2.2.2.1,v.2.2.2.2.1,v.2.2.2.2.2))))
   (Z (.inl (r3,t13,y.2.1,y.2.2.1,y.2.2.2.1,y.2.2.2.2.1,y.2.2.2.2.2.1)))
def ju.cC_r:RC:=⟨ju.c5s,[(ju.c5s,0,[12,202,1,205]),(ju.c5x1,1000000,[301,14,205,101])],no,[12,13,15,16,17,18,19],@ju.cC_,fun _ _ _ _ _ _ _ _ _=>jm fun _=>(jN (jm fun _=>(Jw (fun _=>jd) (fun _=>jd))) jd)⟩
def ju.cl_ (r3:Int)(r4:List Z8)(ua:Z6)(ub:Int)(uc:Int)(ud:Z6)(ue:Int)(Z:(Int×(List Z8)×Z6×Int×Int×Z6×Int)⊕((Int×Int×Z6×Int×Int×Z6×Int)⊕((Int×Z6×Int×Int×Z6×Int)⊕(Int×Z6×Int×Int×Z6×Int)))→Option ρ):Option ρ:=
  bnd (jq (Z5 [91]) ua ub uc ud ue) fun y=>
  br y.1
   (bnd (Jq (y.2.1,y.2.2.1,y.2.2.2.1,y.2.2.2.2.1,y.2.2.2.2.2.1,())) fun y1=>
    sel y1
     (fun u=>bnd (ju.cC_ (1:Int) [u.1] u.2.1 u.2.2.1 u.2.2.2.1 u.2.2.2.2.1 u.2.2.2.2.2.1 some) fun y2=>
      sel y2
       (fun u_1=>bnd (jr (Z5 [93]) u_1.2.2.1 u_1.2.2.2.1 u_1.2.2.2.2.1 u_1.2.2.2.2.2.1 u_1.2.2.2.2.2.2) fun y3=>
        sel y3
         (fun u_2=>Z (.inl (u_1.1,u_1.2.1,u_2.2.1,u_2.2.2.1,u_2.2.2.2.1,u_2.2.2.2.2.1,u_2.2.2.2.2.2.1)))
         (fun v_2=>Z (.inr (.inl (u_1.1,v_2.1,v_2.2.1,v_2.2.2.1,v_2.2.2.2.1,v_2.2.2.2.2.1,v_2.2.2.2.2.2.1)))))
       (fun v_1=>Z (.inr (.inr (.inl (v_1.1,v_1.2.1,v_1.2.2.1,v_1.2.2.2.1,v_1.2.2.2.2.1,v_1.2.2.2.2.2))))))
     (fun v=>Z (.inr (.inr (.inr (v.1,v.2.1,v.2.2.1,v.2.2.2.1,v.2.2.2.2.1,v.2.2.2.2.2.1))))))
   (Z (.inl (r3,r4,y.2.1,y.2.2.1,y.2.2.2.1,y.2.2.2.2.1,y.2.2.2.2.2.1)))
def ju.cl_s:Shape:=((ju.c5s.g 13).o 5 tg19)
def ju.cl_x1:Shape:=((ju.c5s.g 13).o 900001 tg13)
def ju.cl_x2:Shape:=(ju.c5x1.g 13)
def ju.cl_x3:Shape:=(ju.cl_x1.o 5 tg19)
def ju.cl_r:RC:=⟨ju.cl_s,[(ju.cl_s,0,[12,202,1,205]),(ju.cl_x1,1000000,[12,201,301,1,205,101]),(ju.cl_x2,1000000,[301,11,400,302,1,205,101]),(ju.cl_x3,1000000,[15,205,101])],fun X=>((1:Int),()),[12,13,15,16,17,18,19],@ju.cl_,fun _ _ _ _ _ _ _ _ _=>jm fun _=>(jN (jm fun _=>(Jw (fun _=>(jm fun _=>(Jw (fun _=>(jm fun _=>(Jw (fun _=>jd) (fun _=>jd)))) (fun _=>jd)))) (fun _=>jd))) jd)⟩
def ju (w:Int×(Z6×Int)) (ua:Z6) (ub:Int) (uc:Int) (ud:Z6) (ue:Int):Option ((Z8×Z6×Int×Int×Z6×Int×Unit)⊕(Int×Z6×Int×Int×Z6×Int×Unit)):=
  bnd (Jv (19:Int) (w.1,w.2.1,w.2.2) (w.1,w.2.1,w.2.2) []) fun y=>
  bnd (ju.cl_ y.head.2.2.2 y.kids ua ub uc ud ue some) fun y1=>
  sel y1
   (fun u=>some (Sum.inl (Rose.mk (y.head.1,y.head.2.1,y.head.2.2.1,u.1) u.2.1,u.2.2.1,u.2.2.2.1,u.2.2.2.2.1,u.2.2.2.2.2.1,u.2.2.2.2.2.2,())))
   (fun v=>sel v
     (fun u_1=>some (Sum.inr (u_1.2.1,u_1.2.2.1,u_1.2.2.2.1,u_1.2.2.2.2.1,u_1.2.2.2.2.2.1,u_1.2.2.2.2.2.2,())))
     (fun v_1=>sel v_1
       (fun u_2=>some (Sum.inr (u_2.1,u_2.2.1,u_2.2.2.1,u_2.2.2.2.1,u_2.2.2.2.2.1,u_2.2.2.2.2.2,())))
       (fun v_2=>some (Sum.inr (v_2.1,v_2.2.1,v_2.2.2.1,v_2.2.2.2.1,v_2.2.2.2.2.1,v_2.2.2.2.2.2,())))))
def ju.ma:MAlt:=⟨72,ju.pre,ju.post,true,ju.post2,fun X=>ju X.1 X.2.1 X.2.2.1 X.2.2.2.1 (q4 X).1 (q4 X).2.1⟩
def ju.G:EB Z9:=⟨tb,Tryz.f72,[⟨29,Jv.ce,Jv.ok⟩],[0,1,3,4,5,10,17],[5,13,5005,1000100,900600013],[(5,[(3,[1000100]),(4,[22]),(5,[13]),(7,[5]),(9,[5])])],[(208205,ju.cl_r.ck),(216389,ju.cC_r.ck),(5,ju.c5r.ck)],[⟨25,jq.mc,jq.ok⟩],[⟨28,Jq.ma,Jq.ok⟩,⟨27,jr.ma,jr.ok⟩]⟩
theorem ju.ok:AltOk Z9 72 ju.ma:=fnA ju.G (ma:=ju.ma) Tryz.func72 (m:=3) ⟨⟨⟨trivial,kJ ju.cl_r⟩,kJ ju.cC_r⟩,kR ju.c5r⟩
def Jl.pre:Shape:=⟨[(0,tg0)],[(1000100,tg2)]⟩
def Jl.post:Shape:=⟨[(0,tg15)],[(1000100,tg2)]⟩
def Jl.post2:Shape:=⟨[(0,tg12)],[(1000100,tg2)]⟩
def Jl (ua:Z6) (ub:Int) (uc:Int) (ud:Z6) (ue:Int):Option ((Z8×Z6×Int×Int×Z6×Int×Unit)⊕(Int×Z6×Int×Int×Z6×Int×Unit)):=
  bnd (jJ ua ub uc ud ue) fun y=>
  sel y
   (fun u=>bnd (ju u.1 u.2.1 u.2.2.1 u.2.2.2.1 u.2.2.2.2.1 u.2.2.2.2.2.1) fun y1=>
    sel y1
     (fun u_1=>some (Sum.inl (Rose.mk (u_1.1.head.1,u_1.1.head.2.1,u_1.1.head.2.2.1,u_1.1.head.2.2.2) u_1.1.kids,u_1.2.1,u_1.2.2.1,u_1.2.2.2.1,u_1.2.2.2.2.1,u_1.2.2.2.2.2.1,())))
     (fun v_1=>some (Sum.inr (v_1.1,v_1.2.1,v_1.2.2.1,v_1.2.2.2.1,v_1.2.2.2.2.1,v_1.2.2.2.2.2.1,()))))
   (fun v=>some (Sum.inr (v.1,v.2.1,v.2.2.1,v.2.2.2.1,v.2.2.2.2.1,v.2.2.2.2.2.1,())))
def Jl.ma:MAlt:=⟨70,Jl.pre,Jl.post,true,Jl.post2,fun X=>Jl X.1 X.2.1 X.2.2.1 X.2.2.2.1 (q4 X).1⟩
def Jl.G:EB Z9:=⟨tb,Tryz.f70,[],[0,2],[1000100],[],[],[],[⟨26,jJ.ma,jJ.ok⟩,⟨72,ju.ma,ju.ok⟩]⟩
theorem Jl.ok:AltOk Z9 70 Jl.ma:=fnA Jl.G (ma:=Jl.ma) Tryz.func70 (m:=0) trivial
abbrev tg33:SO:=.clo 28 [.ref 1000100 0] []
def Je.pre:Shape:=⟨[(0,tg0),(1,tg16)],[(1000090,tg33),(1000100,tg2)]⟩
def Je.post:Shape:=⟨[(0,tg27)],[(1000090,tg33),(1000100,tg2)]⟩
def Je.post2:Shape:=⟨[(0,tg12)],[(1000090,tg33),(1000100,tg2)]⟩
def Je.ca_ (t8:List Z8)(ua:Z6)(ub:Int)(uc:Int)(ud:Z6)(ue:Int)(Z:((List Z8)×Z6×Int×Int×Z6×Int)⊕(((List Z8)×Int×Z6×Int×Int×Z6×Int)⊕((List Z8)×Z6×Int×Int×Z6×Int))→Option ρ):Option ρ:=
  bnd (jq (Z5 [44]) ua ub uc ud ue) fun y=>
  br y.1
   (bnd (Jq (y.2.1,y.2.2.1,y.2.2.2.1,y.2.2.2.2.1,y.2.2.2.2.2.1,())) fun y1=>
    sel y1
     (fun u=>bnd (okIf (decide ((t8.length+1)*64≤140737488355328)&&decide (t8.length+1≤140737488355328))) fun y2=>
      Z (.inl ((t8++[u.1]),u.2.1,u.2.2.1,u.2.2.2.1,u.2.2.2.2.1,u.2.2.2.2.2.1)))
     (fun v=>Z (.inr (.inl (t8,v.1,v.2.1,v.2.2.1,v.2.2.2.1,v.2.2.2.2.1,v.2.2.2.2.2.1)))))
   (Z (.inr (.inr (t8,y.2.1,y.2.2.1,y.2.2.2.1,y.2.2.2.2.1,y.2.2.2.2.2.1))))
def Je.ca_s:Shape:=(((Je.pre.s 4 tg27).s 5 tg28).o 8 tg29)
def Je.ca_x0:Shape:=(Je.ca_s.o 900001 tg13)
def Je.ca_r:LC:=⟨Je.ca_s,[(Je.ca_x0,1000000,[1,206,101]),(Je.ca_s,2,[1,206])],no,[1,2,3,4,5,6],[1,2,3,4,5,6],@Je.ca_,fun _ _ _ _ _ _ _ _=>jm fun _=>(jN (jm fun _=>(Jw (fun _=>(jm fun _=>jd)) (fun _=>jd))) jd)⟩
def Je (ua:Z6) (ub:Int) (uc:Int) (ud:Z6) (ue:Int):Option (((List Z8)×Z6×Int×Int×Z6×Int×Unit)⊕(Int×Z6×Int×Int×Z6×Int×Unit)):=
  bnd (Jq (ua,ub,uc,ud,ue,())) fun y=>
  sel y
   (fun u=>bnd (iter (fun s↦Je.ca_ s.1 s.2.1 s.2.2.1 s.2.2.2.1 s.2.2.2.2.1 s.2.2.2.2.2 some) ([u.1],u.2.1,u.2.2.1,u.2.2.2.1,u.2.2.2.2.1,u.2.2.2.2.2.1)) fun y1=>
    sel y1
     (fun u_1=>some (Sum.inr (u_1.2.1,u_1.2.2.1,u_1.2.2.2.1,u_1.2.2.2.2.1,u_1.2.2.2.2.2.1,u_1.2.2.2.2.2.2,())))
     (fun v_1=>some (Sum.inl (v_1.1,v_1.2.1,v_1.2.2.1,v_1.2.2.2.1,v_1.2.2.2.2.1,v_1.2.2.2.2.2,()))))
   (fun v=>some (Sum.inr (v.1,v.2.1,v.2.2.1,v.2.2.2.1,v.2.2.2.2.1,v.2.2.2.2.2.1,())))
def Je.ma:MAlt:=⟨63,Je.pre,Je.post,true,Je.post2,fun X=>Je X.1 X.2.1 X.2.2.1 X.2.2.2.1 (q4 X).1⟩
def Je.G:EB Z9:=⟨tb,Tryz.f63,[],[0,1,4,5,10],[8,1000100],[],[(100002,Je.ca_r.ck)],[⟨25,jq.mc,jq.ok⟩],[⟨28,Jq.ma,Jq.ok⟩]⟩
theorem Je.ok:AltOk Z9 63 Je.ma:=fnA Je.G (ma:=Je.ma) Tryz.func63 (m:=1) ⟨trivial,kL Je.ca_r⟩
abbrev tg34:SO:=.clo 70 [.ref 1000100 0] []
def Jk.pre:Shape:=⟨[(0,tg0),(1,tg16)],[(1000090,tg34),(1000100,tg2)]⟩
def Jk.post:Shape:=⟨[(0,tg27)],[(1000090,tg34),(1000100,tg2)]⟩
def Jk.post2:Shape:=⟨[(0,tg12)],[(1000090,tg34),(1000100,tg2)]⟩
def Jk.ca_ (t8:List Z8)(ua:Z6)(ub:Int)(uc:Int)(ud:Z6)(ue:Int)(Z:((List Z8)×Z6×Int×Int×Z6×Int)⊕(((List Z8)×Int×Z6×Int×Int×Z6×Int)⊕((List Z8)×Z6×Int×Int×Z6×Int))→Option ρ):Option ρ:=
  bnd (jq (Z5 [44]) ua ub uc ud ue) fun y=>
  br y.1
   (bnd (Jl y.2.1 y.2.2.1 y.2.2.2.1 y.2.2.2.2.1 y.2.2.2.2.2.1) fun y1=>
    sel y1
     (fun u=>bnd (okIf (decide ((t8.length+1)*64≤140737488355328)&&decide (t8.length+1≤140737488355328))) fun y2=>
      Z (.inl ((t8++[u.1]),u.2.1,u.2.2.1,u.2.2.2.1,u.2.2.2.2.1,u.2.2.2.2.2.1)))
     (fun v=>Z (.inr (.inl (t8,v.1,v.2.1,v.2.2.1,v.2.2.2.1,v.2.2.2.2.1,v.2.2.2.2.2.1)))))
   (Z (.inr (.inr (t8,y.2.1,y.2.2.1,y.2.2.2.1,y.2.2.2.2.1,y.2.2.2.2.2.1))))
def Jk.ca_s:Shape:=(((Jk.pre.s 4 tg27).s 5 tg28).o 8 tg29)
def Jk.ca_x0:Shape:=(Jk.ca_s.o 900001 tg13)
def Jk.ca_r:LC:=⟨Jk.ca_s,[(Jk.ca_x0,1000000,[1,206,101]),(Jk.ca_s,2,[1,206])],no,[1,2,3,4,5,6],[1,2,3,4,5,6],@Jk.ca_,fun _ _ _ _ _ _ _ _=>jm fun _=>(jN (jm fun _=>(Jw (fun _=>(jm fun _=>jd)) (fun _=>jd))) jd)⟩
def Jk (ua:Z6) (ub:Int) (uc:Int) (ud:Z6) (ue:Int):Option (((List Z8)×Z6×Int×Int×Z6×Int×Unit)⊕(Int×Z6×Int×Int×Z6×Int×Unit)):=
  bnd (Jl ua ub uc ud ue) fun y=>
  sel y
   (fun u=>bnd (iter (fun s↦Jk.ca_ s.1 s.2.1 s.2.2.1 s.2.2.2.1 s.2.2.2.2.1 s.2.2.2.2.2 some) ([u.1],u.2.1,u.2.2.1,u.2.2.2.1,u.2.2.2.2.1,u.2.2.2.2.2.1)) fun y1=>
    sel y1
     (fun u_1=>some (Sum.inr (u_1.2.1,u_1.2.2.1,u_1.2.2.2.1,u_1.2.2.2.2.1,u_1.2.2.2.2.2.1,u_1.2.2.2.2.2.2,())))
     (fun v_1=>some (Sum.inl (v_1.1,v_1.2.1,v_1.2.2.1,v_1.2.2.2.1,v_1.2.2.2.2.1,v_1.2.2.2.2.2,()))))
   (fun v=>some (Sum.inr (v.1,v.2.1,v.2.2.1,v.2.2.2.1,v.2.2.2.2.1,v.2.2.2.2.2.1,())))
def Jk.ma:MAlt:=⟨63,Jk.pre,Jk.post,true,Jk.post2,fun X=>Jk X.1 X.2.1 X.2.2.1 X.2.2.2.1 (q4 X).1⟩
def Jk.G:EB Z9:=⟨tb,Tryz.f63,[],[0,1,4,5,10],[8,1000100],[],[(100002,Jk.ca_r.ck)],[⟨25,jq.mc,jq.ok⟩],[⟨70,Jl.ma,Jl.ok⟩]⟩
theorem Jk.ok:AltOk Z9 63 Jk.ma:=fnA Jk.G (ma:=Jk.ma) Tryz.func63 (m:=1) ⟨trivial,kL Jk.ca_r⟩
def jE.pre:Shape:=⟨[(0,tg0),(1,tg8),(2,tg27),(3,tg8)],[(1000100,tg2)]⟩
def jE.post:Shape:=⟨[(0,tg15)],[(1000100,tg2)]⟩
def jE.post2:Shape:=⟨[(0,tg12)],[(1000100,tg2)]⟩
def jE.ck_ (args:List Z8)(ua:Z6)(ub:Int)(uc:Int)(ud:Z6)(ue:Int)(Z:((List Z8)×Z6×Int×Int×Z6×Int)⊕((List Z8)×Int×Z6×Int×Int×Z6×Int)→Option ρ):Option ρ:=
  bnd (jq (Z5 [40]) ua ub uc ud ue) fun y=>
  br y.1
   (bnd (Je y.2.1 y.2.2.1 y.2.2.2.1 y.2.2.2.2.1 y.2.2.2.2.2.1) fun y1=>
    sel y1
     (fun u=>bnd (jr (Z5 [41]) u.2.1 u.2.2.1 u.2.2.2.1 u.2.2.2.2.1 u.2.2.2.2.2.1) fun y2=>
      sel y2
       (fun u_1=>Z (.inl (u.1,u_1.2.1,u_1.2.2.1,u_1.2.2.2.1,u_1.2.2.2.2.1,u_1.2.2.2.2.2.1)))
       (fun v_1=>Z (.inr (u.1,v_1.1,v_1.2.1,v_1.2.2.1,v_1.2.2.2.1,v_1.2.2.2.2.1,v_1.2.2.2.2.2.1))))
     (fun v=>Z (.inr (args,v.1,v.2.1,v.2.2.1,v.2.2.2.1,v.2.2.2.2.1,v.2.2.2.2.2.1))))
   (Z (.inl (args,y.2.1,y.2.2.1,y.2.2.2.1,y.2.2.2.2.1,y.2.2.2.2.2.1)))
def jE.ck_s:Shape:=((((((((jE.pre.s 5 tg23).s 7 tg21).s 8 tg22).s 9 tg27).s 10 tg27).o 5 tg11).o 7 tg11).o 8 tg19)
def jE.ck_x1:Shape:=(jE.ck_s.o 900001 tg13)
def jE.ck_r:RC:=⟨jE.ck_s,[(jE.ck_s,0,[3,201,12,205]),(jE.ck_x1,1000000,[3,201,12,205,101])],no,[3,16,17,18,19,20],@jE.ck_,fun _ _ _ _ _ _ _ _=>jm fun _=>(jN (jm fun _=>(Jw (fun _=>(jm fun _=>(Jw (fun _=>jd) (fun _=>jd)))) (fun _=>jd))) jd)⟩
def jE.cg_ (refs:List Z8)(ua:Z6)(ub:Int)(uc:Int)(ud:Z6)(ue:Int)(Z:((List Z8)×Z6×Int×Int×Z6×Int)⊕(Int×Z6×Int×Int×Z6×Int)→Option ρ):Option ρ:=
  br (uc==1)
   (bnd (Jk ua ub uc ud ue) fun y=>
    sel y
     (fun u=>Z (.inl (u.1,u.2.1,u.2.2.1,u.2.2.2.1,u.2.2.2.2.1,u.2.2.2.2.2.1)))
     (fun v=>Z (.inr (v.1,v.2.1,v.2.2.1,v.2.2.2.1,v.2.2.2.2.1,v.2.2.2.2.2.1))))
   (Z (.inl (refs,ua,ub,uc,ud,ue)))
def jE.cg_r:RC:=⟨jE.ck_s,[(jE.ck_s,0,[4,201,11,205]),(jE.ck_x1,1000000,[16,205,101])],no,[4,16,17,18,19,20],@jE.cg_,fun _ _ _ _ _ _ _ _=>jN (jm fun _=>(Jw (fun _=>jd) (fun _=>jd))) jd⟩
def jE.c8 (mods:List Z8)(args:List Z8)(refs:List Z8)(t0:Int)(t1:Z6)(t2:Int)(w0:Int)(w1:Z6)(w2:Int)(Z:Int×Int×Z6×Int×(List Z8)→Option ρ):Option ρ:=
  bnd (ky mods) fun y=>
  bnd (ky args) fun y1=>
  bnd (ky refs) fun y2=>
  bnd (Jv (8:Int) (t0,t1,t2) (w0,w1,w2) [y,y1,y2]) fun y3=>
  Z (y3.head.1,y3.head.2.1,y3.head.2.2.1,y3.head.2.2.2,y3.kids)
def jE.c8r:RC:=⟨jE.ck_s,[(jE.ck_s,0,[11,205])],no,[1,3,4,5,6,7,8,9,10],@jE.c8,fun _ _ _ _ _ _ _ _ _ _ _=>jm fun _=>(jm fun _=>(jm fun _=>(jm fun _=>jd)))⟩
def jE (t:Int×(Z6×Int)) (mods:List Z8) (w:Int×(Z6×Int)) (ua:Z6) (ub:Int) (uc:Int) (ud:Z6) (ue:Int):Option ((Z8×Z6×Int×Int×Z6×Int×Unit)⊕(Int×Z6×Int×Int×Z6×Int×Unit)):=
  bnd (jE.ck_ [] ua ub uc ud ue some) fun y=>
  sel y
   (fun u=>bnd (jE.cg_ [] u.2.1 u.2.2.1 u.2.2.2.1 u.2.2.2.2.1 u.2.2.2.2.2 some) fun y1=>
    sel y1
     (fun u_1=>bnd (jr (Z5 [59]) u_1.2.1 u_1.2.2.1 u_1.2.2.2.1 u_1.2.2.2.2.1 u_1.2.2.2.2.2) fun y2=>
      sel y2
       (fun u_2=>bnd (jE.c8 mods u.1 u_1.1 t.1 t.2.1 t.2.2 w.1 w.2.1 w.2.2 some) fun y3=>
        some (Sum.inl (Rose.mk (y3.1,y3.2.1,y3.2.2.1,y3.2.2.2.1) y3.2.2.2.2,u_2.2.1,u_2.2.2.1,u_2.2.2.2.1,u_2.2.2.2.2.1,u_2.2.2.2.2.2.1,())))
       (fun v_2=>some (Sum.inr (v_2.1,v_2.2.1,v_2.2.2.1,v_2.2.2.2.1,v_2.2.2.2.2.1,v_2.2.2.2.2.2.1,()))))
     (fun v_1=>some (Sum.inr (v_1.1,v_1.2.1,v_1.2.2.1,v_1.2.2.2.1,v_1.2.2.2.2.1,v_1.2.2.2.2.2,()))))
   (fun v=>some (Sum.inr (v.2.1,v.2.2.1,v.2.2.2.1,v.2.2.2.2.1,v.2.2.2.2.2.1,v.2.2.2.2.2.2,())))
def jE.ma:MAlt:=⟨74,jE.pre,jE.post,true,jE.post2,fun X=>jE X.1 X.2.1 X.2.2.1 X.2.2.2.1 (q4 X).1 (q4 X).2.1 (q4 X).2.2.1 (q4 X).2.2.2.1⟩
def jE.G:EB Z9:=⟨tb,Tryz.f74,[⟨66,ky.ce,ky.ok⟩,⟨29,Jv.ce,Jv.ok⟩],[0,1,2,3,5,7,8,9,10,12,24],[1000100],[(8,[(8,[39]),(9,[39]),(10,[8])])],[(8,jE.c8r.ck),(220485,jE.cg_r.ck),(208199,jE.ck_r.ck)],[⟨25,jq.mc,jq.ok⟩],[⟨63,Je.ma,Je.ok⟩,⟨27,jr.ma,jr.ok⟩,⟨1000028,Jk.ma,Jk.ok⟩]⟩
theorem jE.ok:AltOk Z9 74 jE.ma:=fnA jE.G (ma:=jE.ma) Tryz.func74 (m:=3) ⟨⟨⟨trivial,kJ jE.ck_r⟩,kJ jE.cg_r⟩,kR jE.c8r⟩
end
end W
end
