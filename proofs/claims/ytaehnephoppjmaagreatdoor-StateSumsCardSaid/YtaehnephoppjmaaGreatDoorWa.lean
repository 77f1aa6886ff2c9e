/- Lifted functions, part 1: each with its contract. -/
import Derived.Test.YtaehnephoppjmaaGreatDoorCa
import Derived.Test.YtaehnephoppjmaaGreatDoorLf
import Derived.Test.YtaehnephoppjmaaGreatDoorProg
set_option linter.all false
section
set_option maxHeartbeats 4000000
set_option maxRecDepth 100000
namespace W
open Go Go.Ql Go.Proofs Go.IntKind
noncomputable section
variable {ρ:Type}
abbrev sa0:SD:=.one (.val (.sl (.int .i64)))
abbrev sa1:SD:=.one (.own 3 0)
abbrev sa2:SD:=.one (.val (.int .i64))
abbrev sa3:SO:=.arr 0 false 3 (.int .i64)
abbrev sa4:SD:=.one (.val (.st (.pair (.int .i64) (.pair (.int .i64) (.sl (.st (.pair (.int .i64) (.pair (.int .i64) (.pair (.sl (.int .i64)) (.pair (.int .i64) (.pair (.int .i64) (.sl (.int .i64)))))))))))))
abbrev sa5:SD:=.one (.ref 1 0)
abbrev sa6:SD:=.one (.ref 2 0)
abbrev sa7:SD:=.one (.ref 3 0)
abbrev sa8:SO:=.box [.val (.int .i64),.val (.int .i64),.val (.sl (.st (.pair (.int .i64) (.pair (.int .i64) (.pair (.sl (.int .i64)) (.pair (.int .i64) (.pair (.int .i64) (.sl (.int .i64)))))))))]
abbrev q4 {a b c d e:Type} (x:a×b×c×d×e):e:=x.2.2.2.2
abbrev q8 {a b c d e f g h i:Type} (x:a×b×c×d×e×f×g×h×i):i:=x.2.2.2.2.2.2.2.2
abbrev YO:=Int×(Int×((List Int)×(Int×(Int×(List Int)))))
abbrev YD:=(Bool)×(List Int)
abbrev YP:=Int×(Int×(Bool))
abbrev YN:=(List YD)×Int
def kY (code:Int) (t1:Int):Option ((Int)×(Int)):=
  some (code,t1)
def kY.ce:=ceOf tab Tryz.f110 kY
def kY.G:EB Tryz.prog:=⟨tb,Tryz.f110,[],[0,1,4],[],[],[],[],[]⟩
theorem kY.ok:CalleeOk Tryz.prog 110 kY.ce:=fnB kY.G Tryz.func110 (m:=0) trivial (by kernel_rfl)
abbrev sa11:SD:=.one (.val .bool)
def JU.c1 (kind:Int)(Z:Bool→Option ρ):Option ρ:=
  br (kind==1)
   (Z true)
   (Z (kind==4))
def JU.c1s:Shape:=⟨[(0,sa2),(2,sa11)],[]⟩
def JU.c1r:RC:=⟨JU.c1s,[(JU.c1s,0,[1,201])],no,[0],@JU.c1,fun _ _ _=>jf jb jb⟩
def JU (kind:Int):Option Bool:=
  bnd (JU.c1 kind some) fun y=>
  some y
def JU.ce:=ceOf tab Tryz.f138 JU
def JU.G:EB Tryz.prog:=⟨tb,Tryz.f138,[],[0,2],[],[],[(1,JU.c1r.ck)],[],[]⟩
theorem JU.ok:CalleeOk Tryz.prog 138 JU.ce:=fnB JU.G Tryz.func138 (m:=1) ⟨trivial,kR JU.c1r (by kernel_rfl)⟩ (by kernel_rfl)
def kf.c1 (kind:Int)(Z:Bool→Option ρ):Option ρ:=
  br (kind==2)
   (Z true)
   (br (kind==3)
     (Z true)
     (Z (kind==4)))
def kf.c1s:Shape:=⟨[(0,sa2),(2,sa11)],[]⟩
def kf.c1r:RC:=⟨kf.c1s,[(kf.c1s,0,[1,201])],no,[0],@kf.c1,fun _ _ _=>jf jb (jf jb jb)⟩
def kf (kind:Int):Option Bool:=
  bnd (kf.c1 kind some) fun y=>
  some y
def kf.ce:=ceOf tab Tryz.f139 kf
def kf.G:EB Tryz.prog:=⟨tb,Tryz.f139,[],[0,2],[],[],[(1,kf.c1r.ck)],[],[]⟩
theorem kf.ok:CalleeOk Tryz.prog 139 kf.ce:=fnB kf.G Tryz.func139 (m:=1) ⟨trivial,kR kf.c1r (by kernel_rfl)⟩ (by kernel_rfl)
abbrev sa12:SD:=.one (.val (.st (.pair (.int .i64) (.pair (.int .i64) (.pair (.sl (.int .i64)) (.pair (.int .i64) (.pair (.int .i64) (.sl (.int .i64)))))))))
abbrev sa13:SD:=.one (.ref 1000100 0)
abbrev sa14:SO:=.box [.val (.int .i64),.val (.int .i64),.val (.sl (.int .i64)),.val (.int .i64),.val (.int .i64),.val (.sl (.int .i64))]
abbrev sa15:SD:=.one (.aptr 5 0)
abbrev sa16:SO:=.arr 0 false 185 .bool
def jl.pre:Shape:=⟨[(0,sa12),(1,sa13)],[(1000100,sa8)]⟩
def jl.post:Shape:=⟨[(0,sa2)],[(1000100,sa8)]⟩
def jl.c1 (o0:Int)(Z:Bool→Option ρ):Option ρ:=
  br (decide (o0<1))
   (Z true)
   (Z (decide (o0>6)))
def jl.c1s:Shape:=(((jl.pre.s 2 sa6).s 4 sa2).o 2 sa14)
def jl.c1x0:Shape:=(jl.c1s.s 17 sa11)
def jl.c1r:RC:=⟨jl.c1s,[(jl.c1x0,0,[2,101])],no,[2],@jl.c1,fun _ _ _=>jf jb jb⟩
def jl.c3 (o0:Int)(o1:Int)(Z:Bool→Option ρ):Option ρ:=
  br (decide (o1<0))
   (Z true)
   (br (decide (o1>15))
     (Z true)
     (bnd (JU o0) fun y=>
      br (!y)
       (Z (o1 !=0))
       (Z false)))
def jl.c3x0:Shape:=(jl.c1s.s 36 sa11)
def jl.c3r:RC:=⟨jl.c1s,[(jl.c3x0,0,[2,101])],no,[2,3],@jl.c3,fun _ _ _ _=>jf jb (jf jb (ja fun _=>(jf jb jb)))⟩
def jl.c5 (o0:Int)(o3:Int)(ub:Int)(Z:Bool→Option ρ):Option ρ:=
  br (decide (o3<0))
   (Z true)
   (br (decide (o3≥ub))
     (Z true)
     (br (o0==1)
       (Z (o3 !=0))
       (Z false)))
def jl.c5x0:Shape:=(jl.c1s.s 58 sa11)
def jl.c5r:RC:=⟨jl.c1s,[(jl.c5x0,0,[2,101])],no,[2,5,8],@jl.c5,fun _ _ _ _ _=>jf jb (jf jb (jf jb jb))⟩
def jl.c7 (o0:Int)(o2:List (Int))(Z:Bool→Option ρ):Option ρ:=
  br (decide ((o2.length:Int)>0))
   (bnd (kf o0) fun y=>
    Z (!y))
   (Z false)
def jl.c7x0:Shape:=(jl.c1s.s 68 sa11)
def jl.c7r:RC:=⟨jl.c1s,[(jl.c7x0,0,[2,101])],no,[2,4],@jl.c7,fun _ _ _ _=>jf (ja fun _=>jb) jb⟩
def jl.c14 (q:Int)(ub:Int)(Z:Bool→Option ρ):Option ρ:=
  br (decide (q<0))
   (Z true)
   (Z (decide (q≥ub)))
def jl.c14s:Shape:=((((((jl.c1s.s 5 sa15).s 7 sa2).s 74 sa0).s 75 sa2).s 76 sa2).o 5 sa16)
def jl.c14x0:Shape:=(jl.c14s.s 80 sa11)
def jl.c14r:RC:=⟨jl.c14s,[(jl.c14x0,0,[6,101])],no,[2,13],@jl.c14,fun _ _ _ _=>jf jb jb⟩
def jl.co_ (t74:List (Int))(t75:Int)(t76:Int)(seen:List Bool)(ub:Int)(Z:((Int)×(List Bool))⊕(((Int)×(Int)×(List Bool))⊕((Int)×(List Bool)))→Option ρ):Option ρ:=
  br (decide (t76<t75))
   (bnd (idx t74 t76) fun y=>
    bnd (jl.c14 y ub some) fun y1=>
    br y1
     (Z (.inr (.inl ((10:Int),t76,seen))))
     (bnd (okIf (decide ((0:Ty.den (Ty.int IntKind.i64))≤y)&&decide (y<(↑(12:Nat):Int)))) fun y2=>
      bnd (inR (seen.length) y) fun y3=>
      bnd (idx seen y) fun y4=>
      br y4
       (Z (.inr (.inl ((12:Int),t76,seen))))
       (bnd (okIf (decide ((0:Ty.den (Ty.int IntKind.i64))≤y)&&decide (y<(↑(12:Nat):Int)))) fun y5=>
        bnd (inR (seen.length) y) fun y6=>
        bnd (idx seen y) fun y7=>
        Z (.inl ((i64.wrap (t76+1)),(List.set seen (Int.toNat y) true))))))
   (Z (.inr (.inr (t76,seen))))
def jl.co_s:Shape:=(jl.c14s.d 7)
def jl.co_r:LC:=⟨jl.co_s,[(jl.co_s,1,[1,201,2,201,6,201]),(jl.co_s,2,[4,201,6,201])],no,[4,11],[2,3,4,11,12],@jl.co_,fun _ _ _ _ _ _ _=>jf (ja fun _=>(ja fun _=>(jf jb (ja fun _=>(ja fun _=>(ja fun _=>(jf jb (ja fun _=>(ja fun _=>(ja fun _=>jb)))))))))) jb⟩
def jl.c20 (o0:Int)(o4:Int)(uc:Int)(Z:Bool→Option ρ):Option ρ:=
  br (o0==5)
   (br (decide (o4<0))
     (Z true)
     (br (decide (o4≥uc))
       (Z true)
       (br (o0 !=5)
         (Z (o4 !=0))
         (Z false))))
   (br (o0 !=5)
     (Z (o4 !=0))
     (Z false))
def jl.c20x0:Shape:=(jl.co_s.s 124 sa11)
def jl.c20r:RC:=⟨jl.co_s,[(jl.c20x0,0,[5,101])],no,[5,9,13],@jl.c20,fun _ _ _ _ _=>jf (jf jb (jf jb (jf jb jb))) (jf jb jb)⟩
def jl.c27 (v:Int)(uc:Int)(Z:Bool→Option ρ):Option ρ:=
  br (v==0)
   (Z true)
   (br (decide (v>uc))
     (Z true)
     (Z (decide (v<i64.wrap ((0:Int)-uc)))))
def jl.c27s:Shape:=((((jl.co_s.s 9 sa2).s 130 sa0).s 131 sa2).s 132 sa2)
def jl.c27x0:Shape:=(jl.c27s.s 154 sa11)
def jl.c27r:RC:=⟨jl.c27s,[(jl.c27x0,0,[9,101])],no,[2,17],@jl.c27,fun _ _ _ _=>jf jb (jf jb jb)⟩
def jl.cw_ (t130:List (Int))(t131:Int)(t132:Int)(uc:Int)(Z:(Int)⊕((Int)⊕(Int))→Option ρ):Option ρ:=
  br (decide (t132<t131))
   (bnd (idx t130 t132) fun y=>
    bnd (jl.c27 y uc some) fun y1=>
    br y1
     (Z (.inr (.inl t132)))
     (Z (.inl (i64.wrap (t132+1)))))
   (Z (.inr (.inr t132)))
def jl.cw_s:Shape:=(jl.c27s.d 9)
def jl.cw_r:LC:=⟨jl.cw_s,[(jl.cw_s,1,[1,400,301,5,201]),(jl.cw_s,5,[7,201])],fun X=>((14:Int),()),[7],[5,6,7,16],@jl.cw_,fun _ _ _ _ _ _=>jf (ja fun _=>(ja fun _=>(jf jb jb))) jb⟩
def jl (o:YO) (ub:Int) (uc:Int) (ud:List YO):Option ((Int)×(Int)×(Int)×(List YO)×Unit):=
  bnd (jl.c1 o.1 some) fun y=>
  br y
   (some ((8:Int),ub,uc,ud,()))
   (bnd (jl.c3 o.1 o.2.1 some) fun y1=>
    br y1
     (some ((9:Int),ub,uc,ud,()))
     (bnd (jl.c5 o.1 o.2.2.2.1 ub some) fun y2=>
      br y2
       (some ((10:Int),ub,uc,ud,()))
       (bnd (jl.c7 o.1 o.2.2.1 some) fun y3=>
        br y3
         (some ((11:Int),ub,uc,ud,()))
         (bnd (okIf (decide ((0:Ty.den (Ty.int IntKind.i64))≤o.2.2.2.1)&&decide (o.2.2.2.1<(↑(12:Nat):Int)))) fun y4=>
          bnd (inR (List.length (List.replicate (12:Nat) false)) o.2.2.2.1) fun y5=>
          bnd (idx (List.replicate (12:Nat) false) o.2.2.2.1) fun y6=>
          bnd (iter (fun s↦jl.co_ o.2.2.1 (↑(List.length o.2.2.1):Int) s.1 s.2 ub some) ((0:Int),List.set (List.replicate (12:Nat) false) (Int.toNat o.2.2.2.1) true)) fun y7=>
          sel y7
           (fun u=>some (u.1,ub,uc,ud,()))
           (fun v=>bnd (jl.c20 o.1 o.2.2.2.2.1 uc some) fun y8=>
            br y8
             (some ((13:Int),ub,uc,ud,()))
             (br (decide ((↑(List.length o.2.2.2.2.2):Int)>24))
               (some ((14:Int),ub,uc,ud,()))
               (bnd (iter (fun s↦jl.cw_ o.2.2.2.2.2 (↑(List.length o.2.2.2.2.2):Int) s uc some) (0:Int)) fun y9=>
                sel y9
                 (fun u_1=>some ((14:Int),ub,uc,ud,()))
                 (fun v_1=>some ((0:Int),ub,uc,ud,())))))))))
def jl.mc:MCallee:=⟨111,jl.pre,jl.post,fun X=>jl X.1 X.2.1 X.2.2.1 X.2.2.2.1⟩
def jl.G:EB Tryz.prog:=⟨tb,Tryz.f111,[⟨138,JU.ce,JU.ok⟩,⟨139,kf.ce,kf.ok⟩],[0,1,2,4,5,7,9,17,36,58,68,74,75,76,77,80,91,124,128,130,131,132,133,154],[5,69],[(20,[]),(5,[])],[(100025,jl.cw_r.ck),(27,jl.c27r.ck),(20,jl.c20r.ck),(100012,jl.co_r.ck),(14,jl.c14r.ck),(7,jl.c7r.ck),(5,jl.c5r.ck),(3,jl.c3r.ck),(1,jl.c1r.ck)],[],[]⟩
theorem jl.ok:MOk Tryz.prog 111 jl.mc:=fnM jl.G (mc:=jl.mc) Tryz.func111 (m:=9) ⟨⟨⟨⟨⟨⟨⟨⟨⟨trivial,kR jl.c1r (by kernel_rfl)⟩,kR jl.c3r (by kernel_rfl)⟩,kR jl.c5r (by kernel_rfl)⟩,kR jl.c7r (by kernel_rfl)⟩,kL jl.co_r (by kernel_rfl)⟩,kR jl.c14r (by kernel_rfl)⟩,kR jl.c20r (by kernel_rfl)⟩,kL jl.cw_r (by kernel_rfl)⟩,kR jl.c27r (by kernel_rfl)⟩ (by kernel_rfl)
abbrev sa17:SO:=.box [.val (.int .i64),.val (.int .i64)]
abbrev sa18:SD:=.one (.val (.sl (.st (.pair (.int .i64) (.pair (.int .i64) (.pair (.sl (.int .i64)) (.pair (.int .i64) (.pair (.int .i64) (.sl (.int .i64))))))))))
def jN.c1 (c0:Int)(Z:Bool→Option ρ):Option ρ:=
  br (decide (c0<1))
   (Z true)
   (Z (decide (c0>12)))
def jN.c1s:Shape:=⟨[(0,sa4),(1,sa5),(2,sa6)],[(1,sa8),(2,sa17)]⟩
def jN.c1x0:Shape:=(jN.c1s.s 6 sa11)
def jN.c1r:RC:=⟨jN.c1s,[(jN.c1x0,0,[1,101])],no,[1],@jN.c1,fun _ _ _=>jf jb jb⟩
def jN.c3 (c1:Int)(Z:Bool→Option ρ):Option ρ:=
  br (decide (c1<0))
   (Z true)
   (Z (decide (c1>12)))
def jN.c3x0:Shape:=(jN.c1s.s 16 sa11)
def jN.c3r:RC:=⟨jN.c1s,[(jN.c3x0,0,[1,101])],no,[2],@jN.c3,fun _ _ _=>jf jb jb⟩
def jN.cf_ (t33:List YO)(t34:Int)(t35:Int)(c0:Int)(c1:Int)(c2:List YO)(Z:((Int)×(Int)×(Int)×(List YO))⊕(((Int)×(Int)×(Int)×(List YO)×(Int)×(Int))⊕((Int)×(Int)×(Int)×(List YO)))→Option ρ):Option ρ:=
  br (decide (t35<t34))
   (bnd (idx t33 t35) fun y=>
    bnd (jl (y.1,y.2.1,y.2.2.1,y.2.2.2.1,y.2.2.2.2.1,y.2.2.2.2.2) c0 c1 c2) fun y1=>
    br (y1.1 !=0)
     (bnd (kY y1.1 t35) fun y2=>
      Z (.inr (.inl (t35,y1.2.1,y1.2.2.1,y1.2.2.2.1,y2.1,y2.2))))
     (Z (.inl ((i64.wrap (t35+1)),y1.2.1,y1.2.2.1,y1.2.2.2.1))))
   (Z (.inr (.inr (t35,c0,c1,c2))))
def jN.cf_s:Shape:=(((jN.c1s.s 33 sa18).s 34 sa2).s 35 sa2)
def jN.cf_r:LC:=⟨jN.cf_s,[(jN.cf_s,1,[3,206]),(jN.cf_s,3,[3,204])],no,[3,4,5,6],[1,2,3,4,5,6],@jN.cf_,fun _ _ _ _ _ _ _ _=>jf (ja fun _=>(ja fun _=>(jf (ja fun _=>jb) jb))) jb⟩
def jN (c:(Int)×((Int)×(List YO))):Option ((Int)×(Int)):=
  bnd (jN.c1 c.1 some) fun y=>
  br y
   (bnd (kY (6:Int) (0:Int)) fun y1=>
    some (y1.1,y1.2))
   (bnd (jN.c3 c.2.1 some) fun y2=>
    br y2
     (bnd (kY (7:Int) (0:Int)) fun y3=>
      some (y3.1,y3.2))
     (br (decide ((↑(List.length c.2.2):Int)>4096))
       (bnd (kY (2:Int) (0:Int)) fun y4=>
        some (y4.1,y4.2))
       (bnd (iter (fun s↦jN.cf_ c.2.2 (↑(List.length c.2.2):Int) s.1 s.2.1 s.2.2.1 s.2.2.2 some) ((0:Int),c.1,c.2.1,c.2.2)) fun y5=>
        sel y5
         (fun u=>some (u.2.2.2.2.1,u.2.2.2.2.2))
         (fun v=>some ((0:Int),(0:Int))))))
def jN.ce:=ceOf tab Tryz.f78 jN
def jN.G:EB Tryz.prog:=⟨tb,Tryz.f78,[⟨110,kY.ce,kY.ok⟩],[0,1,2,3,4,5,6,16,26,33,34,35,36,43],[],[],[(100008,jN.cf_r.ck),(3,jN.c3r.ck),(1,jN.c1r.ck)],[⟨111,jl.mc,jl.ok⟩],[]⟩
theorem jN.ok:CalleeOk Tryz.prog 78 jN.ce:=fnB jN.G Tryz.func78 (m:=3) ⟨⟨⟨trivial,kR jN.c1r (by kernel_rfl)⟩,kR jN.c3r (by kernel_rfl)⟩,kL jN.cf_r (by kernel_rfl)⟩ (by kernel_rfl)
def kc (code:Int) (t1:Int):Option ((Int)×(Int)):=
  some (code,t1)
def kc.ce:=ceOf tab Tryz.f48 kc
def kc.G:EB Tryz.prog:=⟨tb,Tryz.f48,[],[0,1,4],[],[],[],[],[]⟩
theorem kc.ok:CalleeOk Tryz.prog 48 kc.ce:=fnB kc.G Tryz.func48 (m:=0) trivial (by kernel_rfl)
abbrev sa19:SD:=.one (.val (.sl (.int .u32)))
abbrev sa20:SD:=.one (.ref 4 0)
abbrev sa21:SO:=.box [.val .bool,.val (.sl (.int .u32))]
def whole_made.c2 (mag:List (Int))(n:Int)(Z:Bool→Option ρ):Option ρ:=
  br (decide (n>0))
   (bnd (idx mag (i64.wrap (n-1))) fun y=>
    Z (y==0))
   (Z false)
def whole_made.c2s:Shape:=⟨[(0,sa11),(1,sa19),(4,sa20),(5,sa2)],[(4,sa21)]⟩
def whole_made.c2x0:Shape:=(whole_made.c2s.s 17 sa11)
def whole_made.c2r:RC:=⟨whole_made.c2s,[(whole_made.c2x0,0,[3,101])],no,[1,2],@whole_made.c2,fun _ _ _ _=>jf (ja fun _=>jb) jb⟩
def whole_made.cb_ (mag:List (Int))(n:Int)(Z:(Int)⊕(Int)→Option ρ):Option ρ:=
  bnd (whole_made.c2 mag n some) fun y=>
  br y
   (Z (.inl (i64.wrap (n-1))))
   (Z (.inr n))
def whole_made.cb_r:LC:=⟨whole_made.c2s,[(whole_made.c2s,2,[2,201])],no,[2],[1,2],@whole_made.cb_,fun _ _ _ _=>ja fun _=>(jf jb jb)⟩
def whole_made (neg:Bool) (mag:List (Int)):Option (Bool×(List Int)):=
  bnd (iter (fun s↦whole_made.cb_ mag s some) ↑(mag.length)) fun y=>
  br (y==0)
   (some (false,[]))
   (bnd (okIf (decide ((0:Int)≤y)&&decide (y≤y)&&decide (y≤(mag.length:Int)))) fun y1=>
    some (neg,List.take (Int.toNat y) mag))
def whole_made.ce:=ceOf tab Tryz.f121 whole_made
def whole_made.G:EB Tryz.prog:=⟨tb,Tryz.f121,[],[0,1,4,5,17,21],[],[],[(100002,whole_made.cb_r.ck),(2,whole_made.c2r.ck)],[],[]⟩
theorem whole_made.ok:CalleeOk Tryz.prog 121 whole_made.ce:=fnB whole_made.G Tryz.func121 (m:=2) ⟨⟨trivial,kL whole_made.cb_r (by kernel_rfl)⟩,kR whole_made.c2r (by kernel_rfl)⟩ (by kernel_rfl)
abbrev sa22:SD:=.one (.val (.int .u64))
def whole_Of.ci_ (n:Int)(u:Int)(Z:Int→Option ρ):Option ρ:=
  br (decide (n<0))
   (Z (u64.wrap ((0:Int)-u)))
   (Z u)
def whole_Of.ci_s:Shape:=⟨[(0,sa2),(2,sa6),(3,sa22)],[(2,sa21)]⟩
def whole_Of.ci_r:RC:=⟨whole_Of.ci_s,[(whole_Of.ci_s,0,[1,201])],no,[0,1],@whole_Of.ci_,fun _ _ _ _=>jf jb jb⟩
def whole_Of (n:Int):Option (Bool×(List Int)):=
  bnd (whole_Of.ci_ n (IntKind.wrap IntKind.u64 n) some) fun y=>
  bnd (whole_made (decide (n<0)) [IntKind.wrap IntKind.u32 y,u32.wrap (Int.fdiv y ((2:Int) ^32))]) fun y1=>
  some (y1.1,y1.2)
def whole_Of.ce:=ceOf tab Tryz.f152 whole_Of
def whole_Of.G:EB Tryz.prog:=⟨tb,Tryz.f152,[⟨121,whole_made.ce,whole_made.ok⟩],[0,2,3,7],[],[],[(208197,whole_Of.ci_r.ck)],[],[]⟩
theorem whole_Of.ok:CalleeOk Tryz.prog 152 whole_Of.ce:=fnB whole_Of.G Tryz.func152 (m:=1) ⟨trivial,kJ whole_Of.ci_r (by kernel_rfl)⟩ (by kernel_rfl)
def Vh  : Option YN:=
  bnd (whole_Of (1:Int)) fun y=>
  some (List.set (List.replicate (8:Nat) (false,[])) (0:Nat) y,(0:Int))
def Vh.ce:=ceOf tab Tryz.f140 Vh
def Vh.G:EB Tryz.prog:=⟨tb,Tryz.f140,[⟨152,whole_Of.ce,whole_Of.ok⟩],[0],[0,3],[],[],[],[]⟩
theorem Vh.ok:CalleeOk Tryz.prog 140 Vh.ce:=fnB Vh.G Tryz.func140 (m:=0) trivial (by kernel_rfl)
def whole_Int_Neg (a:Bool×(List Int)):Option (Bool×(List Int)):=
  bnd (whole_made (!a.1) a.2) fun y=>
  some (y.1,y.2)
def whole_Int_Neg.ce:=ceOf tab Tryz.f116 whole_Int_Neg
def whole_Int_Neg.G:EB Tryz.prog:=⟨tb,Tryz.f116,[⟨121,whole_made.ce,whole_made.ok⟩],[0,1,2],[],[],[],[],[]⟩
theorem whole_Int_Neg.ok:CalleeOk Tryz.prog 116 whole_Int_Neg.ce:=fnB whole_Int_Neg.G Tryz.func116 (m:=0) trivial (by kernel_rfl)
abbrev sa23:SD:=.one (.val (.st (.pair (.ar 8 (.st (.pair .bool (.sl (.int .u32))))) (.int .i64))))
abbrev sa24:SD:=.one (.fptr (.st (.pair (.ar 8 (.st (.pair .bool (.sl (.int .u32))))) (.int .i64))))
abbrev sa25:SD:=.one (.aptr 4 0)
abbrev sa26:SD:=.one (.ref 7 0)
abbrev sa27:SD:=.one (.val (.ar 8 (.st (.pair .bool (.sl (.int .u32))))))
abbrev sa28:SO:=.arr 0 false 71 (.st (.pair (.ar 8 (.st (.pair .bool (.sl (.int .u32))))) (.int .i64)))
def jB.cm_ (t1:Int)(i:Int)(x0:Bool)(x1:List (Int))(Z:Bool×(List Int)→Option ρ):Option ρ:=
  br (ibits BinOp.and IntKind.i64 (i64.wrap (i+t1)) (8:Int) !=0)
   (bnd (whole_Int_Neg (x0,x1)) fun y=>
    Z (y.1,y.2))
   (Z (x0,x1))
def jB.cm_s:Shape:=⟨[(0,sa23),(1,sa2),(2,sa24),(4,sa25),(5,sa15),(6,sa2),(7,sa26),(14,sa27),(15,sa2)],[(4,sa28),(5,sa28),(7,sa21)]⟩
def jB.cm_r:RC:=⟨jB.cm_s,[(jB.cm_s,0,[8,202])],no,[1,3,8,9],@jB.cm_,fun _ _ _ _ _ _=>jf (ja fun _=>jb) jb⟩
def jB.cc_ (t1:Int)(t14:List (Bool×(List Int)))(t15:Int)(out:List YN)(Z:((Int)×(List YN))⊕((Int)×(List YN))→Option ρ):Option ρ:=
  br (decide (t15<8))
   (bnd (idx t14 t15) fun y=>
    bnd (jB.cm_ t1 t15 y.1 y.2 some) fun y1=>
    bnd (inR (out.length) (0:Int)) fun y2=>
    bnd (okIf (decide ((0:Ty.den (Ty.int IntKind.i64))≤ibits BinOp.and IntKind.i64 (i64.wrap (t15+t1)) (7:Int))&&decide (ibits BinOp.and IntKind.i64 (i64.wrap (t15+t1)) (7:Int)<(↑(8:Nat):Int)))) fun y3=>
    bnd (idx out (0:Int)) fun y4=>
    bnd (idx y4.1 (ibits BinOp.and IntKind.i64 (i64.wrap (t15+t1)) (7:Int))) fun y5=>
    Z (.inl ((i64.wrap (t15+1)),(List.set out (0:Nat) (List.set y4.1 (Int.toNat (ibits BinOp.and IntKind.i64 (i64.wrap (t15+t1)) (7:Int))) (y1.1,y1.2),y4.2)))))
   (Z (.inr (t15,out)))
def jB.cc_s:Shape:=(((jB.cm_s.d 6).d 7).g 7)
def jB.cc_r:LC:=⟨jB.cc_s,[(jB.cc_s,2,[4,201,1,201])],no,[4,6],[1,3,4,6],@jB.cc_,fun _ _ _ _ _ _=>jf (ja fun _=>(ja fun _=>(ja fun _=>(ja fun _=>(ja fun _=>(ja fun _=>jb)))))) jb⟩
def jB (a:YN) (t1:Int):Option YN:=
  bnd (iter (fun s↦jB.cc_ (ibits BinOp.and IntKind.i64 t1 (15:Int)) a.1 s.1 s.2 some) ((0:Int),[(List.replicate (8:Nat) (false,[]),a.2)])) fun y=>
  bnd (idx y.2 (0:Int)) fun y1=>
  some y1
def jB.ce:=ceOf tab Tryz.f134 jB
def jB.G:EB Tryz.prog:=⟨tb,Tryz.f134,[⟨116,whole_Int_Neg.ce,whole_Int_Neg.ok⟩],[0,1,2,4,5,6,7,14,15,16,23],[4,5,12,8000002],[],[(100004,jB.cc_r.ck),(224581,jB.cm_r.ck)],[],[]⟩
theorem jB.ok:CalleeOk Tryz.prog 134 jB.ce:=fnB jB.G Tryz.func134 (m:=2) ⟨⟨trivial,kL jB.cc_r (by kernel_rfl)⟩,kJ jB.cm_r (by kernel_rfl)⟩ (by kernel_rfl)
def YI (t0:Int):Option YN:=
  bnd Vh fun y=>
  bnd (jB y t0) fun y1=>
  some y1
def YI.ce:=ceOf tab Tryz.f112 YI
def YI.G:EB Tryz.prog:=⟨tb,Tryz.f112,[⟨140,Vh.ce,Vh.ok⟩,⟨134,jB.ce,jB.ok⟩],[0,2],[2],[],[],[],[]⟩
theorem YI.ok:CalleeOk Tryz.prog 112 YI.ce:=fnB YI.G Tryz.func112 (m:=0) trivial (by kernel_rfl)
abbrev sa29:SD:=.one (.own 0 0)
def ko.pre:Shape:=⟨[(0,sa2),(1,sa2)],[]⟩
def ko.post:Shape:=⟨[(0,sa29)],[(0,sa28)]⟩
def ko (qubits:Int) (t1:Int):Option ((List YN)×Unit):=
  bnd (okIf (decide ((0:Int)≤qubits))) fun y=>
  bnd (okIf (decide ((0:Int)≤i64.wrap ((1:Int)*2^Min.min (Int.toNat qubits) (64:Nat)))&&decide (i64.wrap ((1:Int)*2^Min.min (Int.toNat qubits) (64:Nat))≤i64.wrap ((1:Int)*2^Min.min (Int.toNat qubits) (64:Nat)))&&decide (i64.wrap ((1:Int)*2^Min.min (Int.toNat qubits) (64:Nat))*(↑(264:Nat):Int)≤140737488355328)&&decide (i64.wrap ((1:Int)*2^Min.min (Int.toNat qubits) (64:Nat))≤140737488355328))) fun y1=>
  bnd (YI (0:Int)) fun y2=>
  bnd (inR (List.length (List.replicate (Int.toNat (i64.wrap ((1:Int)*2^Min.min (Int.toNat qubits) (64:Nat)))) (List.replicate (8:Nat) (false,([]:List (Ty.den (Ty.int IntKind.u32)))),(0:Int)))) t1) fun y3=>
  bnd (idx (List.replicate (Int.toNat (i64.wrap ((1:Int)*2^Min.min (Int.toNat qubits) (64:Nat)))) (List.replicate (8:Nat) (false,([]:List (Ty.den (Ty.int IntKind.u32)))),(0:Int))) t1) fun y4=>
  some (List.set (List.replicate (Int.toNat (i64.wrap ((1:Int)*2^Min.min (Int.toNat qubits) (64:Nat)))) (List.replicate (8:Nat) (false,([]:List (Ty.den (Ty.int IntKind.u32)))),(0:Int))) (Int.toNat t1) y2,())
def ko.mc:MCallee:=⟨79,ko.pre,ko.post,fun X=>ko X.1 X.2.1⟩
def ko.G:EB Tryz.prog:=⟨tb,Tryz.f79,[⟨112,YI.ce,YI.ok⟩],[0,1,4,5],[4,8],[],[],[],[]⟩
theorem ko.ok:MOk Tryz.prog 79 ko.mc:=fnM ko.G (mc:=ko.mc) Tryz.func79 (m:=0) trivial (by kernel_rfl)
abbrev sa30:SD:=.one (.ref 0 0)
abbrev sa31:SD:=.one (.val (.st (.pair (.int .i64) (.int .i64))))
abbrev sa32:SO:=.box [.val (.int .i64),.val (.int .i64),.val (.sl (.st (.pair (.int .i64) (.pair (.int .i64) (.pair (.sl (.int .i64)) (.pair (.int .i64) (.pair (.int .i64) (.sl (.int .i64))))))))),.own 1 0,.own 2 0,.val (.int .i64),.val (.int .i64)]
abbrev sa33:SD:=.one (.val (.nilv 0))
abbrev sa34:SD:=.one (.ref 5 0)
abbrev sa35:SD:=.one (.ref 6 0)
abbrev sa36:SD:=.one (.ref 32 0)
abbrev sx33:SO:=.box [.val (.int .i64),.val (.int .i64),.val (.sl (.st (.pair (.int .i64) (.pair (.int .i64) (.pair (.sl (.int .i64)) (.pair (.int .i64) (.pair (.int .i64) (.sl (.int .i64))))))))),.own 27 0,.own 30 0,.val (.int .i64),.val (.int .i64)]
def jw.pre:Shape:=⟨[(0,sa4),(1,sa2)],[]⟩
def jw.post:Shape:=⟨[(0,sa30),(1,sa31)],[(0,sa32),(1,sa28),(2,sa3)]⟩
def jw.post2:Shape:=⟨[(0,sa33),(1,sa31)],[]⟩
def jw.c3  (Z:Unit→Option ρ):Option ρ:=
  Z ()
def jw.c3s:Shape:=(((((((jw.pre.s 2 sa6).s 4 sa33).s 5 sa34).s 6 sa35).o 2 sa8).o 5 sa17).o 6 sa17)
def jw.c3r:Ck:=Ck.of (T:=Unit) jw.c3s (fun ρ X Z=>jw.c3  Z) (fun ρ X V Z=>Z 0 (Shape.inj jw.c3s (X.1,X.2.1,(),X.2.2.2.1,(q4 X).1,(q4 X).2.1,(q8 X).1,(q8 X).2.1,(q8 X))))
def jw.c4 (t1:Int)(c0:Int)(Z:Bool→Option ρ):Option ρ:=
  br (decide (t1<0))
   (Z true)
   (bnd (okIf (decide ((0:Int)≤c0))) fun y=>
    Z (decide (t1≥i64.wrap ((1:Int)*2^Min.min (Int.toNat c0) (64:Nat)))))
def jw.c4x0:Shape:=(jw.c3s.s 21 sa11)
def jw.c4r:RC:=⟨jw.c3s,[(jw.c4x0,0,[3,101])],no,[1,3],@jw.c4,fun _ _ _ _=>jf jb (ja fun _=>jb)⟩
def jw.c6 (t1:Int)(c0:Int)(c1:Int)(Z:List YN→Option ρ):Option ρ:=
  bnd (ko c0 t1) fun y=>
  bnd (okIf (decide ((0:Int)≤c1)&&decide (c1≤c1)&&decide (c1*(↑(8:Nat):Int)≤140737488355328)&&decide (c1≤140737488355328))) fun y1=>
  Z y.1
def jw.c6x0:Shape:=((((jw.c3s.s 4 sa36).o 27 sa28).o 30 sa3).o 32 sx33)
def jw.c6r:RC:=⟨jw.c3s,[(jw.c6x0,0,[2,301,3,400,401,302,2,101,402,403,404,405,406,407])],fun X=>((0:Int),(0:Int),(List.replicate (Int.toNat (q4 X).1) (0:Int)),X.2.2.2.1,(q4 X).1,(q4 X).2.1,(0:Int),(0:Int),()),[1,3,4],@jw.c6,fun _ _ _ _ _=>ja fun _=>(ja fun _=>jb)⟩
def jw (c:(Int)×((Int)×(List YO))) (t1:Int):Option ((((Int)×(Int))×(Int)×(Int)×(List YO)×(Int)×(Int)×(List YN)×(List Int)×Unit)⊕((Unit)×((Int)×(Int))×Unit)):=
  bnd (jN (c.1,c.2.1,c.2.2)) fun y=>
  br (y.1 !=0)
   (bnd (jw.c3 some) fun y1=>
    some (Sum.inr ((),(y.1,y.2),())))
   (bnd (jw.c4 t1 c.1 some) fun y2=>
    br y2
     (bnd (kc (18:Int) (0:Int)) fun y3=>
      some (Sum.inr ((),(y3.1,y3.2),())))
     (bnd (jw.c6 t1 c.1 c.2.1 some) fun y4=>
      some (Sum.inl (((0:Int),(0:Int)),c.1,c.2.1,c.2.2,(0:Int),(0:Int),y4,List.replicate (Int.toNat c.2.1) (0:Int),()))))
def jw.ma:MAlt:=⟨45,jw.pre,jw.post,false,jw.post2,fun X=>jw X.1 X.2.1⟩
def jw.G:EB Tryz.prog:=⟨tb,Tryz.f45,[⟨78,jN.ce,jN.ok⟩,⟨48,kc.ce,kc.ok⟩],[0,1,2,4,5,6,11,21],[27,30,32],[(6,[(4,[27]),(7,[30]),(9,[32]),(12,[5])]),(3,[(2,[5])])],[(6,jw.c6r.ck),(4,jw.c4r.ck),(3,jw.c3r)],[⟨79,ko.mc,ko.ok⟩],[]⟩
theorem jw.ok:AltOk Tryz.prog 45 jw.ma:=fnA jw.G (ma:=jw.ma) Tryz.func45 (m:=3) ⟨⟨⟨trivial,kr (s:=jw.c3r) (by kernel_rfl) (by kernel_rfl) (kb (sh:=jw.c3s) (fun ρ X Z=>jb) (fun ρ X t k=>(by kernel_rfl)) (fun X=>by kernel_rfl))⟩,kR jw.c4r (by kernel_rfl)⟩,kR jw.c6r (by kernel_rfl)⟩ (by kernel_rfl)
abbrev sa38:SD:=.one (.ref 1000700 0)
abbrev sa39:SO:=.box [.val (.int .i64),.val (.int .i64),.val (.sl (.st (.pair (.int .i64) (.pair (.int .i64) (.pair (.sl (.int .i64)) (.pair (.int .i64) (.pair (.int .i64) (.sl (.int .i64))))))))),.own 2000701 0,.own 2000702 0,.val (.int .i64),.val (.int .i64)]
def jD.pre:Shape:=⟨[(0,sa38),(1,sa12)],[(1000700,sa39),(2000701,sa28),(2000702,sa3)]⟩
def jD.post:Shape:=⟨[(0,sa11)],[(1000700,sa39),(2000701,sa28),(2000702,sa3)]⟩
def jD.c4 (c:Int)(um:List (Int))(Z:Bool→Option ρ):Option ρ:=
  br (decide (c>0))
   (bnd (inR (um.length) (i64.wrap (c-1))) fun y=>
    bnd (idx um (i64.wrap (c-1))) fun y1=>
    br (y1==0)
     (Z true)
     (br (decide (c<0))
       (bnd (inR (um.length) (i64.wrap (i64.wrap ((0:Int)-c)-1))) fun y2=>
        bnd (idx um (i64.wrap (i64.wrap ((0:Int)-c)-1))) fun y3=>
        Z (y3==1))
       (Z false)))
   (br (decide (c<0))
     (bnd (inR (um.length) (i64.wrap (i64.wrap ((0:Int)-c)-1))) fun y4=>
      bnd (idx um (i64.wrap (i64.wrap ((0:Int)-c)-1))) fun y5=>
      Z (y5==1))
     (Z false))
def jD.c4s:Shape:=(((((((jD.pre.s 3 sa7).s 4 sa11).s 6 sa2).s 8 sa0).s 9 sa2).s 10 sa2).o 3 sa14)
def jD.c4x0:Shape:=(jD.c4s.s 42 sa11)
def jD.c4r:RC:=⟨jD.c4s,[(jD.c4x0,0,[6,101])],no,[2,18],@jD.c4,fun _ _ _ _=>jf (ja fun _=>(ja fun _=>(jf jb (jf (ja fun _=>(ja fun _=>jb)) jb)))) (jf (ja fun _=>(ja fun _=>jb)) jb)⟩
def jD.cb_ (t8:List (Int))(t9:Int)(t10:Int)(um:List (Int))(Z:(Int)⊕((Int)⊕(Int))→Option ρ):Option ρ:=
  br (decide (t10<t9))
   (bnd (idx t8 t10) fun y=>
    bnd (jD.c4 y um some) fun y1=>
    br y1
     (Z (.inr (.inl t10)))
     (Z (.inl (i64.wrap (t10+1)))))
   (Z (.inr (.inr t10)))
def jD.cb_s:Shape:=(jD.c4s.d 6)
def jD.cb_r:LC:=⟨jD.cb_s,[(jD.cb_s,1,[1,400,301,2,201]),(jD.cb_s,2,[4,201])],fun X=>(false,()),[4],[2,3,4,17],@jD.cb_,fun _ _ _ _ _ _=>jf (ja fun _=>(ja fun _=>(jf jb jb))) jb⟩
def jD (o:YO) (ue:Int) (uf:Int) (ug:List YO) (uh:Int) (ui:Int) (ul:List YN) (um:List (Int)):Option (Bool×(Int)×(Int)×(List YO)×(Int)×(Int)×(List YN)×(List Int)×Unit):=
  bnd (iter (fun s↦jD.cb_ o.2.2.2.2.2 (↑(List.length o.2.2.2.2.2):Int) s um some) (0:Int)) fun y=>
  sel y
   (fun u=>some (false,ue,uf,ug,uh,ui,ul,um,()))
   (fun v=>some (true,ue,uf,ug,uh,ui,ul,um,()))
def jD.mc:MCallee:=⟨99,jD.pre,jD.post,fun X=>jD X.1 X.2.1 X.2.2.1 X.2.2.2.1 (q4 X).1 (q4 X).2.1 (q4 X).2.2.1 (q4 X).2.2.2.1⟩
def jD.G:EB Tryz.prog:=⟨tb,Tryz.f99,[],[0,1,3,4,6,8,9,10,11,42],[1000700,2000701,2000702],[],[(100002,jD.cb_r.ck),(4,jD.c4r.ck)],[],[]⟩
theorem jD.ok:MOk Tryz.prog 99 jD.mc:=fnM jD.G (mc:=jD.mc) Tryz.func99 (m:=2) ⟨⟨trivial,kL jD.cb_r (by kernel_rfl)⟩,kR jD.c4r (by kernel_rfl)⟩ (by kernel_rfl)
def JL.ca_ (m:Int)(t6:List (Int))(t7:Int)(t8:Int)(Z:((Int)×(Int))⊕((Int)×(Int))→Option ρ):Option ρ:=
  br (decide (t8<t7))
   (bnd (idx t6 t8) fun y=>
    bnd (okIf (decide ((0:Int)≤y))) fun y1=>
    Z (.inl ((ibits BinOp.or IntKind.i64 m (i64.wrap ((1:Int)*2^Min.min (Int.toNat y) (64:Nat)))),(i64.wrap (t8+1)))))
   (Z (.inr (m,t8)))
def JL.ca_s:Shape:=⟨[(0,sa0),(2,sa2),(3,sa2),(6,sa0),(7,sa2),(8,sa2)],[]⟩
def JL.ca_r:LC:=⟨JL.ca_s,[(JL.ca_s,2,[2,201,2,201])],no,[2,5],[2,3,4,5],@JL.ca_,fun _ _ _ _ _ _=>jf (ja fun _=>(ja fun _=>jb)) jb⟩
def JL (qs:List (Int)):Option (Int):=
  bnd (iter (fun s↦JL.ca_ s.1 qs (qs.length:Int) s.2 some) ((0:Int),(0:Int))) fun y=>
  some y.1
def JL.ce:=ceOf tab Tryz.f133 JL
def JL.G:EB Tryz.prog:=⟨tb,Tryz.f133,[],[0,2,3,5,6,7,8,9],[],[],[(100003,JL.ca_r.ck)],[],[]⟩
theorem JL.ok:CalleeOk Tryz.prog 133 JL.ce:=fnB JL.G Tryz.func133 (m:=1) ⟨trivial,kL JL.ca_r (by kernel_rfl)⟩ (by kernel_rfl)
abbrev sa40:SD:=.one (.win 2000000 0)
abbrev sa41:SD:=.one (.clo 0)
abbrev sa42:SO:=.clo 163 [] [.fptr .len,.fptr (.int .i64)]
def Jj.pre:Shape:=⟨[(0,sa40),(1,sa2)],[(2000000,sa28)]⟩
def Jj.post:Shape:=⟨[(0,sa41)],[(0,sa42),(2000000,sa28)]⟩
def Jj (vlo:Int) (vn:Int) (m:Int) (uj:List YN):Option ((Int)×(Int)×(List YN)×Unit):=
  some (vn,m,uj,())
def Jj.mc:MCallee:=⟨135,Jj.pre,Jj.post,fun X=>Jj X.1 X.2.1 X.2.2.1 X.2.2.2.1⟩
def Jj.G:EB Tryz.prog:=⟨tb,Tryz.f135,[],[0,1,2,3,4],[2000000,8500002,8600003],[],[],[],[]⟩
theorem Jj.ok:MOk Tryz.prog 135 Jj.mc:=fnM Jj.G (mc:=Jj.mc) Tryz.func135 (m:=0) trivial (by kernel_rfl)
def whole_Int_Sign (a:Bool×(List Int)):Option (Int):=
  br ((↑(List.length a.2):Int)==0)
   (some (0:Int))
   (br a.1
     (some (-1:Int))
     (some (1:Int)))
def whole_Int_Sign.ce:=ceOf tab Tryz.f60 whole_Int_Sign
def whole_Int_Sign.G:EB Tryz.prog:=⟨tb,Tryz.f60,[],[0,1,2,3,8],[],[],[],[],[]⟩
theorem whole_Int_Sign.ok:CalleeOk Tryz.prog 60 whole_Int_Sign.ce:=fnB whole_Int_Sign.G Tryz.func60 (m:=0) trivial (by kernel_rfl)
def jT.cb_ (t6:List (Bool×(List Int)))(t7:Int)(Z:(Int)⊕((Int)⊕(Int))→Option ρ):Option ρ:=
  br (decide (t7<8))
   (bnd (idx t6 t7) fun y=>
    bnd (whole_Int_Sign (y.1,y.2)) fun y1=>
    br (y1 !=0)
     (Z (.inr (.inl t7)))
     (Z (.inl (i64.wrap (t7+1)))))
   (Z (.inr (.inr t7)))
def jT.cb_s:Shape:=⟨[(0,sa23),(1,sa24),(2,sa11),(6,sa27),(7,sa2)],[]⟩
def jT.cb_r:LC:=⟨jT.cb_s,[(jT.cb_s,1,[2,400,301,1,201]),(jT.cb_s,2,[4,201])],fun X=>(false,()),[4],[3,4],@jT.cb_,fun _ _ _ _=>jf (ja fun _=>(ja fun _=>(jf jb jb))) jb⟩
def jT (a:YN):Option Bool:=
  bnd (iter (fun s↦jT.cb_ a.1 s some) (0:Int)) fun y=>
  sel y
   (fun u=>some false)
   (fun v=>some true)
def jT.ce:=ceOf tab Tryz.f66 jT
def jT.G:EB Tryz.prog:=⟨tb,Tryz.f66,[⟨60,whole_Int_Sign.ce,whole_Int_Sign.ok⟩],[0,1,2,4,6,7,8,12],[8000001],[],[(100002,jT.cb_r.ck)],[],[]⟩
theorem jT.ok:CalleeOk Tryz.prog 66 jT.ce:=fnB jT.G Tryz.func66 (m:=1) ⟨trivial,kL jT.cb_r (by kernel_rfl)⟩ (by kernel_rfl)
abbrev sa43:SO:=.arr 0 false 148 (.int .u32)
abbrev sa44:SD:=.one (.own 4 0)
abbrev sa45:SD:=.one (.own 15 0)
def whole_left.pre:Shape:=⟨[(0,sa19),(1,sa2)],[]⟩
def whole_left.post:Shape:=⟨[(0,sa29)],[(0,sa43)]⟩
def whole_left.ca_ (n:Int)(t16:List (Int))(t17:Int)(t18:Int)(t15:List (Int))(Z:((Int)×(List Int))⊕((Int)×(List Int))→Option ρ):Option ρ:=
  br (decide (t18<t17))
   (bnd (idx t16 t18) fun y=>
    bnd (okIf (decide ((0:Int)≤Int.tmod n (32:Int)))) fun y1=>
    bnd (inR (t15.length) (i64.wrap (t18+i64.wrap (Int.tdiv n (32:Int))))) fun y2=>
    bnd (idx t15 (i64.wrap (t18+i64.wrap (Int.tdiv n (32:Int))))) fun y3=>
    bnd (inR (t15.length) (i64.wrap (t18+i64.wrap (Int.tdiv n (32:Int))))) fun y4=>
    bnd (idx t15 (i64.wrap (t18+i64.wrap (Int.tdiv n (32:Int))))) fun y5=>
    bnd (inR (List.length (List.set t15 (Int.toNat (i64.wrap (t18+i64.wrap (Int.tdiv n (32:Int))))) (ibits BinOp.or IntKind.u32 y3 (u32.wrap (u64.wrap (IntKind.wrap IntKind.u64 y*2^Min.min (Int.toNat (Int.tmod n (32:Int))) (64:Nat))))))) (i64.wrap (i64.wrap (t18+i64.wrap (Int.tdiv n (32:Int)))+1))) fun y6=>
    bnd (idx (List.set t15 (Int.toNat (i64.wrap (t18+i64.wrap (Int.tdiv n (32:Int))))) (ibits BinOp.or IntKind.u32 y3 (u32.wrap (u64.wrap (IntKind.wrap IntKind.u64 y*2^Min.min (Int.toNat (Int.tmod n (32:Int))) (64:Nat)))))) (i64.wrap (i64.wrap (t18+i64.wrap (Int.tdiv n (32:Int)))+1))) fun y7=>
    bnd (inR (List.length (List.set t15 (Int.toNat (i64.wrap (t18+i64.wrap (Int.tdiv n (32:Int))))) (ibits BinOp.or IntKind.u32 y3 (u32.wrap (u64.wrap (IntKind.wrap IntKind.u64 y*2^Min.min (Int.toNat (Int.tmod n (32:Int))) (64:Nat))))))) (i64.wrap (i64.wrap (t18+i64.wrap (Int.tdiv n (32:Int)))+1))) fun y8=>
    bnd (idx (List.set t15 (Int.toNat (i64.wrap (t18+i64.wrap (Int.tdiv n (32:Int))))) (ibits BinOp.or IntKind.u32 y3 (u32.wrap (u64.wrap (IntKind.wrap IntKind.u64 y*2^Min.min (Int.toNat (Int.tmod n (32:Int))) (64:Nat)))))) (i64.wrap (i64.wrap (t18+i64.wrap (Int.tdiv n (32:Int)))+1))) fun y9=>
    Z (.inl ((i64.wrap (t18+1)),(List.set (List.set t15 (Int.toNat (i64.wrap (t18+i64.wrap (Int.tdiv n (32:Int))))) (ibits BinOp.or IntKind.u32 y3 (u32.wrap (u64.wrap (IntKind.wrap IntKind.u64 y*2^Min.min (Int.toNat (Int.tmod n (32:Int))) (64:Nat)))))) (Int.toNat (i64.wrap (i64.wrap (t18+i64.wrap (Int.tdiv n (32:Int)))+1))) (ibits BinOp.or IntKind.u32 y7 (u32.wrap (Int.fdiv (u64.wrap (IntKind.wrap IntKind.u64 y*2^Min.min (Int.toNat (Int.tmod n (32:Int))) (64:Nat))) ((2:Int) ^32))))))))
   (Z (.inr (t18,t15)))
def whole_left.ca_s:Shape:=(((((((whole_left.pre.s 4 sa44).s 5 sa45).s 16 sa19).s 17 sa2).s 18 sa2).o 4 sa43).o 15 sa43)
def whole_left.ca_r:LC:=⟨whole_left.ca_s,[(whole_left.ca_s,2,[4,201,1,201])],no,[4,6],[1,2,3,4,6],@whole_left.ca_,fun _ _ _ _ _ _ _=>jf (ja fun _=>(ja fun _=>(ja fun _=>(ja fun _=>(ja fun _=>(ja fun _=>(ja fun _=>(ja fun _=>(ja fun _=>(ja fun _=>jb)))))))))) jb⟩
def whole_left (a:List (Int)) (n:Int):Option ((List Int)×Unit):=
  bnd (okIf (decide ((0:Int)≤i64.wrap (i64.wrap ((a.length:Int)+i64.wrap (Int.tdiv n (32:Int)))+1))&&decide (i64.wrap (i64.wrap ((a.length:Int)+i64.wrap (Int.tdiv n (32:Int)))+1)≤i64.wrap (i64.wrap ((a.length:Int)+i64.wrap (Int.tdiv n (32:Int)))+1))&&decide (i64.wrap (i64.wrap ((a.length:Int)+i64.wrap (Int.tdiv n (32:Int)))+1)*(↑(4:Nat):Int)≤140737488355328)&&decide (i64.wrap (i64.wrap ((a.length:Int)+i64.wrap (Int.tdiv n (32:Int)))+1)≤140737488355328))) fun y=>
  bnd (iter (fun s↦whole_left.ca_ n a (a.length:Int) s.1 s.2 some) ((0:Int),List.replicate (Int.toNat (i64.wrap (i64.wrap ((a.length:Int)+i64.wrap (Int.tdiv n (32:Int)))+1))) (0:Int))) fun y1=>
  some (y1.2,())
def whole_left.mc:MCallee:=⟨149,whole_left.pre,whole_left.post,fun X=>whole_left X.1 X.2.1⟩
def whole_left.G:EB Tryz.prog:=⟨tb,Tryz.f149,[],[0,1,4,5,6,7,8,16,17,18,19],[4,15],[],[(100003,whole_left.ca_r.ck)],[],[]⟩
theorem whole_left.ok:MOk Tryz.prog 149 whole_left.mc:=fnM whole_left.G (mc:=whole_left.mc) Tryz.func149 (m:=1) ⟨trivial,kL whole_left.ca_r (by kernel_rfl)⟩ (by kernel_rfl)
abbrev sa46:SD:=.one (.val (.int .u32))
abbrev sa47:SD:=.one (.own 54 0)
def whole_right.c3 (a:List (Int))(n:Int)(Z:Bool→Option ρ):Option ρ:=
  bnd (idx a (i64.wrap (Int.tdiv n (32:Int)))) fun y=>
  bnd (okIf (decide ((0:Int)≤i64.wrap ((32:Int)-Int.tmod n (32:Int))))) fun y1=>
  br (u32.wrap (y*2^Min.min (Int.toNat (i64.wrap ((32:Int)-Int.tmod n (32:Int)))) (32:Nat)) !=0)
   (Z (decide (Int.tmod n (32:Int)>0)))
   (Z false)
def whole_right.c3s:Shape:=⟨[(0,sa19),(1,sa2),(4,sa19),(5,sa11)],[]⟩
def whole_right.c3x0:Shape:=(whole_right.c3s.s 6 sa11)
def whole_right.c3r:RC:=⟨whole_right.c3s,[(whole_right.c3x0,0,[4,101])],no,[0,1],@whole_right.c3,fun _ _ _ _=>ja fun _=>(ja fun _=>(jf jb jb))⟩
def whole_right.c7 (lost:Bool)(x:Int)(Z:Bool→Option ρ):Option ρ:=
  br lost
   (Z true)
   (Z (x !=0))
def whole_right.c7s:Shape:=((((whole_right.c3x0.s 8 sa46).s 37 sa19).s 38 sa2).s 39 sa2)
def whole_right.c7r:RC:=⟨whole_right.c7s,[(whole_right.c7s,0,[4,201])],no,[4,5],@whole_right.c7,fun _ _ _ _=>jf jb jb⟩
def whole_right.cd_ (lost:Bool)(t37:List (Int))(t38:Int)(t39:Int)(Z:(Bool×(Int))⊕(Bool×(Int))→Option ρ):Option ρ:=
  br (decide (t39<t38))
   (bnd (idx t37 t39) fun y=>
    bnd (whole_right.c7 lost y some) fun y1=>
    Z (.inl (y1,(i64.wrap (t39+1)))))
   (Z (.inr (lost,t39)))
def whole_right.cd_s:Shape:=(whole_right.c7s.d 8)
def whole_right.cd_r:LC:=⟨whole_right.cd_s,[(whole_right.cd_s,2,[4,201,2,201])],no,[4,7],[4,5,6,7],@whole_right.cd_,fun _ _ _ _ _ _=>jf (ja fun _=>(ja fun _=>jb)) jb⟩
def whole_right.c14 (a:List (Int))(n:Int)(i:Int)(Z:Bool→Option ρ):Option ρ:=
  br (decide (i64.wrap (i64.wrap (i+i64.wrap (Int.tdiv n (32:Int)))+1)<(a.length:Int)))
   (Z (decide (Int.tmod n (32:Int)>0)))
   (Z false)
def whole_right.c14s:Shape:=(((((whole_right.cd_s.s 9 sa47).s 10 sa2).s 56 sa2).s 57 sa2).o 54 sa43)
def whole_right.c14x0:Shape:=(whole_right.c14s.s 85 sa11)
def whole_right.c14r:RC:=⟨whole_right.c14s,[(whole_right.c14x0,0,[11,101])],no,[0,1,5],@whole_right.c14,fun _ _ _ _ _=>jf jb jb⟩
def whole_right.c15 (a:List (Int))(n:Int)(i:Int)(t54:List (Int))(Z:List (Int)→Option ρ):Option ρ:=
  bnd (inR (t54.length) i) fun y=>
  bnd (idx t54 i) fun y1=>
  bnd (idx a (i64.wrap (i64.wrap (i+i64.wrap (Int.tdiv n (32:Int)))+1))) fun y2=>
  bnd (okIf (decide ((0:Int)≤i64.wrap ((32:Int)-Int.tmod n (32:Int))))) fun y3=>
  bnd (inR (t54.length) i) fun y4=>
  bnd (idx t54 i) fun y5=>
  Z (List.set t54 (Int.toNat i) (ibits BinOp.or IntKind.u32 y1 (u32.wrap (y2*2^Min.min (Int.toNat (i64.wrap ((32:Int)-Int.tmod n (32:Int)))) (32:Nat)))))
def whole_right.c15r:RC:=⟨whole_right.c14s,[(whole_right.c14s,0,[11,201])],no,[0,1,5,11],@whole_right.c15,fun _ _ _ _ _ _=>ja fun _=>(ja fun _=>(ja fun _=>(ja fun _=>(ja fun _=>(ja fun _=>jb)))))⟩
def whole_right.cD_ (a:List (Int))(n:Int)(t57:Int)(t54:List (Int))(Z:List (Int)→Option ρ):Option ρ:=
  bnd (idx a (i64.wrap (t57+i64.wrap (Int.tdiv n (32:Int))))) fun y=>
  bnd (okIf (decide ((0:Int)≤Int.tmod n (32:Int)))) fun y1=>
  bnd (inR (t54.length) t57) fun y2=>
  bnd (idx t54 t57) fun y3=>
  bnd (whole_right.c14 a n t57 some) fun y4=>
  br y4
   (bnd (whole_right.c15 a n t57 (List.set t54 (Int.toNat t57) (Int.fdiv y ((2:Int)^Min.min (Int.toNat (Int.tmod n (32:Int))) (32:Nat)))) some) fun y5=>
    Z y5)
   (Z (List.set t54 (Int.toNat t57) (Int.fdiv y ((2:Int)^Min.min (Int.toNat (Int.tmod n (32:Int))) (32:Nat)))))
def whole_right.cD_s:Shape:=(whole_right.c14s.d 10)
def whole_right.cD_r:RC:=⟨whole_right.cD_s,[(whole_right.cD_s,0,[10,201])],no,[0,1,9,10],@whole_right.cD_,fun _ _ _ _ _ _=>ja fun _=>(ja fun _=>(ja fun _=>(ja fun _=>(ja fun _=>(jf (ja fun _=>jb) jb)))))⟩
def whole_right.cs_ (a:List (Int))(n:Int)(t56:Int)(t57:Int)(t54:List (Int))(Z:((Int)×(List Int))⊕((Int)×(List Int))→Option ρ):Option ρ:=
  br (decide (t57<t56))
   (bnd (whole_right.cD_ a n t57 t54 some) fun y=>
    Z (.inl ((i64.wrap (t57+1)),y)))
   (Z (.inr (t57,t54)))
def whole_right.cs_r:LC:=⟨whole_right.cD_s,[(whole_right.cD_s,4,[9,202])],no,[9,10],[0,1,8,9,10],@whole_right.cs_,fun _ _ _ _ _ _ _=>jf (ja fun _=>jb) jb⟩
def whole_right (a:List (Int)) (n:Int):Option ((List Int)×Bool):=
  br (decide (i64.wrap (Int.tdiv n (32:Int))≥(a.length:Int)))
   (some ([],decide ((a.length:Int)>0)))
   (bnd (whole_right.c3 a n some) fun y=>
    bnd (okIf (decide ((0:Int)≤i64.wrap (Int.tdiv n (32:Int)))&&decide (i64.wrap (Int.tdiv n (32:Int))≤(a.length:Int)))) fun y1=>
    bnd (iter (fun s↦whole_right.cd_ s.1 (List.take (Int.toNat (i64.wrap (Int.tdiv n (32:Int)))) a) (↑(List.length (List.take (Int.toNat (i64.wrap (Int.tdiv n (32:Int)))) a)):Int) s.2 some) (y,(0:Int))) fun y2=>
    bnd (okIf (decide ((0:Int)≤i64.wrap ((a.length:Int)-i64.wrap (Int.tdiv n (32:Int))))&&decide (i64.wrap ((a.length:Int)-i64.wrap (Int.tdiv n (32:Int)))≤i64.wrap ((a.length:Int)-i64.wrap (Int.tdiv n (32:Int))))&&decide (i64.wrap ((a.length:Int)-i64.wrap (Int.tdiv n (32:Int)))*(↑(4:Nat):Int)≤140737488355328)&&decide (i64.wrap ((a.length:Int)-i64.wrap (Int.tdiv n (32:Int)))≤140737488355328))) fun y3=>
    bnd (iter (fun s↦whole_right.cs_ a n (↑(List.length (List.replicate (Int.toNat (i64.wrap ((a.length:Int)-i64.wrap (Int.tdiv n (32:Int))))) (0:Int))):Int) s.1 s.2 some) ((0:Int),List.replicate (Int.toNat (i64.wrap ((a.length:Int)-i64.wrap (Int.tdiv n (32:Int))))) (0:Int))) fun y4=>
    some (y4.2,y2.1))
def whole_right.ce:=ceOf tab Tryz.f150 whole_right
def whole_right.G:EB Tryz.prog:=⟨tb,Tryz.f150,[],[0,1,4,5,6,8,9,10,15,37,38,39,40,56,57,58,85],[54],[(15,[(18,[54])])],[(100011,whole_right.cs_r.ck),(249162,whole_right.cD_r.ck),(15,whole_right.c15r.ck),(14,whole_right.c14r.ck),(100005,whole_right.cd_r.ck),(7,whole_right.c7r.ck),(3,whole_right.c3r.ck)],[],[]⟩
theorem whole_right.ok:CalleeOk Tryz.prog 150 whole_right.ce:=fnB whole_right.G Tryz.func150 (m:=7) ⟨⟨⟨⟨⟨⟨⟨trivial,kR whole_right.c3r (by kernel_rfl)⟩,kL whole_right.cd_r (by kernel_rfl)⟩,kR whole_right.c7r (by kernel_rfl)⟩,kL whole_right.cs_r (by kernel_rfl)⟩,kJ whole_right.cD_r (by kernel_rfl)⟩,kR whole_right.c14r (by kernel_rfl)⟩,kR whole_right.c15r (by kernel_rfl)⟩ (by kernel_rfl)
def Yi (x:Int) (y:Int) (carry:Int):Option ((Int)×(Int)):=
  some (u32.wrap (u64.wrap (u64.wrap (IntKind.wrap IntKind.u64 x+IntKind.wrap IntKind.u64 y)+IntKind.wrap IntKind.u64 carry)),u32.wrap (Int.fdiv (u64.wrap (u64.wrap (IntKind.wrap IntKind.u64 x+IntKind.wrap IntKind.u64 y)+IntKind.wrap IntKind.u64 carry)) ((2:Int) ^32)))
def Yi.ce:=ceOf tab Tryz.f153 Yi
def Yi.G:EB Tryz.prog:=⟨tb,Tryz.f153,[],[0,1,2,6,7,8],[],[],[],[],[]⟩
theorem Yi.ok:CalleeOk Tryz.prog 153 Yi.ce:=fnB Yi.G Tryz.func153 (m:=0) trivial (by kernel_rfl)
abbrev sa48:SD:=.one (.own 20 0)
def whole_sum.cK_ (a:List (Int))(b:List (Int))(Z:(List Int)×(List Int)→Option ρ):Option ρ:=
  br (decide ((a.length:Int)<(b.length:Int)))
   (Z (b,a))
   (Z (a,b))
def whole_sum.cK_s:Shape:=⟨[(0,sa19),(1,sa19),(4,sa19)],[]⟩
def whole_sum.cK_r:RC:=⟨whole_sum.cK_s,[(whole_sum.cK_s,0,[202])],no,[0,1],@whole_sum.cK_,fun _ _ _ _=>jf jb jb⟩
def whole_sum.cJ_ (b:List (Int))(i:Int)(y:Int)(Z:Int→Option ρ):Option ρ:=
  br (decide (i<(b.length:Int)))
   (bnd (idx b i) fun y1=>
    Z y1)
   (Z y)
def whole_sum.cJ_s:Shape:=(((((((((whole_sum.cK_s.s 5 sa48).s 6 sa46).s 7 sa2).s 8 sa46).s 9 sa46).s 21 sa19).s 22 sa2).s 23 sa2).o 20 sa43)
def whole_sum.cJ_r:RC:=⟨whole_sum.cJ_s,[(whole_sum.cJ_s,0,[6,201])],no,[1,4,6],@whole_sum.cJ_,fun _ _ _ _ _=>jf (ja fun _=>jb) jb⟩
def whole_sum.ch_ (b:List (Int))(c:Int)(t21:List (Int))(t22:Int)(t23:Int)(t20:List (Int))(Z:((Int)×(Int)×(List Int))⊕((Int)×(Int)×(List Int))→Option ρ):Option ρ:=
  br (decide (t23<t22))
   (bnd (idx t21 t23) fun y=>
    bnd (whole_sum.cJ_ b t23 (0:Int) some) fun y1=>
    bnd (Yi y y1 c) fun y2=>
    bnd (inR (t20.length) t23) fun y3=>
    bnd (idx t20 t23) fun y4=>
    Z (.inl (y2.2,(i64.wrap (t23+1)),(List.set t20 (Int.toNat t23) y2.1))))
   (Z (.inr (c,t23,t20)))
def whole_sum.ch_s:Shape:=(((whole_sum.cJ_s.d 7).d 8).d 9)
def whole_sum.ch_r:LC:=⟨whole_sum.ch_s,[(whole_sum.ch_s,2,[3,201,2,202])],no,[3,6,7],[1,3,4,5,6,7],@whole_sum.ch_,fun _ _ _ _ _ _ _ _=>jf (ja fun _=>(ja fun _=>(ja fun _=>(ja fun _=>(ja fun _=>jb))))) jb⟩
def whole_sum (a:List (Int)) (b:List (Int)):Option (List Int):=
  bnd (whole_sum.cK_ a b some) fun y=>
  bnd (okIf (decide ((0:Int)≤i64.wrap ((↑(List.length y.1):Int)+1))&&decide (i64.wrap ((↑(List.length y.1):Int)+1)≤i64.wrap ((↑(List.length y.1):Int)+1))&&decide (i64.wrap ((↑(List.length y.1):Int)+1)*(↑(4:Nat):Int)≤140737488355328)&&decide (i64.wrap ((↑(List.length y.1):Int)+1)≤140737488355328))) fun y1=>
  bnd (iter (fun s↦whole_sum.ch_ y.2 s.1 y.1 (↑(List.length y.1):Int) s.2.1 s.2.2 some) ((0:Int),(0:Int),List.replicate (Int.toNat (i64.wrap ((↑(List.length y.1):Int)+1))) (0:Int))) fun y2=>
  bnd (inR (List.length y2.2.2) (↑(List.length y.1):Int)) fun y3=>
  bnd (idx y2.2.2 (↑(List.length y.1):Int)) fun y4=>
  some (List.set y2.2.2 (Int.toNat (↑(List.length y.1):Int)) y2.1)
def whole_sum.ce:=ceOf tab Tryz.f127 whole_sum
def whole_sum.G:EB Tryz.prog:=⟨tb,Tryz.f127,[⟨153,Yi.ce,Yi.ok⟩],[0,1,4,5,6,7,8,9,14,21,22,23,24,31],[20],[],[(100006,whole_sum.ch_r.ck),(236869,whole_sum.cJ_r.ck),(204101,whole_sum.cK_r.ck)],[],[]⟩
theorem whole_sum.ok:CalleeOk Tryz.prog 127 whole_sum.ce:=fnB whole_sum.G Tryz.func127 (m:=3) ⟨⟨⟨trivial,kJ whole_sum.cK_r (by kernel_rfl)⟩,kL whole_sum.ch_r (by kernel_rfl)⟩,kJ whole_sum.cJ_r (by kernel_rfl)⟩ (by kernel_rfl)
def cmp_isNaN_int (x:Int):Option Bool:=
  some (x !=x)
def cmp_isNaN_int.ce:=ceOf tab Tryz.f169 cmp_isNaN_int
def cmp_isNaN_int.G:EB Tryz.prog:=⟨tb,Tryz.f169,[],[0,2],[],[],[],[],[]⟩
theorem cmp_isNaN_int.ok:CalleeOk Tryz.prog 169 cmp_isNaN_int.ce:=fnB cmp_isNaN_int.G Tryz.func169 (m:=0) trivial (by kernel_rfl)
def cmp_Compare_int (x:Int) (y:Int):Option (Int):=
  bnd (cmp_isNaN_int x) fun y1=>
  bnd (cmp_isNaN_int y) fun y2=>
  br y1
   (br y2
     (some (0:Int))
     (some (-1:Int)))
   (br y2
     (some (1:Int))
     (br (decide (x<y))
       (some (-1:Int))
       (br (decide (x>y))
         (some (1:Int))
         (some (0:Int)))))
def cmp_Compare_int.ce:=ceOf tab Tryz.f154 cmp_Compare_int
def cmp_Compare_int.G:EB Tryz.prog:=⟨tb,Tryz.f154,[⟨169,cmp_isNaN_int.ce,cmp_isNaN_int.ok⟩],[0,1,4,5,6,11,12,13,16,19],[],[],[],[],[]⟩
theorem cmp_Compare_int.ok:CalleeOk Tryz.prog 154 cmp_Compare_int.ce:=fnB cmp_Compare_int.G Tryz.func154 (m:=0) trivial (by kernel_rfl)
def cmp_isNaN_uint32 (x:Int):Option Bool:=
  some (x !=x)
def cmp_isNaN_uint32.ce:=ceOf tab Tryz.f170 cmp_isNaN_uint32
def cmp_isNaN_uint32.G:EB Tryz.prog:=⟨tb,Tryz.f170,[],[0,2],[],[],[],[],[]⟩
theorem cmp_isNaN_uint32.ok:CalleeOk Tryz.prog 170 cmp_isNaN_uint32.ce:=fnB cmp_isNaN_uint32.G Tryz.func170 (m:=0) trivial (by kernel_rfl)
def cmp_Compare_uint32 (x:Int) (y:Int):Option (Int):=
  bnd (cmp_isNaN_uint32 x) fun y1=>
  bnd (cmp_isNaN_uint32 y) fun y2=>
  br y1
   (br y2
     (some (0:Int))
     (some (-1:Int)))
   (br y2
     (some (1:Int))
     (br (decide (x<y))
       (some (-1:Int))
       (br (decide (x>y))
         (some (1:Int))
         (some (0:Int)))))
def cmp_Compare_uint32.ce:=ceOf tab Tryz.f155 cmp_Compare_uint32
def cmp_Compare_uint32.G:EB Tryz.prog:=⟨tb,Tryz.f155,[⟨170,cmp_isNaN_uint32.ce,cmp_isNaN_uint32.ok⟩],[0,1,4,5,6,11,12,13,16,19],[],[],[],[],[]⟩
theorem cmp_Compare_uint32.ok:CalleeOk Tryz.prog 155 cmp_Compare_uint32.ce:=fnB cmp_Compare_uint32.G Tryz.func155 (m:=0) trivial (by kernel_rfl)
def whole_order.c7 (a:List (Int))(b:List (Int))(i:Int)(Z:Int→Option ρ):Option ρ:=
  bnd (idx a i) fun y=>
  bnd (idx b i) fun y1=>
  bnd (cmp_Compare_uint32 y y1) fun y2=>
  Z y2
def whole_order.c7s:Shape:=⟨[(0,sa19),(1,sa19),(4,sa2),(5,sa2),(6,sa2)],[]⟩
def whole_order.c7x0:Shape:=(whole_order.c7s.s 7 sa2)
def whole_order.c7r:RC:=⟨whole_order.c7s,[(whole_order.c7x0,0,[5,101])],no,[0,1,4],@whole_order.c7,fun _ _ _ _ _=>ja fun _=>(ja fun _=>(ja fun _=>jb))⟩
def whole_order.cd_ (a:List (Int))(b:List (Int))(i:Int)(Z:(Int)⊕(((Int)×(Int))⊕(Int))→Option ρ):Option ρ:=
  br (decide (i≥0))
   (bnd (whole_order.c7 a b i some) fun y=>
    br (y !=0)
     (Z (.inr (.inl (y,i))))
     (Z (.inl (i64.wrap (i-1)))))
   (Z (.inr (.inr i)))
def whole_order.cd_r:LC:=⟨whole_order.c7s,[(whole_order.c7s,1,[2,201,1,201]),(whole_order.c7s,2,[4,201])],no,[4],[0,1,4],@whole_order.cd_,fun _ _ _ _ _=>jf (ja fun _=>(jf jb jb)) jb⟩
def whole_order (a:List (Int)) (b:List (Int)):Option (Int):=
  bnd (cmp_Compare_int (a.length:Int) (b.length:Int)) fun y=>
  br (y !=0)
   (some y)
   (bnd (iter (fun s↦whole_order.cd_ a b s some) (i64.wrap ((a.length:Int)-1))) fun y1=>
    sel y1
     (fun u=>some u.1)
     (fun v=>some (0:Int)))
def whole_order.ce:=ceOf tab Tryz.f128 whole_order
def whole_order.G:EB Tryz.prog:=⟨tb,Tryz.f128,[⟨154,cmp_Compare_int.ce,cmp_Compare_int.ok⟩,⟨155,cmp_Compare_uint32.ce,cmp_Compare_uint32.ok⟩],[0,1,4,5,6,7,14,20,33],[],[(7,[])],[(100005,whole_order.cd_r.ck),(7,whole_order.c7r.ck)],[],[]⟩
theorem whole_order.ok:CalleeOk Tryz.prog 128 whole_order.ce:=fnB whole_order.G Tryz.func128 (m:=2) ⟨⟨trivial,kL whole_order.cd_r (by kernel_rfl)⟩,kR whole_order.c7r (by kernel_rfl)⟩ (by kernel_rfl)
def Yj (x:Int) (y:Int) (borrow:Int):Option ((Int)×(Int)):=
  some (u32.wrap (u32.wrap (x-y)-borrow),Int.fdiv (ibits BinOp.or IntKind.u32 (ibits BinOp.and IntKind.u32 (ibits BinOp.xor IntKind.u32 (Int.ofNat (nat_lit 2 ^32-Nat.succ (nat_lit 0))) x) y) (ibits BinOp.and IntKind.u32 (ibits BinOp.xor IntKind.u32 (Int.ofNat (nat_lit 2 ^32-Nat.succ (nat_lit 0))) (ibits BinOp.xor IntKind.u32 x y)) (u32.wrap (u32.wrap (x-y)-borrow)))) ((2:Int) ^31))
def Yj.ce:=ceOf tab Tryz.f156 Yj
def Yj.G:EB Tryz.prog:=⟨tb,Tryz.f156,[],[0,1,2,6,7],[],[],[],[],[]⟩
theorem Yj.ok:CalleeOk Tryz.prog 156 Yj.ce:=fnB Yj.G Tryz.func156 (m:=0) trivial (by kernel_rfl)
abbrev sa49:SD:=.one (.own 12 0)
def whole_less.cl_ (b:List (Int))(i:Int)(y:Int)(Z:Int→Option ρ):Option ρ:=
  br (decide (i<(b.length:Int)))
   (bnd (idx b i) fun y1=>
    Z y1)
   (Z y)
def whole_less.cl_s:Shape:=⟨[(0,sa19),(1,sa19),(4,sa19),(5,sa49),(6,sa46),(7,sa2),(8,sa46),(9,sa46),(13,sa19),(14,sa2),(15,sa2)],[(12,sa43)]⟩
def whole_less.cl_r:RC:=⟨whole_less.cl_s,[(whole_less.cl_s,0,[6,201])],no,[1,4,6],@whole_less.cl_,fun _ _ _ _ _=>jf (ja fun _=>jb) jb⟩
def whole_less.cc_ (b:List (Int))(c:Int)(t13:List (Int))(t14:Int)(t15:Int)(t12:List (Int))(Z:((Int)×(Int)×(List Int))⊕((Int)×(Int)×(List Int))→Option ρ):Option ρ:=
  br (decide (t15<t14))
   (bnd (idx t13 t15) fun y=>
    bnd (whole_less.cl_ b t15 (0:Int) some) fun y1=>
    bnd (Yj y y1 c) fun y2=>
    bnd (inR (t12.length) t15) fun y3=>
    bnd (idx t12 t15) fun y4=>
    Z (.inl (y2.2,(i64.wrap (t15+1)),(List.set t12 (Int.toNat t15) y2.1))))
   (Z (.inr (c,t15,t12)))
def whole_less.cc_s:Shape:=(((whole_less.cl_s.d 7).d 8).d 9)
def whole_less.cc_r:LC:=⟨whole_less.cc_s,[(whole_less.cc_s,2,[3,201,2,202])],no,[3,6,7],[1,3,4,5,6,7],@whole_less.cc_,fun _ _ _ _ _ _ _ _=>jf (ja fun _=>(ja fun _=>(ja fun _=>(ja fun _=>(ja fun _=>jb))))) jb⟩
def whole_less (a:List (Int)) (b:List (Int)):Option (List Int):=
  bnd (okIf (decide ((0:Int)≤(a.length:Int))&&decide ((a.length:Int)≤(a.length:Int))&&decide ((a.length:Int)*(↑(4:Nat):Int)≤140737488355328)&&decide ((a.length:Int)≤140737488355328))) fun y=>
  bnd (iter (fun s↦whole_less.cc_ b s.1 a (a.length:Int) s.2.1 s.2.2 some) ((0:Int),(0:Int),List.replicate (Int.toNat (a.length:Int)) (0:Int))) fun y1=>
  some y1.2.2
def whole_less.ce:=ceOf tab Tryz.f129 whole_less
def whole_less.G:EB Tryz.prog:=⟨tb,Tryz.f129,[⟨156,Yj.ce,Yj.ok⟩],[0,1,4,5,6,7,8,9,13,14,15,16,23],[12],[],[(100004,whole_less.cc_r.ck),(228677,whole_less.cl_r.ck)],[],[]⟩
theorem whole_less.ok:CalleeOk Tryz.prog 129 whole_less.ce:=fnB whole_less.G Tryz.func129 (m:=2) ⟨⟨trivial,kL whole_less.cc_r (by kernel_rfl)⟩,kJ whole_less.cl_r (by kernel_rfl)⟩ (by kernel_rfl)
abbrev sa50:SD:=.one (.val (.st (.pair .bool (.sl (.int .u32)))))
def whole_Int_Add.c2 (a0:Bool)(a1:List (Int))(b1:List (Int))(Z:Bool×(List Int)→Option ρ):Option ρ:=
  bnd (whole_sum a1 b1) fun y=>
  bnd (whole_made a0 y) fun y1=>
  Z (y1.1,y1.2)
def whole_Int_Add.c2s:Shape:=⟨[(0,sa50),(1,sa50),(2,sa6),(3,sa7),(4,sa20)],[(2,sa21),(3,sa21),(4,sa21)]⟩
def whole_Int_Add.c2r:RC:=⟨whole_Int_Add.c2s,[(whole_Int_Add.c2s,0,[6,202])],no,[2,3,5],@whole_Int_Add.c2,fun _ _ _ _ _=>ja fun _=>(ja fun _=>jb)⟩
def whole_Int_Add.c4 (a0:Bool)(a1:List (Int))(b1:List (Int))(Z:Bool×(List Int)→Option ρ):Option ρ:=
  bnd (whole_less a1 b1) fun y=>
  bnd (whole_made a0 y) fun y1=>
  Z (y1.1,y1.2)
def whole_Int_Add.c4r:RC:=⟨whole_Int_Add.c2s,[(whole_Int_Add.c2s,0,[6,202])],no,[2,3,5],@whole_Int_Add.c4,fun _ _ _ _ _=>ja fun _=>(ja fun _=>jb)⟩
def whole_Int_Add.c5 (a1:List (Int))(b0:Bool)(b1:List (Int))(Z:Bool×(List Int)→Option ρ):Option ρ:=
  bnd (whole_less b1 a1) fun y=>
  bnd (whole_made b0 y) fun y1=>
  Z (y1.1,y1.2)
def whole_Int_Add.c5r:RC:=⟨whole_Int_Add.c2s,[(whole_Int_Add.c2s,0,[6,202])],no,[3,4,5],@whole_Int_Add.c5,fun _ _ _ _ _=>ja fun _=>(ja fun _=>jb)⟩
def whole_Int_Add (a:Bool×(List Int)) (b:Bool×(List Int)):Option (Bool×(List Int)):=
  br (a.1==b.1)
   (bnd (whole_Int_Add.c2 a.1 a.2 b.2 some) fun y=>
    some (y.1,y.2))
   (bnd (whole_order a.2 b.2) fun y1=>
    br (decide (y1≥0))
     (bnd (whole_Int_Add.c4 a.1 a.2 b.2 some) fun y2=>
      some (y2.1,y2.2))
     (bnd (whole_Int_Add.c5 a.2 b.1 b.2 some) fun y3=>
      some (y3.1,y3.2)))
def whole_Int_Add.ce:=ceOf tab Tryz.f92 whole_Int_Add
def whole_Int_Add.G:EB Tryz.prog:=⟨tb,Tryz.f92,[⟨127,whole_sum.ce,whole_sum.ok⟩,⟨121,whole_made.ce,whole_made.ok⟩,⟨128,whole_order.ce,whole_order.ok⟩,⟨129,whole_less.ce,whole_less.ok⟩],[0,1,2,3,4,9,23],[],[(5,[(8,[4])]),(4,[(8,[4])]),(2,[(8,[4])])],[(5,whole_Int_Add.c5r.ck),(4,whole_Int_Add.c4r.ck),(2,whole_Int_Add.c2r.ck)],[],[]⟩
theorem whole_Int_Add.ok:CalleeOk Tryz.prog 92 whole_Int_Add.ce:=fnB whole_Int_Add.G Tryz.func92 (m:=3) ⟨⟨⟨trivial,kR whole_Int_Add.c2r (by kernel_rfl)⟩,kR whole_Int_Add.c4r (by kernel_rfl)⟩,kR whole_Int_Add.c5r (by kernel_rfl)⟩ (by kernel_rfl)
def whole_Int_Sub.c1 (a0:Bool)(a1:List (Int))(b0:Bool)(b1:List (Int))(Z:Bool×(List Int)→Option ρ):Option ρ:=
  bnd (whole_Int_Neg (b0,b1)) fun y=>
  bnd (whole_Int_Add (a0,a1) y) fun y1=>
  Z (y1.1,y1.2)
def whole_Int_Sub.c1s:Shape:=⟨[(0,sa50),(1,sa50),(2,sa6),(3,sa7),(4,sa20)],[(2,sa21),(3,sa21),(4,sa21)]⟩
def whole_Int_Sub.c1r:RC:=⟨whole_Int_Sub.c1s,[(whole_Int_Sub.c1s,0,[6,202])],no,[2,3,4,5],@whole_Int_Sub.c1,fun _ _ _ _ _ _=>ja fun _=>(ja fun _=>jb)⟩
def whole_Int_Sub (a:Bool×(List Int)) (b:Bool×(List Int)):Option (Bool×(List Int)):=
  bnd (whole_Int_Sub.c1 a.1 a.2 b.1 b.2 some) fun y=>
  some (y.1,y.2)
def whole_Int_Sub.ce:=ceOf tab Tryz.f151 whole_Int_Sub
def whole_Int_Sub.G:EB Tryz.prog:=⟨tb,Tryz.f151,[⟨116,whole_Int_Neg.ce,whole_Int_Neg.ok⟩,⟨92,whole_Int_Add.ce,whole_Int_Add.ok⟩],[0,1,2,3,4],[],[(1,[(4,[4])])],[(1,whole_Int_Sub.c1r.ck)],[],[]⟩
theorem whole_Int_Sub.ok:CalleeOk Tryz.prog 151 whole_Int_Sub.ce:=fnB whole_Int_Sub.G Tryz.func151 (m:=1) ⟨trivial,kR whole_Int_Sub.c1r (by kernel_rfl)⟩ (by kernel_rfl)
abbrev sa51:SD:=.one (.ref 8 0)
def whole_Int_Shift.c1 (n:Int)(Z:Bool→Option ρ):Option ρ:=
  br (decide (n<(-10000:Int)))
   (Z true)
   (Z (decide (n>10000)))
def whole_Int_Shift.c1s:Shape:=⟨[(0,sa50),(1,sa2),(2,sa6),(4,sa20),(5,sa34)],[(2,sa21),(4,sa21),(5,sa17)]⟩
def whole_Int_Shift.c1x0:Shape:=(whole_Int_Shift.c1s.s 14 sa11)
def whole_Int_Shift.c1r:RC:=⟨whole_Int_Shift.c1s,[(whole_Int_Shift.c1x0,0,[2,101])],no,[1],@whole_Int_Shift.c1,fun _ _ _=>jf jb jb⟩
def whole_Int_Shift.c4 (n:Int)(a0:Bool)(a1:List (Int))(Z:Bool×(List Int)→Option ρ):Option ρ:=
  bnd (whole_left a1 n) fun y=>
  bnd (whole_made a0 y.1) fun y1=>
  Z (y1.1,y1.2)
def whole_Int_Shift.c4r:RC:=⟨whole_Int_Shift.c1s,[(whole_Int_Shift.c1s,0,[4,102,400,401,304])],fun X=>((0:Int),(0:Int),()),[1,2,3],@whole_Int_Shift.c4,fun _ _ _ _ _=>ja fun _=>(ja fun _=>jb)⟩
def whole_Int_Shift.c7 (lost:Bool)(a0:Bool)(Z:Bool→Option ρ):Option ρ:=
  br lost
   (Z a0)
   (Z false)
def whole_Int_Shift.c7s:Shape:=((((whole_Int_Shift.c1s.s 6 sa19).s 7 sa11).s 8 sa51).o 8 sa21)
def whole_Int_Shift.c7x0:Shape:=(whole_Int_Shift.c7s.s 43 sa11)
def whole_Int_Shift.c7r:RC:=⟨whole_Int_Shift.c7s,[(whole_Int_Shift.c7x0,0,[4,101])],no,[3,4],@whole_Int_Shift.c7,fun _ _ _ _=>jf jb jb⟩
def whole_Int_Shift.c8 (out0:Bool)(out1:List (Int))(Z:Bool×(List Int)→Option ρ):Option ρ:=
  bnd (whole_Of (1:Int)) fun y=>
  bnd (whole_Int_Sub (out0,out1) y) fun y1=>
  Z (y1.1,y1.2)
def whole_Int_Shift.c8r:RC:=⟨whole_Int_Shift.c7s,[(whole_Int_Shift.c7s,0,[10,202])],no,[10,11],@whole_Int_Shift.c8,fun _ _ _ _=>ja fun _=>(ja fun _=>jb)⟩
def whole_Int_Shift.cl_ (lost:Bool)(a0:Bool)(out0:Bool)(out1:List (Int))(Z:Bool×(List Int)→Option ρ):Option ρ:=
  bnd (whole_Int_Shift.c7 lost a0 some) fun y=>
  br y
   (bnd (whole_Int_Shift.c8 out0 out1 some) fun y1=>
    Z (y1.1,y1.2))
   (Z (out0,out1))
def whole_Int_Shift.cl_r:RC:=⟨whole_Int_Shift.c7s,[(whole_Int_Shift.c7s,0,[10,202])],no,[3,4,10,11],@whole_Int_Shift.cl_,fun _ _ _ _ _ _=>ja fun _=>(jf (ja fun _=>jb) jb)⟩
def whole_Int_Shift (a:Bool×(List Int)) (n:Int):Option ((Bool×(List Int))×((Int)×(Int))):=
  bnd (whole_Int_Shift.c1 n some) fun y=>
  br y
   (some ((false,[]),(5:Int),(0:Int)))
   (br (decide (n≥0))
     (bnd (whole_Int_Shift.c4 n a.1 a.2 some) fun y1=>
      some ((y1.1,y1.2),(0:Int),(0:Int)))
     (bnd (whole_right a.2 (i64.wrap ((0:Int)-n))) fun y2=>
      bnd (whole_made a.1 y2.1) fun y3=>
      bnd (whole_Int_Shift.cl_ y2.2 a.1 y3.1 y3.2 some) fun y4=>
      some ((y4.1,y4.2),(0:Int),(0:Int))))
def whole_Int_Shift.ce:=ceOf tab Tryz.f126 whole_Int_Shift
def whole_Int_Shift.G:EB Tryz.prog:=⟨tb,Tryz.f126,[⟨121,whole_made.ce,whole_made.ok⟩,⟨150,whole_right.ce,whole_right.ok⟩,⟨152,whole_Of.ce,whole_Of.ok⟩,⟨151,whole_Int_Sub.ce,whole_Int_Sub.ok⟩],[0,1,2,4,5,6,7,8,14,18,43],[],[(8,[(3,[8])]),(4,[(5,[24]),(6,[24]),(8,[4]),(9,[5])])],[(228677,whole_Int_Shift.cl_r.ck),(8,whole_Int_Shift.c8r.ck),(7,whole_Int_Shift.c7r.ck),(4,whole_Int_Shift.c4r.ck),(1,whole_Int_Shift.c1r.ck)],[⟨149,whole_left.mc,whole_left.ok⟩],[]⟩
theorem whole_Int_Shift.ok:CalleeOk Tryz.prog 126 whole_Int_Shift.ce:=fnB whole_Int_Shift.G Tryz.func126 (m:=5) ⟨⟨⟨⟨⟨trivial,kR whole_Int_Shift.c1r (by kernel_rfl)⟩,kR whole_Int_Shift.c4r (by kernel_rfl)⟩,kJ whole_Int_Shift.cl_r (by kernel_rfl)⟩,kR whole_Int_Shift.c7r (by kernel_rfl)⟩,kR whole_Int_Shift.c8r (by kernel_rfl)⟩ (by kernel_rfl)
abbrev sa52:SD:=.one (.aptr 2000700 0)
def ju.pre:Shape:=⟨[(0,sa52),(1,sa2)],[(2000700,sa28)]⟩
def ju.post:Shape:=⟨[],[(2000700,sa28)]⟩
def ju.c6 (i:Int)(t6:Int)(uk:List YN)(Z:List YN→Option ρ):Option ρ:=
  bnd (okIf (decide ((0:Ty.den (Ty.int IntKind.i64))≤i)&&decide (i<(↑(8:Nat):Int)))) fun y=>
  bnd (inR (uk.length) (0:Int)) fun y1=>
  bnd (idx uk (0:Int)) fun y2=>
  bnd (idx y2.1 i) fun y3=>
  bnd (whole_Int_Shift y3 (i64.wrap ((0:Int)-t6))) fun y4=>
  bnd (okIf (decide ((0:Ty.den (Ty.int IntKind.i64))≤i)&&decide (i<(↑(8:Nat):Int)))) fun y5=>
  bnd (inR (uk.length) (0:Int)) fun y6=>
  bnd (idx uk (0:Int)) fun y7=>
  bnd (idx y7.1 i) fun y8=>
  Z (List.set uk (0:Nat) (List.set y7.1 (Int.toNat i) y4.1,y7.2))
def ju.c6s:Shape:=((((ju.pre.s 4 sa2).s 5 sa2).s 6 sa2).s 7 sa2)
def ju.c6r:RC:=⟨ju.c6s,[(ju.c6s,0,[5,201])],no,[1,3,5],@ju.c6,fun _ _ _ _ _=>ja fun _=>(ja fun _=>(ja fun _=>(ja fun _=>(ja fun _=>(ja fun _=>(ja fun _=>(ja fun _=>(ja fun _=>jb))))))))⟩
def ju.cc_ (i:Int)(t5:Int)(uk:List YN)(Z:((Int)×(List YN))⊕((Int)×(List YN))→Option ρ):Option ρ:=
  br (t5 !=0)
   (bnd (ju.c6 i (Max.max (-10000:Int) (Min.min (10000:Int) t5)) uk some) fun y=>
    Z (.inl ((i64.wrap (t5-Max.max (-10000:Int) (Min.min (10000:Int) t5))),y)))
   (Z (.inr (t5,uk)))
def ju.cc_s:Shape:=(ju.c6s.d 6)
def ju.cc_r:LC:=⟨ju.cc_s,[(ju.cc_s,4,[2,201,1,201])],no,[2,4],[1,2,4],@ju.cc_,fun _ _ _ _ _=>jf (ja fun _=>jb) jb⟩
def ju.ce_ (n:Int)(t7:Int)(uk:List YN)(Z:((Int)×(List YN))⊕((Int)×(List YN))→Option ρ):Option ρ:=
  br (decide (t7<8))
   (bnd (iter (fun s↦ju.cc_ t7 s.1 s.2 some) (n,uk)) fun y=>
    Z (.inl ((i64.wrap (t7+1)),y.2)))
   (Z (.inr (t7,uk)))
def ju.ce_s:Shape:=(ju.pre.s 7 sa2)
def ju.ce_r:LC:=⟨ju.ce_s,[(ju.ce_s,2,[1,202])],no,[1,2],[0,1,2],@ju.ce_,fun _ _ _ _ _=>jf (ja fun _=>jb) jb⟩
def ju (n:Int) (uk:List YN):Option ((List YN)×Unit):=
  bnd (iter (fun s↦ju.ce_ n s.1 s.2 some) ((0:Int),uk)) fun y=>
  some (y.2,())
def ju.mc:MCallee:=⟨91,ju.pre,ju.post,fun X=>ju X.1 X.2.1⟩
def ju.G:EB Tryz.prog:=⟨tb,Tryz.f91,[⟨126,whole_Int_Shift.ce,whole_Int_Shift.ok⟩],[0,1,4,5,6,7,8,12],[2000700],[(6,[(15,[2000700])])],[(100001,ju.ce_r.ck),(100004,ju.cc_r.ck),(6,ju.c6r.ck)],[],[]⟩
theorem ju.ok:MOk Tryz.prog 91 ju.mc:=fnM ju.G (mc:=ju.mc) Tryz.func91 (m:=3) ⟨⟨⟨trivial,kL ju.ce_r (by kernel_rfl)⟩,kL ju.cc_r (by kernel_rfl)⟩,kR ju.c6r (by kernel_rfl)⟩ (by kernel_rfl)
def whole_Int_Twos.cb_ (t6:List (Int))(t7:Int)(t8:Int)(Z:(Int)⊕(((Int)×(Int))⊕(Int))→Option ρ):Option ρ:=
  br (decide (t8<t7))
   (bnd (idx t6 t8) fun y=>
    br (y !=0)
     (bnd (Jy y) fun y1=>
      Z (.inr (.inl ((i64.wrap (i64.wrap ((32:Int)*t8)+y1)),t8))))
     (Z (.inl (i64.wrap (t8+1)))))
   (Z (.inr (.inr t8)))
def whole_Int_Twos.cb_s:Shape:=⟨[(0,sa50),(1,sa5),(2,sa2),(6,sa19),(7,sa2),(8,sa2)],[(1,sa21)]⟩
def whole_Int_Twos.cb_r:LC:=⟨whole_Int_Twos.cb_s,[(whole_Int_Twos.cb_s,1,[1,201,2,201]),(whole_Int_Twos.cb_s,2,[4,201])],no,[4],[2,3,4],@whole_Int_Twos.cb_,fun _ _ _ _ _=>jf (ja fun _=>(jf (ja fun _=>jb) jb)) jb⟩
def whole_Int_Twos (a:Bool×(List Int)):Option (Int):=
  bnd (iter (fun s↦whole_Int_Twos.cb_ a.2 (↑(List.length a.2):Int) s some) (0:Int)) fun y=>
  sel y
   (fun u=>some u.1)
   (fun v=>some (0:Int))
def whole_Int_Twos.ce:=ceOf tab Tryz.f125 whole_Int_Twos
def whole_Int_Twos.G:EB Tryz.prog:=⟨tb,Tryz.f125,[⟨148,Jy.ce,Jy.ok⟩],[0,1,2,3,4,6,7,8,9,14],[],[],[(100002,whole_Int_Twos.cb_r.ck)],[],[]⟩
theorem whole_Int_Twos.ok:CalleeOk Tryz.prog 125 whole_Int_Twos.ce:=fnB whole_Int_Twos.G Tryz.func125 (m:=1) ⟨trivial,kL whole_Int_Twos.cb_r (by kernel_rfl)⟩ (by kernel_rfl)
abbrev sa53:SO:=.arr 0 false 69 (.st (.pair .bool (.sl (.int .u32))))
def jO.pre:Shape:=⟨[(0,sa52),(1,sa2)],[(2000700,sa53)]⟩
def jO.post:Shape:=⟨[],[(2000700,sa53)]⟩
def jO.c6 (i:Int)(t6:Int)(uk:List (Bool×(List Int)))(Z:List (Bool×(List Int))→Option ρ):Option ρ:=
  bnd (okIf (decide ((0:Ty.den (Ty.int IntKind.i64))≤i)&&decide (i<(↑(8:Nat):Int)))) fun y=>
  bnd (inR (uk.length) i) fun y1=>
  bnd (idx uk i) fun y2=>
  bnd (whole_Int_Shift y2 (i64.wrap ((0:Int)-t6))) fun y3=>
  bnd (okIf (decide ((0:Ty.den (Ty.int IntKind.i64))≤i)&&decide (i<(↑(8:Nat):Int)))) fun y4=>
  bnd (inR (uk.length) i) fun y5=>
  bnd (idx uk i) fun y6=>
  Z (List.set uk (Int.toNat i) y3.1)
def jO.c6s:Shape:=((((jO.pre.s 4 sa2).s 5 sa2).s 6 sa2).s 7 sa2)
def jO.c6r:RC:=⟨jO.c6s,[(jO.c6s,0,[5,201])],no,[1,3,5],@jO.c6,fun _ _ _ _ _=>ja fun _=>(ja fun _=>(ja fun _=>(ja fun _=>(ja fun _=>(ja fun _=>(ja fun _=>jb))))))⟩
def jO.cc_ (i:Int)(t5:Int)(uk:List (Bool×(List Int)))(Z:((Int)×(List (Bool×(List Int))))⊕((Int)×(List (Bool×(List Int))))→Option ρ):Option ρ:=
  br (t5 !=0)
   (bnd (jO.c6 i (Max.max (-10000:Int) (Min.min (10000:Int) t5)) uk some) fun y=>
    Z (.inl ((i64.wrap (t5-Max.max (-10000:Int) (Min.min (10000:Int) t5))),y)))
   (Z (.inr (t5,uk)))
def jO.cc_s:Shape:=(jO.c6s.d 6)
def jO.cc_r:LC:=⟨jO.cc_s,[(jO.cc_s,4,[2,201,1,201])],no,[2,4],[1,2,4],@jO.cc_,fun _ _ _ _ _=>jf (ja fun _=>jb) jb⟩
def jO.ce_ (n:Int)(t7:Int)(uk:List (Bool×(List Int)))(Z:((Int)×(List (Bool×(List Int))))⊕((Int)×(List (Bool×(List Int))))→Option ρ):Option ρ:=
  br (decide (t7<8))
   (bnd (iter (fun s↦jO.cc_ t7 s.1 s.2 some) (n,uk)) fun y=>
    Z (.inl ((i64.wrap (t7+1)),y.2)))
   (Z (.inr (t7,uk)))
def jO.ce_s:Shape:=(jO.pre.s 7 sa2)
def jO.ce_r:LC:=⟨jO.ce_s,[(jO.ce_s,2,[1,202])],no,[1,2],[0,1,2],@jO.ce_,fun _ _ _ _ _=>jf (ja fun _=>jb) jb⟩
def jO (n:Int) (uk:List (Bool×(List Int))):Option ((List (Bool×(List Int)))×Unit):=
  bnd (iter (fun s↦jO.ce_ n s.1 s.2 some) ((0:Int),uk)) fun y=>
  some (y.2,())
def jO.mc:MCallee:=⟨91,jO.pre,jO.post,fun X=>jO X.1 X.2.1⟩
def jO.G:EB Tryz.prog:=⟨tb,Tryz.f91,[⟨126,whole_Int_Shift.ce,whole_Int_Shift.ok⟩],[0,1,4,5,6,7,8,12],[2000700],[(6,[(15,[2000700])])],[(100001,jO.ce_r.ck),(100004,jO.cc_r.ck),(6,jO.c6r.ck)],[],[]⟩
theorem jO.ok:MOk Tryz.prog 91 jO.mc:=fnM jO.G (mc:=jO.mc) Tryz.func91 (m:=3) ⟨⟨⟨trivial,kL jO.ce_r (by kernel_rfl)⟩,kL jO.cc_r (by kernel_rfl)⟩,kR jO.c6r (by kernel_rfl)⟩ (by kernel_rfl)
abbrev sa54:SD:=.one (.aptr 2 0)
def jC.c5 (twos:Int)(any:Bool)(x0:Bool)(x1:List (Int))(Z:Bool→Option ρ):Option ρ:=
  bnd (whole_Int_Sign (x0,x1)) fun y=>
  br (y !=0)
   (br (!any)
     (Z true)
     (bnd (whole_Int_Twos (x0,x1)) fun y1=>
      Z (decide (y1<twos))))
   (Z false)
def jC.c5s:Shape:=⟨[(0,sa27),(1,sa2),(2,sa54),(4,sa25),(5,sa2),(6,sa11),(8,sa51),(10,sa27),(11,sa2)],[(2,sa53),(4,sa28),(8,sa21)]⟩
def jC.c5x0:Shape:=(jC.c5s.s 26 sa11)
def jC.c5r:RC:=⟨jC.c5s,[(jC.c5x0,0,[6,101])],no,[2,3,8,9],@jC.c5,fun _ _ _ _ _ _=>ja fun _=>(jf (jf jb (ja fun _=>jb)) jb)⟩
def jC.cj_ (twos:Int)(any:Bool)(t10:List (Bool×(List Int)))(t11:Int)(Z:(Int)×Bool→Option ρ):Option ρ:=
  bnd (idx t10 t11) fun y=>
  bnd (jC.c5 twos any y.1 y.2 some) fun y1=>
  br y1
   (bnd (whole_Int_Twos (y.1,y.2)) fun y2=>
    Z (y2,true))
   (Z (twos,any))
def jC.cj_s:Shape:=((jC.c5s.d 8).g 8)
def jC.cj_r:RC:=⟨jC.cj_s,[(jC.cj_s,0,[2,202])],no,[2,3,4,5],@jC.cj_,fun _ _ _ _ _ _=>ja fun _=>(ja fun _=>(jf (ja fun _=>jb) jb))⟩
def jC.ca_ (twos:Int)(any:Bool)(t10:List (Bool×(List Int)))(t11:Int)(Z:((Int)×Bool×(Int))⊕((Int)×Bool×(Int))→Option ρ):Option ρ:=
  br (decide (t11<8))
   (bnd (jC.cj_ twos any t10 t11 some) fun y=>
    Z (.inl (y.1,y.2,(i64.wrap (t11+1)))))
   (Z (.inr (twos,any,t11)))
def jC.ca_r:LC:=⟨jC.cj_s,[(jC.cj_s,2,[2,202,1,201])],no,[2,3,5],[2,3,4,5],@jC.ca_,fun _ _ _ _ _ _=>jf (ja fun _=>jb) jb⟩
def jC.cQ_ (e:Int)(twos:Int)(c_1:List (Bool×(List Int)))(Z:(Int)×(List (Bool×(List Int)))→Option ρ):Option ρ:=
  br (Min.min twos e !=0)
   (bnd (jO (Min.min twos e) c_1) fun y=>
    Z ((i64.wrap (e-Min.min twos e)),y.1))
   (Z (e,c_1))
def jC.cQ_r:RC:=⟨jC.cj_s,[(jC.cj_s,0,[1,201,4,201])],no,[1,2,6],@jC.cQ_,fun _ _ _ _ _=>jf (ja fun _=>jb) jb⟩
def jC (c:List (Bool×(List Int))) (e:Int):Option YN:=
  bnd (okIf (decide (c.length=8))) fun y=>
  bnd (iter (fun s↦jC.ca_ s.1 s.2.1 c s.2.2 some) ((0:Int),false,(0:Int))) fun y1=>
  br (!y1.2.1)
   (some (List.replicate (8:Nat) (false,[]),(0:Int)))
   (bnd (jC.cQ_ e y1.1 c some) fun y2=>
    bnd (okIf (decide (List.length y2.2=8))) fun y3=>
    some (y2.2,y2.1))
def jC.ce:=ceOf tab Tryz.f90 jC
def jC.G:EB Tryz.prog:=⟨tb,Tryz.f90,[⟨60,whole_Int_Sign.ce,whole_Int_Sign.ok⟩,⟨125,whole_Int_Twos.ce,whole_Int_Twos.ok⟩],[0,1,2,4,5,6,8,9,10,11,12,26,31,37],[2,4,32,45],[],[(240969,jC.cQ_r.ck),(100003,jC.ca_r.ck),(216392,jC.cj_r.ck),(5,jC.c5r.ck)],[⟨91,jO.mc,jO.ok⟩],[]⟩
theorem jC.ok:CalleeOk Tryz.prog 90 jC.ce:=fnB jC.G Tryz.func90 (m:=4) ⟨⟨⟨⟨trivial,kL jC.ca_r (by kernel_rfl)⟩,kJ jC.cj_r (by kernel_rfl)⟩,kR jC.c5r (by kernel_rfl)⟩,kJ jC.cQ_r (by kernel_rfl)⟩ (by kernel_rfl)
abbrev sa55:SD:=.one (.aptr 3 0)
def jz.cH_ (a_1:List YN)(b_1:List YN)(Z:(List YN)×(List YN)→Option ρ):Option ρ:=
  bnd (inR (a_1.length) (0:Int)) fun y=>
  bnd (idx a_1 (0:Int)) fun y1=>
  bnd (inR (b_1.length) (0:Int)) fun y2=>
  bnd (idx b_1 (0:Int)) fun y3=>
  br (decide (y1.2<y3.2))
   (bnd (inR (a_1.length) (0:Int)) fun y4=>
    bnd (inR (a_1.length) (0:Int)) fun y5=>
    bnd (idx a_1 (0:Int)) fun y6=>
    bnd (inR (b_1.length) (0:Int)) fun y7=>
    bnd (idx b_1 (0:Int)) fun y8=>
    bnd (ju (i64.wrap (y6.2-y8.2)) a_1) fun y9=>
    bnd (inR (b_1.length) (0:Int)) fun y10=>
    bnd (idx b_1 (0:Int)) fun y11=>
    bnd (inR (List.length y9.1) (0:Int)) fun y12=>
    bnd (idx y9.1 (0:Int)) fun y13=>
    Z ((List.set y9.1 (0:Nat) (y13.1,y11.2)),b_1))
   (bnd (inR (b_1.length) (0:Int)) fun y14=>
    bnd (idx b_1 (0:Int)) fun y15=>
    bnd (inR (a_1.length) (0:Int)) fun y16=>
    bnd (idx a_1 (0:Int)) fun y17=>
    br (decide (y15.2<y17.2))
     (bnd (inR (b_1.length) (0:Int)) fun y18=>
      bnd (inR (b_1.length) (0:Int)) fun y19=>
      bnd (idx b_1 (0:Int)) fun y20=>
      bnd (inR (a_1.length) (0:Int)) fun y21=>
      bnd (idx a_1 (0:Int)) fun y22=>
      bnd (ju (i64.wrap (y20.2-y22.2)) b_1) fun y23=>
      Z (a_1,y23.1))
     (Z (a_1,b_1)))
def jz.cH_s:Shape:=⟨[(0,sa23),(1,sa23),(2,sa54),(3,sa55),(4,sa25)],[(2,sa28),(3,sa28),(4,sa28)]⟩
def jz.cH_r:RC:=⟨jz.cH_s,[(jz.cH_s,0,[2,202])],no,[2,3],@jz.cH_,fun _ _ _ _=>ja fun _=>(ja fun _=>(ja fun _=>(ja fun _=>(jf (ja fun _=>(ja fun _=>(ja fun _=>(ja fun _=>(ja fun _=>(ja fun _=>(ja fun _=>(ja fun _=>(ja fun _=>(ja fun _=>jb)))))))))) (ja fun _=>(ja fun _=>(ja fun _=>(ja fun _=>(jf (ja fun _=>(ja fun _=>(ja fun _=>(ja fun _=>(ja fun _=>(ja fun _=>jb)))))) jb)))))))))⟩
def jz.c9 (i:Int)(a_1:List YN)(b_1:List YN)(Z:List YN→Option ρ):Option ρ:=
  bnd (inR (a_1.length) (0:Int)) fun y=>
  bnd (okIf (decide ((0:Ty.den (Ty.int IntKind.i64))≤i)&&decide (i<(↑(8:Nat):Int)))) fun y1=>
  bnd (idx a_1 (0:Int)) fun y2=>
  bnd (idx y2.1 i) fun y3=>
  bnd (inR (b_1.length) (0:Int)) fun y4=>
  bnd (okIf (decide ((0:Ty.den (Ty.int IntKind.i64))≤i)&&decide (i<(↑(8:Nat):Int)))) fun y5=>
  bnd (idx b_1 (0:Int)) fun y6=>
  bnd (idx y6.1 i) fun y7=>
  bnd (whole_Int_Add y3 y7) fun y8=>
  bnd (inR (a_1.length) (0:Int)) fun y9=>
  bnd (okIf (decide ((0:Ty.den (Ty.int IntKind.i64))≤i)&&decide (i<(↑(8:Nat):Int)))) fun y10=>
  bnd (idx a_1 (0:Int)) fun y11=>
  bnd (idx y11.1 i) fun y12=>
  Z (List.set a_1 (0:Nat) (List.set y11.1 (Int.toNat i) y8,y11.2))
def jz.c9s:Shape:=((jz.cH_s.s 5 sa2).s 35 sa2)
def jz.c9r:RC:=⟨jz.c9s,[(jz.c9s,0,[4,201])],no,[2,4,5],@jz.c9,fun _ _ _ _ _=>ja fun _=>(ja fun _=>(ja fun _=>(ja fun _=>(ja fun _=>(ja fun _=>(ja fun _=>(ja fun _=>(ja fun _=>(ja fun _=>(ja fun _=>(ja fun _=>(ja fun _=>jb))))))))))))⟩
def jz.cg_ (t35:Int)(a_1:List YN)(b_1:List YN)(Z:((Int)×(List YN))⊕((Int)×(List YN))→Option ρ):Option ρ:=
  br (decide (t35<8))
   (bnd (jz.c9 t35 a_1 b_1 some) fun y=>
    Z (.inl ((i64.wrap (t35+1)),y)))
   (Z (.inr (t35,a_1)))
def jz.cg_s:Shape:=(jz.c9s.d 5)
def jz.cg_r:LC:=⟨jz.cg_s,[(jz.cg_s,3,[2,202])],no,[2,3],[2,3,4],@jz.cg_,fun _ _ _ _ _=>jf (ja fun _=>jb) jb⟩
def jz (a:YN) (b:YN):Option YN:=
  bnd (jz.cH_ [a] [b] some) fun y=>
  bnd (iter (fun s↦jz.cg_ s.1 s.2 y.2 some) ((0:Int),y.1)) fun y1=>
  bnd (inR (List.length y1.2) (0:Int)) fun y2=>
  bnd (idx y1.2 (0:Int)) fun y3=>
  bnd (inR (List.length y1.2) (0:Int)) fun y4=>
  bnd (idx y1.2 (0:Int)) fun y5=>
  bnd (jC y3.1 y5.2) fun y6=>
  some y6
def jz.ce:=ceOf tab Tryz.f59 jz
def jz.G:EB Tryz.prog:=⟨tb,Tryz.f59,[⟨92,whole_Int_Add.ce,whole_Int_Add.ok⟩,⟨90,jC.ce,jC.ok⟩],[0,1,2,3,4,5,6,22,35,36],[2,3,4],[(9,[(12,[2])])],[(100007,jz.cg_r.ck),(9,jz.c9r.ck),(204108,jz.cH_r.ck)],[⟨91,ju.mc,ju.ok⟩],[]⟩
theorem jz.ok:CalleeOk Tryz.prog 59 jz.ce:=fnB jz.G Tryz.func59 (m:=3) ⟨⟨⟨trivial,kJ jz.cH_r (by kernel_rfl)⟩,kL jz.cg_r (by kernel_rfl)⟩,kR jz.c9r (by kernel_rfl)⟩ (by kernel_rfl)
def kT (a:YN):Option YN:=
  bnd (jB a (8:Int)) fun y=>
  some y
def kT.ce:=ceOf tab Tryz.f164 kT
def kT.G:EB Tryz.prog:=⟨tb,Tryz.f164,[⟨134,jB.ce,jB.ok⟩],[0,1,2],[2,8000001],[],[],[],[]⟩
theorem kT.ok:CalleeOk Tryz.prog 164 kT.ce:=fnB kT.G Tryz.func164 (m:=0) trivial (by kernel_rfl)
def Jv.c1 (a_1:YN)(b_1:YN)(t4:List YN)(Z:List YN→Option ρ):Option ρ:=
  bnd (kT b_1) fun y=>
  bnd (jz a_1 y) fun y1=>
  bnd (idx t4 (0:Int)) fun y2=>
  Z (List.set t4 (0:Nat) y1)
def Jv.c1s:Shape:=⟨[(0,sa23),(1,sa23),(2,sa24),(3,sa24),(4,sa25)],[(4,sa28)]⟩
def Jv.c1r:RC:=⟨Jv.c1s,[(Jv.c1s,0,[4,201])],no,[2,3,4],@Jv.c1,fun _ _ _ _ _=>ja fun _=>(ja fun _=>(ja fun _=>jb))⟩
def Jv (a:YN) (b:YN):Option YN:=
  bnd (Jv.c1 a b [(List.replicate (8:Nat) (false,[]),(0:Int))] some) fun y=>
  bnd (idx y (0:Int)) fun y1=>
  some y1
def Jv.ce:=ceOf tab Tryz.f137 Jv
def Jv.G:EB Tryz.prog:=⟨tb,Tryz.f137,[⟨164,kT.ce,kT.ok⟩,⟨59,jz.ce,jz.ok⟩],[0,1,2,3,4],[4,8000002,8000003],[(1,[(4,[4])])],[(1,Jv.c1r.ck)],[],[]⟩
theorem Jv.ok:CalleeOk Tryz.prog 137 Jv.ce:=fnB Jv.G Tryz.func137 (m:=1) ⟨trivial,kR Jv.c1r (by kernel_rfl)⟩ (by kernel_rfl)
def Jl.c1 (a_1:YN)(Z:List YN→Option ρ):Option ρ:=
  bnd (jB a_1 (2:Int)) fun y=>
  bnd (jB a_1 (6:Int)) fun y1=>
  bnd (Jv y y1) fun y2=>
  Z [y2]
def Jl.c1s:Shape:=⟨[(0,sa23),(1,sa24),(2,sa54)],[(2,sa28)]⟩
def Jl.c1x0:Shape:=((Jl.c1s.s 3 sa55).o 3 sa28)
def Jl.c1r:RC:=⟨Jl.c1s,[(Jl.c1x0,0,[3,101])],no,[1],@Jl.c1,fun _ _ _=>ja fun _=>(ja fun _=>(ja fun _=>jb))⟩
def Jl (a:YN):Option YN:=
  bnd (Jl.c1 a some) fun y=>
  bnd (inR (y.length) (0:Int)) fun y1=>
  bnd (idx y (0:Int)) fun y2=>
  bnd (inR (y.length) (0:Int)) fun y3=>
  bnd (idx y (0:Int)) fun y4=>
  bnd (jC y2.1 (i64.wrap (y4.2+1))) fun y5=>
  some y5
def Jl.ce:=ceOf tab Tryz.f136 Jl
def Jl.G:EB Tryz.prog:=⟨tb,Tryz.f136,[⟨134,jB.ce,jB.ok⟩,⟨137,Jv.ce,Jv.ok⟩,⟨90,jC.ce,jC.ok⟩],[0,1,2,3],[2,3,8000001],[(1,[(5,[3]),(6,[3])])],[(1,Jl.c1r.ck)],[],[]⟩
theorem Jl.ok:CalleeOk Tryz.prog 136 Jl.ce:=fnB Jl.G Tryz.func136 (m:=1) ⟨trivial,kR Jl.c1r (by kernel_rfl)⟩ (by kernel_rfl)
abbrev sa56:SO:=.box [.win 2000000 0]
abbrev sa57:SO:=.box [.val (.int .i64)]
abbrev sa58:SD:=.one (.clo 44)
abbrev sa59:SD:=.one (.clo 62)
abbrev sa60:SD:=.one (.clo 88)
abbrev sa61:SD:=.one (.aptr 10 0)
abbrev sa62:SD:=.one (.aptr 11 0)
def jd.pre:Shape:=⟨[(0,sa40),(1,sa12)],[(2000000,sa28)]⟩
def jd.post:Shape:=⟨[],[(2000000,sa28)]⟩
def jd.c1 (o2:List (Int))(o3:Int)(Z:Int→Option ρ):Option ρ:=
  bnd (JL o2) fun y=>
  bnd (okIf (decide ((0:Int)≤o3))) fun y1=>
  Z y
def jd.c1s:Shape:=⟨[(0,sa40),(1,sa12),(2,sa6),(3,sa7)],[(2,sa56),(3,sa14),(2000000,sa28)]⟩
def jd.c1x0:Shape:=⟨[(0,sa40),(1,sa12),(2,sa6),(3,sa7),(4,sa2),(5,sa34)],[(2,sa56),(3,sa14),(5,sa57),(2000000,sa28)]⟩
def jd.c1r:Ck:=Ck.of (T:=Int) jd.c1s (fun ρ X Z=>jd.c1 (q4 X).2.2.2.1 (q8 X).1 Z) (fun ρ X V Z=>Z 0 (Shape.inj jd.c1x0 (X.1,X.2.1,X.2.2.1,V,X.2.2.2.1,(q4 X).1,(q4 X).2.1,(q4 X).2.2.1,(q4 X).2.2.2.1,(q8 X).1,(q8 X).2.1,(q8 X).2.2.1,(i64.wrap ((1:Int)*2^Min.min (Int.toNat (q8 X).1) (64:Nat))),(q8 X).2.2.2)))
def jd.c7 (x:Int)(v0lo:Int)(v0n:Int)(o1:Int)(uj:List YN)(Z:List YN→Option ρ):Option ρ:=
  bnd (okIf (decide ((0:Ty.den (Ty.int IntKind.i64))≤x)&&decide (x<v0n))) fun y=>
  bnd (idx uj (v0lo+x)) fun y1=>
  bnd (jB y1 o1) fun y2=>
  bnd (okIf (decide ((0:Ty.den (Ty.int IntKind.i64))≤x)&&decide (x<v0n))) fun y3=>
  bnd (idx uj (v0lo+x)) fun y4=>
  Z (List.set uj (Int.toNat (v0lo+x)) y2)
def jd.c7s:Shape:=⟨[(0,sa40),(1,sa12),(2,sa6),(3,sa7),(4,sa2),(5,sa34),(6,sa2),(19,sa2),(23,sa2),(24,sa2)],[(2,sa56),(3,sa14),(5,sa57),(2000000,sa28)]⟩
def jd.c7r:Ck:=Ck.of (T:=List YN) jd.c7s (fun ρ X Z=>jd.c7 (q4 X).1 (q8 X).1 (q8 X).2.1 (q8 X).2.2.2.1 (q8 (q8 X)).2.1 Z) (fun ρ X V Z=>Z 0 (Shape.inj jd.c7s (X.1,X.2.1,X.2.2.1,X.2.2.2.1,(q4 X).1,(q4 X).2.1,(q4 X).2.2.1,(q4 X).2.2.2.1,(q8 X).1,(q8 X).2.1,(q8 X).2.2.1,(q8 X).2.2.2.1,(q4 (q8 X)).1,(q4 (q8 X)).2.1,(q4 (q8 X)).2.2.1,(q4 (q8 X)).2.2.2.1,(q8 (q8 X)).1,V,())))
def jd.cd_ (t23:Int)(t24:Int)(v0lo:Int)(v0n:Int)(o1:Int)(uj:List YN)(Z:((Int)×(List YN))⊕((Int)×(List YN))→Option ρ):Option ρ:=
  br (decide (t24<t23))
   (bnd (jd.c7 t24 v0lo v0n o1 uj some) fun y=>
    Z (.inl ((i64.wrap (t24+1)),y)))
   (Z (.inr (t24,uj)))
def jd.cd_s:Shape:=⟨[(0,sa40),(1,sa12),(2,sa6),(3,sa7),(4,sa2),(5,sa34),(19,sa2),(23,sa2),(24,sa2)],[(2,sa56),(3,sa14),(5,sa57),(2000000,sa28)]⟩
def jd.cd_r:Ck:=Ck.ofLoop (S:=(Int)×(List YN)) (T:=(Int)×(List YN)) jd.cd_s (fun X=>((q4 X).2.2.1,(q8 (q8 X)).1)) (fun ρ X Q Z=>jd.cd_ (q4 X).2.1 Q.1 (q4 X).2.2.2.1 (q8 X).1 (q8 X).2.2.1 Q.2 Z) (fun ρ X V Z=>Z 3 (Shape.inj jd.cd_s (X.1,X.2.1,X.2.2.1,X.2.2.2.1,(q4 X).1,(q4 X).2.1,V.1,(q4 X).2.2.2.1,(q8 X).1,(q8 X).2.1,(q8 X).2.2.1,(q8 X).2.2.2.1,(q4 (q8 X)).1,(q4 (q8 X)).2.1,(q4 (q8 X)).2.2.1,(q4 (q8 X)).2.2.2.1,V.2,())))
def jd.c12 (x:Int)(v0lo:Int)(v0n:Int)(o1:Int)(uj:List YN)(Z:List YN→Option ρ):Option ρ:=
  bnd (okIf (decide ((0:Ty.den (Ty.int IntKind.i64))≤x)&&decide (x<v0n))) fun y=>
  bnd (idx uj (v0lo+x)) fun y1=>
  bnd (jB y1 o1) fun y2=>
  bnd (okIf (decide ((0:Ty.den (Ty.int IntKind.i64))≤x)&&decide (x<v0n))) fun y3=>
  bnd (idx uj (v0lo+x)) fun y4=>
  Z (List.set uj (Int.toNat (v0lo+x)) y2)
def jd.c12s:Shape:=⟨[(0,sa40),(1,sa12),(2,sa6),(3,sa7),(4,sa2),(5,sa34),(7,sa2),(19,sa2),(44,sa58),(45,sa2)],[(2,sa56),(3,sa14),(5,sa57),(44,sa42),(2000000,sa28)]⟩
def jd.c12r:Ck:=Ck.of (T:=List YN) jd.c12s (fun ρ X Z=>jd.c12 (q4 X).1 (q4 X).2.2.2.1 (q8 X).1 (q8 X).2.2.1 (q8 (q8 X)).2.2.1 Z) (fun ρ X V Z=>Z 0 (Shape.inj jd.c12s (X.1,X.2.1,X.2.2.1,X.2.2.2.1,(q4 X).1,(q4 X).2.1,(q4 X).2.2.1,(q4 X).2.2.2.1,(q8 X).1,(q8 X).2.1,(q8 X).2.2.1,(q8 X).2.2.2.1,(q4 (q8 X)).1,(q4 (q8 X)).2.1,(q4 (q8 X)).2.2.1,(q4 (q8 X)).2.2.2.1,(q8 (q8 X)).1,(q8 (q8 X)).2.1,V,())))
def jd.cF_ (ua:List (Int))(v0lo:Int)(v0n:Int)(o1:Int)(uj:List YN)(Z:((List Int)×(List YN))⊕(List YN)→Option ρ):Option ρ:=
  br (List.isEmpty ua)
   (Z (.inr uj))
   (bnd (idx ua (0:Int)) fun y=>
    bnd (jd.c12 y v0lo v0n o1 uj some) fun y1=>
    Z (.inl ((List.drop (1:Nat) ua),y1)))
def jd.cF_s:Shape:=⟨[(0,sa40),(1,sa12),(2,sa6),(3,sa7),(4,sa2),(5,sa34),(19,sa2),(44,sa58),(10000000,sa0)],[(2,sa56),(3,sa14),(5,sa57),(44,sa42),(2000000,sa28)]⟩
def jd.cF_x0:Shape:=⟨[(0,sa40),(1,sa12),(2,sa6),(3,sa7),(4,sa2),(5,sa34),(19,sa2),(44,sa58)],[(2,sa56),(3,sa14),(5,sa57),(44,sa42),(2000000,sa28)]⟩
def jd.cF_r:Ck:=Ck.ofLoop (S:=(List Int)×(List YN)) (T:=List YN) jd.cF_s (fun X=>((q4 X).2.1,(q8 (q8 X)).2.1)) (fun ρ X Q Z=>jd.cF_ Q.1 (q4 X).2.2.1 (q4 X).2.2.2.1 (q8 X).2.1 Q.2 Z) (fun ρ X V Z=>Z 0 (Shape.inj jd.cF_x0 (X.1,X.2.1,X.2.2.1,X.2.2.2.1,(q4 X).1,(q4 X).2.2.1,(q4 X).2.2.2.1,(q8 X).1,(q8 X).2.1,(q8 X).2.2.1,(q8 X).2.2.2.1,(q4 (q8 X)).1,(q4 (q8 X)).2.1,(q4 (q8 X)).2.2.1,(q4 (q8 X)).2.2.2.1,(q8 (q8 X)).1,V,())))
def jd.c16 (x:Int)(v0lo:Int)(v0n:Int)(bit0:Int)(uj:List YN)(Z:List YN→Option ρ):Option ρ:=
  bnd (okIf (decide ((0:Ty.den (Ty.int IntKind.i64))≤ibits BinOp.xor IntKind.i64 x bit0)&&decide (ibits BinOp.xor IntKind.i64 x bit0<v0n))) fun y=>
  bnd (idx uj (v0lo+ibits BinOp.xor IntKind.i64 x bit0)) fun y1=>
  bnd (okIf (decide ((0:Ty.den (Ty.int IntKind.i64))≤x)&&decide (x<v0n))) fun y2=>
  bnd (idx uj (v0lo+x)) fun y3=>
  bnd (okIf (decide ((0:Ty.den (Ty.int IntKind.i64))≤x)&&decide (x<v0n))) fun y4=>
  bnd (idx uj (v0lo+x)) fun y5=>
  bnd (okIf (decide ((0:Ty.den (Ty.int IntKind.i64))≤ibits BinOp.xor IntKind.i64 x bit0)&&decide (ibits BinOp.xor IntKind.i64 x bit0<v0n))) fun y6=>
  bnd (idx (List.set uj (Int.toNat (v0lo+x)) y1) (v0lo+ibits BinOp.xor IntKind.i64 x bit0)) fun y7=>
  Z (List.set (List.set uj (Int.toNat (v0lo+x)) y1) (Int.toNat (v0lo+ibits BinOp.xor IntKind.i64 x bit0)) y3)
def jd.c16s:Shape:=⟨[(0,sa40),(1,sa12),(2,sa6),(3,sa7),(4,sa2),(5,sa34),(8,sa2),(19,sa2),(62,sa59),(63,sa2)],[(2,sa56),(3,sa14),(5,sa57),(62,sa42),(2000000,sa28)]⟩
def jd.c16r:Ck:=Ck.of (T:=List YN) jd.c16s (fun ρ X Z=>jd.c16 (q4 X).1 (q4 X).2.2.2.1 (q8 X).1 (q4 (q8 X)).2.2.2.1 (q8 (q8 X)).2.2.1 Z) (fun ρ X V Z=>Z 0 (Shape.inj jd.c16s (X.1,X.2.1,X.2.2.1,X.2.2.2.1,(q4 X).1,(q4 X).2.1,(q4 X).2.2.1,(q4 X).2.2.2.1,(q8 X).1,(q8 X).2.1,(q8 X).2.2.1,(q8 X).2.2.2.1,(q4 (q8 X)).1,(q4 (q8 X)).2.1,(q4 (q8 X)).2.2.1,(q4 (q8 X)).2.2.2.1,(q8 (q8 X)).1,(q8 (q8 X)).2.1,V,())))
def jd.cG_ (ua:List (Int))(v0lo:Int)(v0n:Int)(bit0:Int)(uj:List YN)(Z:((List Int)×(List YN))⊕(List YN)→Option ρ):Option ρ:=
  br (List.isEmpty ua)
   (Z (.inr uj))
   (bnd (idx ua (0:Int)) fun y=>
    bnd (jd.c16 y v0lo v0n bit0 uj some) fun y1=>
    Z (.inl ((List.drop (1:Nat) ua),y1)))
def jd.cG_s:Shape:=⟨[(0,sa40),(1,sa12),(2,sa6),(3,sa7),(4,sa2),(5,sa34),(19,sa2),(62,sa59),(10000000,sa0)],[(2,sa56),(3,sa14),(5,sa57),(62,sa42),(2000000,sa28)]⟩
def jd.cG_x0:Shape:=⟨[(0,sa40),(1,sa12),(2,sa6),(3,sa7),(4,sa2),(5,sa34),(19,sa2),(62,sa59)],[(2,sa56),(3,sa14),(5,sa57),(62,sa42),(2000000,sa28)]⟩
def jd.cG_r:Ck:=Ck.ofLoop (S:=(List Int)×(List YN)) (T:=List YN) jd.cG_s (fun X=>((q4 X).2.1,(q8 (q8 X)).2.1)) (fun ρ X Q Z=>jd.cG_ Q.1 (q4 X).2.2.1 (q4 X).2.2.2.1 (q4 (q8 X)).2.2.1 Q.2 Z) (fun ρ X V Z=>Z 0 (Shape.inj jd.cG_x0 (X.1,X.2.1,X.2.2.1,X.2.2.2.1,(q4 X).1,(q4 X).2.2.1,(q4 X).2.2.2.1,(q8 X).1,(q8 X).2.1,(q8 X).2.2.1,(q8 X).2.2.2.1,(q4 (q8 X)).1,(q4 (q8 X)).2.1,(q4 (q8 X)).2.2.1,(q4 (q8 X)).2.2.2.1,(q8 (q8 X)).1,V,())))
def jd.c20 (x:Int)(v0lo:Int)(v0n:Int)(bit0:Int)(uj:List YN)(Z:(List YN)×(List YN)→Option ρ):Option ρ:=
  bnd (okIf (decide ((0:Ty.den (Ty.int IntKind.i64))≤ibits BinOp.xor IntKind.i64 x bit0)&&decide (ibits BinOp.xor IntKind.i64 x bit0<v0n))) fun y=>
  bnd (idx uj (v0lo+ibits BinOp.xor IntKind.i64 x bit0)) fun y1=>
  bnd (okIf (decide ((0:Ty.den (Ty.int IntKind.i64))≤x)&&decide (x<v0n))) fun y2=>
  bnd (idx uj (v0lo+x)) fun y3=>
  Z ([y1],[y3])
def jd.c20s:Shape:=⟨[(0,sa40),(1,sa12),(2,sa6),(3,sa7),(4,sa2),(5,sa34),(9,sa2),(19,sa2),(88,sa60),(89,sa2)],[(2,sa56),(3,sa14),(5,sa57),(88,sa42),(2000000,sa28)]⟩
def jd.c20x0:Shape:=⟨[(0,sa40),(1,sa12),(2,sa6),(3,sa7),(4,sa2),(5,sa34),(9,sa2),(10,sa61),(11,sa62),(19,sa2),(88,sa60),(89,sa2)],[(2,sa56),(3,sa14),(5,sa57),(10,sa28),(11,sa28),(88,sa42),(2000000,sa28)]⟩
def jd.c20r:Ck:=Ck.of (T:=(List YN)×(List YN)) jd.c20s (fun ρ X Z=>jd.c20 (q4 X).1 (q4 X).2.2.2.1 (q8 X).1 (q4 (q8 X)).2.2.2.1 (q8 (q8 X)).2.2.1 Z) (fun ρ X V Z=>Z 0 (Shape.inj jd.c20x0 (X.1,X.2.1,X.2.2.1,X.2.2.2.1,(q4 X).1,(q4 X).2.1,(q4 X).2.2.1,(q4 X).2.2.2.1,(q8 X).1,(q8 X).2.1,(q8 X).2.2.1,(q8 X).2.2.2.1,(q4 (q8 X)).1,(q4 (q8 X)).2.1,(q4 (q8 X)).2.2.1,(q4 (q8 X)).2.2.2.1,V.1,V.2,(q8 (q8 X)))))
def jd.c21 (a:List YN)(b:List YN)(Z:Bool→Option ρ):Option ρ:=
  bnd (idx a (0:Int)) fun y=>
  bnd (jT y) fun y1=>
  br y1
   (bnd (idx b (0:Int)) fun y2=>
    bnd (jT y2) fun y3=>
    Z y3)
   (Z false)
def jd.c21x0:Shape:=⟨[(0,sa40),(1,sa12),(2,sa6),(3,sa7),(4,sa2),(5,sa34),(9,sa2),(10,sa61),(11,sa62),(19,sa2),(88,sa60),(89,sa2),(105,sa11)],[(2,sa56),(3,sa14),(5,sa57),(10,sa28),(11,sa28),(88,sa42),(2000000,sa28)]⟩
def jd.c21r:Ck:=Ck.of (T:=Bool) jd.c20x0 (fun ρ X Z=>jd.c21 (q8 (q8 X)).1 (q8 (q8 X)).2.1 Z) (fun ρ X V Z=>Z 0 (Shape.inj jd.c21x0 (X.1,X.2.1,X.2.2.1,X.2.2.2.1,(q4 X).1,(q4 X).2.1,(q4 X).2.2.1,V,(q4 X).2.2.2)))
def jd.c22 (x:Int)(v0lo:Int)(v0n:Int)(bit0:Int)(a:List YN)(b:List YN)(uj:List YN)(Z:List YN→Option ρ):Option ρ:=
  bnd (idx a (0:Int)) fun y=>
  bnd (idx b (0:Int)) fun y1=>
  bnd (jz y y1) fun y2=>
  bnd (Jl y2) fun y3=>
  bnd (idx a (0:Int)) fun y4=>
  bnd (idx b (0:Int)) fun y5=>
  bnd (Jv y4 y5) fun y6=>
  bnd (Jl y6) fun y7=>
  bnd (okIf (decide ((0:Ty.den (Ty.int IntKind.i64))≤ibits BinOp.xor IntKind.i64 x bit0)&&decide (ibits BinOp.xor IntKind.i64 x bit0<v0n))) fun y8=>
  bnd (idx uj (v0lo+ibits BinOp.xor IntKind.i64 x bit0)) fun y9=>
  bnd (okIf (decide ((0:Ty.den (Ty.int IntKind.i64))≤x)&&decide (x<v0n))) fun y10=>
  bnd (idx (List.set uj (Int.toNat (v0lo+ibits BinOp.xor IntKind.i64 x bit0)) y3) (v0lo+x)) fun y11=>
  Z (List.set (List.set uj (Int.toNat (v0lo+ibits BinOp.xor IntKind.i64 x bit0)) y3) (Int.toNat (v0lo+x)) y7)
def jd.c22r:Ck:=Ck.of (T:=List YN) jd.c20x0 (fun ρ X Z=>jd.c22 (q4 X).1 (q4 X).2.2.2.1 (q8 X).1 (q4 (q8 X)).2.2.2.1 (q8 (q8 X)).1 (q8 (q8 X)).2.1 (q4 (q8 (q8 X))).1 Z) (fun ρ X V Z=>Z 0 (Shape.inj jd.c20x0 (X.1,X.2.1,X.2.2.1,X.2.2.2.1,(q4 X).1,(q4 X).2.1,(q4 X).2.2.1,(q4 X).2.2.2.1,(q8 X).1,(q8 X).2.1,(q8 X).2.2.1,(q8 X).2.2.2.1,(q4 (q8 X)).1,(q4 (q8 X)).2.1,(q4 (q8 X)).2.2.1,(q4 (q8 X)).2.2.2.1,(q8 (q8 X)).1,(q8 (q8 X)).2.1,(q8 (q8 X)).2.2.1,(q8 (q8 X)).2.2.2.1,V,())))
def jd.cA_ (ua:List (Int))(v0lo:Int)(v0n:Int)(bit0:Int)(uj:List YN)(Z:((List Int)×(List YN))⊕(List YN)→Option ρ):Option ρ:=
  br (List.isEmpty ua)
   (Z (.inr uj))
   (bnd (idx ua (0:Int)) fun y=>
    bnd (jd.c20 y v0lo v0n bit0 uj some) fun y1=>
    bnd (jd.c21 y1.1 y1.2 some) fun y2=>
    br y2
     (Z (.inl ((List.drop (1:Nat) ua),uj)))
     (bnd (jd.c22 y v0lo v0n bit0 y1.1 y1.2 uj some) fun y3=>
      Z (.inl ((List.drop (1:Nat) ua),y3))))
def jd.cA_s:Shape:=⟨[(0,sa40),(1,sa12),(2,sa6),(3,sa7),(4,sa2),(5,sa34),(19,sa2),(88,sa60),(10000000,sa0)],[(2,sa56),(3,sa14),(5,sa57),(88,sa42),(2000000,sa28)]⟩
def jd.cA_x0:Shape:=⟨[(0,sa40),(1,sa12),(2,sa6),(3,sa7),(4,sa2),(5,sa34),(19,sa2),(88,sa60)],[(2,sa56),(3,sa14),(5,sa57),(88,sa42),(2000000,sa28)]⟩
def jd.cA_r:Ck:=Ck.ofLoop (S:=(List Int)×(List YN)) (T:=List YN) jd.cA_s (fun X=>((q4 X).2.1,(q8 (q8 X)).2.1)) (fun ρ X Q Z=>jd.cA_ Q.1 (q4 X).2.2.1 (q4 X).2.2.2.1 (q4 (q8 X)).2.2.1 Q.2 Z) (fun ρ X V Z=>Z 0 (Shape.inj jd.cA_x0 (X.1,X.2.1,X.2.2.1,X.2.2.2.1,(q4 X).1,(q4 X).2.2.1,(q4 X).2.2.2.1,(q8 X).1,(q8 X).2.1,(q8 X).2.2.1,(q8 X).2.2.2.1,(q4 (q8 X)).1,(q4 (q8 X)).2.1,(q4 (q8 X)).2.2.1,(q4 (q8 X)).2.2.2.1,(q8 (q8 X)).1,V,())))
def jd (vlo:Int) (vn:Int) (o:YO) (uj:List YN):Option ((List YN)×Unit):=
  bnd (jd.c1 o.2.2.1 o.2.2.2.1 some) fun y=>
  br (o.1==1)
   (bnd (iter (fun s↦jd.cd_ (↑(List.length (part vlo vn uj)):Int) s.1 vlo vn o.2.1 s.2 some) ((0:Int),uj)) fun y1=>
    some (y1.2,()))
   (br (o.1==4)
     (bnd (Jj vlo vn (ibits BinOp.or IntKind.i64 y (i64.wrap ((1:Int)*2^Min.min (Int.toNat o.2.2.2.1) (64:Nat)))) uj) fun y2=>
      bnd (iter (fun s↦jd.cF_ s.1 vlo vn o.2.1 s.2 some) (SeqC.L ones_sc (y2.1,y2.2.1),y2.2.2.1)) fun y3=>
      some (y3,()))
     (br (o.1==2)
       (bnd (Jj vlo vn (ibits BinOp.or IntKind.i64 y (i64.wrap ((1:Int)*2^Min.min (Int.toNat o.2.2.2.1) (64:Nat)))) uj) fun y4=>
        bnd (iter (fun s↦jd.cG_ s.1 vlo vn (i64.wrap ((1:Int)*2^Min.min (Int.toNat o.2.2.2.1) (64:Nat))) s.2 some) (SeqC.L ones_sc (y4.1,y4.2.1),y4.2.2.1)) fun y5=>
        some (y5,()))
       (br (o.1==3)
         (bnd (Jj vlo vn (ibits BinOp.or IntKind.i64 y (i64.wrap ((1:Int)*2^Min.min (Int.toNat o.2.2.2.1) (64:Nat)))) uj) fun y6=>
          bnd (iter (fun s↦jd.cA_ s.1 vlo vn (i64.wrap ((1:Int)*2^Min.min (Int.toNat o.2.2.2.1) (64:Nat))) s.2 some) (SeqC.L ones_sc (y6.1,y6.2.1),y6.2.2.1)) fun y7=>
          some (y7,()))
         (some (uj,())))))
def jd.mc:MCallee:=⟨100,jd.pre,jd.post,fun X=>jd X.1 X.2.1 X.2.2.1 X.2.2.2.1⟩
def jd.G:Env:=⟨122,tab,[(133,JL.ce),(134,jB.ce),(66,jT.ce),(59,jz.ce),(136,Jl.ce),(137,Jv.ce)],[0,1,2,3,4,5,6,7,8,9,10,11,19,20,23,24,25,38,44,45,56,62,63,82,88,89,105],[2,10,11,1002,2000000],[(22,[⟨[],[],[107,108,109,110,111,112,113,114,115,116,117,118,119],[]⟩,⟨[],[],[106,108,110,111,112,113,114,115,116,117,118,119],[]⟩,⟨[],[],[106,107,110,111,112,113,114,115,116,117,118,119],[]⟩,⟨[1,2],[],[106,110,111,112,113,114,115,116,117,118,119],[]⟩,⟨[],[],[106,107,108,109,111,112,113,114,115,116,117,118,119,120],[2000000]⟩,⟨[],[],[106,107,108,109,110,112,113,114,115,116,117,118,119,120],[2000000]⟩,⟨[],[],[106,107,108,109,110,111,113,116,117],[]⟩,⟨[],[],[106,107,108,109,110,111,112,116,117],[]⟩,⟨[6,7],[],[106,107,108,109,110,111,116,117],[]⟩,⟨[8,6,7],[],[106,107,108,109,110,111,116,117],[]⟩,⟨[],[],[106,107,108,109,110,111,112,113,114,115,117],[]⟩,⟨[],[],[106,107,108,109,110,111,112,113,114,115,116],[]⟩,⟨[10,11,9,8,6,7],[],[106,107,108,109,110,111],[]⟩,⟨[12,10,11,9,8,6,7],[],[106,107,108,109,110,111],[]⟩,⟨[0,3,1,2,6,7,8,9,12,10,11,13],[],[110,111],[]⟩,⟨[14,0,3,1,2,6,7,8,9,12,10,11,13],[2000000],[110,111],[]⟩,⟨[4,5,0,1,2,3,6,7,8,9,10,11,12,13,14,15],[],[],[]⟩,⟨[16,4,5,0,1,2,3,6,7,8,9,10,11,12,13,14,15],[2000000],[],[]⟩]),
  (20,[⟨[],[],[91,92,93,96,97,98,99,10,11],[10,11]⟩,⟨[],[],[90,92,96,97,98,99,10,11],[10,11]⟩,⟨[],[],[90,91,96,97,98,99,10,11],[10,11]⟩,⟨[1,2],[],[90,96,97,98,99,10,11],[10,11]⟩,⟨[0,3,1,2],[],[96,97,98,99,10,11],[10,11]⟩,⟨[4,0,3,1,2],[],[96,97,98,99,10,11],[10,11]⟩,⟨[],[],[90,91,92,93,94,95,97,10,11],[10,11]⟩,⟨[],[],[90,91,92,93,94,95,96,10,11],[10,11]⟩,⟨[6,7],[],[90,91,92,93,94,95,10,11],[10,11]⟩,⟨[8,6,7],[],[90,91,92,93,94,95,10,11],[10,11]⟩,⟨[],[10],[90,91,92,93,94,95,96,97,98,99,11],[11]⟩,⟨[],[11],[90,91,92,93,94,95,96,97,98,99,10],[10]⟩,⟨[10,5,4,0,3,1,2,11],[10],[96,97,98,99],[]⟩,⟨[11,9,8,6,7,12,10,5,4,0,3,1,2],[11],[],[]⟩]),
  (16,[⟨[],[],[65,66,67,68,69,70,71,72,73,74,75,76,77,78,79],[]⟩,⟨[],[],[64,66,67,68,69,70,71,72,73,74,75,76,77,78,79],[]⟩,⟨[],[],[64,65,67,68,69,70,71,72,73,74,75,76,77,78,79,80],[2000000]⟩,⟨[],[],[64,65,66,68,70,71,72,73,74,75,76,77,78,79,80],[2000000]⟩,⟨[],[],[64,65,66,67,70,71,72,73,74,75,76,77,78,79,80],[2000000]⟩,⟨[3,4],[],[64,65,66,70,71,72,73,74,75,76,77,78,79,80],[2000000]⟩,⟨[],[],[64,65,66,67,68,69,71,72,73,76,77,78,79],[]⟩,⟨[],[],[64,65,66,67,68,69,70,72,76,77,78,79],[]⟩,⟨[],[],[64,65,66,67,68,69,70,71,76,77,78,79],[]⟩,⟨[7,8],[],[64,65,66,67,68,69,70,76,77,78,79],[]⟩,⟨[6,9,7,8],[],[64,65,66,67,68,69,76,77,78,79],[]⟩,⟨[10,6,9,7,8],[],[64,65,66,67,68,69,76,77,78,79],[]⟩,⟨[],[],[64,65,66,67,68,69,70,71,72,73,74,75,77],[]⟩,⟨[],[],[64,65,66,67,68,69,70,71,72,73,74,75,76],[]⟩,⟨[12,13],[],[64,65,66,67,68,69,70,71,72,73,74,75],[]⟩,⟨[14,12,13],[],[64,65,66,67,68,69,70,71,72,73,74,75],[]⟩,⟨[0,1,6,7,8,9,10,11,15,14,12,13],[],[66,67,68,69],[]⟩,⟨[16,0,1,6,7,8,9,10,11,15,14,12,13],[2000000],[66,67,68,69],[]⟩,⟨[2,5,3,4,0,1,6,7,8,9,10,11,12,13,14,15,16,17],[],[],[]⟩,⟨[18,2,5,3,4,0,1,6,7,8,9,10,11,12,13,14,15,16,17],[2000000],[],[]⟩]),
  (12,[⟨[],[],[47,48,49,50,51,52,53,54],[]⟩,⟨[],[],[46,48,49,50,51,52,53,54],[]⟩,⟨[],[],[46,47,49,52,53],[]⟩,⟨[],[],[46,47,48,52,53],[]⟩,⟨[2,3],[],[46,47,52,53],[]⟩,⟨[4,2,3],[],[46,47,52,53],[]⟩,⟨[],[],[46,47,48,49,50,51],[]⟩,⟨[6],[],[46,47,48,49,50,51],[]⟩,⟨[5,4,2,3,7,6],[],[46,47],[]⟩,⟨[0,1,2,3,4,5,6,7,8],[],[],[]⟩,⟨[9,0,1,2,3,4,5,6,7,8],[2000000],[],[]⟩]),
  (7,[⟨[],[],[28,29,30,31,32,33,34,35],[]⟩,⟨[],[],[27,29,30,31,32,33,34,35],[]⟩,⟨[],[],[27,28,30,33,34],[]⟩,⟨[],[],[27,28,29,33,34],[]⟩,⟨[2,3],[],[27,28,33,34],[]⟩,⟨[4,2,3],[],[27,28,33,34],[]⟩,⟨[],[],[27,28,29,30,31,32],[]⟩,⟨[6],[],[27,28,29,30,31,32],[]⟩,⟨[5,4,2,3,7,6],[],[27,28],[]⟩,⟨[0,1,2,3,4,5,6,7,8],[],[],[]⟩,⟨[9,0,1,2,3,4,5,6,7,8],[2000000],[],[]⟩]),
  (1,[⟨[],[],[15,16,17,5],[5]⟩,⟨[0],[],[15,16,17,5],[5]⟩,⟨[1,0],[],[15,16,17,5],[5]⟩,⟨[],[],[12,13,14,5,4],[5]⟩,⟨[3],[],[12,13,14,5,4],[5]⟩,⟨[4,3],[],[12,13,14,5,4],[5]⟩,⟨[],[5],[12,13,14,15,16,17],[]⟩,⟨[2,1,0,6],[],[15,16,17],[]⟩,⟨[6,5,4,3,7,2,1,0],[5],[],[]⟩])],[(300020,jd.cA_r),(22,jd.c22r),(21,jd.c21r),(20,jd.c20r),(300016,jd.cG_r),(16,jd.c16r),(300012,jd.cF_r),(12,jd.c12r),(100005,jd.cd_r),(7,jd.c7r),(1,jd.c1r)],[(135,Jj.mc)],VL,[]⟩
theorem jd.p0:PcA jd.G Tryz.f100 0:=
  kr (s:=jd.c1r) (by kernel_rfl) (by kernel_rfl) (kb (sh:=jd.c1s) (fun ρ X Z=>(ja fun _=>(ja fun _=>jb))) (fun ρ X t k=>(by kernel_rfl)) (fun X=>by kernel_rfl))
theorem jd.p1:PcA jd.G Tryz.f100 1:=
  HP (s:=jd.cd_r) (by kernel_rfl) (by kernel_rfl) (VD (sh:=jd.cd_s) (I:=fun X Q=>(X.1,X.2.1,X.2.2.1,X.2.2.2.1,(q4 X).1,(q4 X).2.1,Q.1,(q4 X).2.2.2.1,(q8 X).1,(q8 X).2.1,(q8 X).2.2.1,(q8 X).2.2.2.1,(q4 (q8 X)).1,(q4 (q8 X)).2.1,(q4 (q8 X)).2.2.1,(q4 (q8 X)).2.2.2.1,Q.2,())) (fun X=>rfl) (fun ρ X Q Z=>(jf (ja fun _=>jb) jb)) (fun ρ X t k=>(by kernel_rfl)) (fun X s=>by kernel_rfl))
theorem jd.p2:PcA jd.G Tryz.f100 2:=
  kr (s:=jd.c7r) (by kernel_rfl) (by kernel_rfl) (kb (sh:=jd.c7s) (fun ρ X Z=>(ja fun _=>(ja fun _=>(ja fun _=>(ja fun _=>(ja fun _=>jb)))))) (fun ρ X t k=>(by kernel_rfl)) (fun X=>by kernel_rfl))
theorem jd.p3:PcA jd.G Tryz.f100 3:=
  range_ok (s:=jd.cF_r) (by kernel_rfl) (by kernel_rfl) (VD (sh:=jd.cF_s) (I:=fun X Q=>(X.1,X.2.1,X.2.2.1,X.2.2.2.1,(q4 X).1,Q.1,(q4 X).2.2.1,(q4 X).2.2.2.1,(q8 X).1,(q8 X).2.1,(q8 X).2.2.1,(q8 X).2.2.2.1,(q4 (q8 X)).1,(q4 (q8 X)).2.1,(q4 (q8 X)).2.2.1,(q4 (q8 X)).2.2.2.1,(q8 (q8 X)).1,Q.2,())) (fun X=>rfl) (fun ρ X Q Z=>(jf jb (ja fun _=>(ja fun _=>jb)))) (fun ρ X t k=>(by kernel_rfl)) (fun X s=>by kernel_rfl))
theorem jd.p4:PcA jd.G Tryz.f100 4:=
  kr (s:=jd.c12r) (by kernel_rfl) (by kernel_rfl) (kb (sh:=jd.c12s) (fun ρ X Z=>(ja fun _=>(ja fun _=>(ja fun _=>(ja fun _=>(ja fun _=>jb)))))) (fun ρ X t k=>(by kernel_rfl)) (fun X=>by kernel_rfl))
theorem jd.p5:PcA jd.G Tryz.f100 5:=
  range_ok (s:=jd.cG_r) (by kernel_rfl) (by kernel_rfl) (VD (sh:=jd.cG_s) (I:=fun X Q=>(X.1,X.2.1,X.2.2.1,X.2.2.2.1,(q4 X).1,Q.1,(q4 X).2.2.1,(q4 X).2.2.2.1,(q8 X).1,(q8 X).2.1,(q8 X).2.2.1,(q8 X).2.2.2.1,(q4 (q8 X)).1,(q4 (q8 X)).2.1,(q4 (q8 X)).2.2.1,(q4 (q8 X)).2.2.2.1,(q8 (q8 X)).1,Q.2,())) (fun X=>rfl) (fun ρ X Q Z=>(jf jb (ja fun _=>(ja fun _=>jb)))) (fun ρ X t k=>(by kernel_rfl)) (fun X s=>by kernel_rfl))
theorem jd.p6:PcA jd.G Tryz.f100 6:=
  kr (s:=jd.c16r) (by kernel_rfl) (by kernel_rfl) (kb (sh:=jd.c16s) (fun ρ X Z=>(ja fun _=>(ja fun _=>(ja fun _=>(ja fun _=>(ja fun _=>(ja fun _=>(ja fun _=>(ja fun _=>jb))))))))) (fun ρ X t k=>(by kernel_rfl)) (fun X=>by kernel_rfl))
theorem jd.p7:PcA jd.G Tryz.f100 7:=
  range_ok (s:=jd.cA_r) (by kernel_rfl) (by kernel_rfl) (VD (sh:=jd.cA_s) (I:=fun X Q=>(X.1,X.2.1,X.2.2.1,X.2.2.2.1,(q4 X).1,Q.1,(q4 X).2.2.1,(q4 X).2.2.2.1,(q8 X).1,(q8 X).2.1,(q8 X).2.2.1,(q8 X).2.2.2.1,(q4 (q8 X)).1,(q4 (q8 X)).2.1,(q4 (q8 X)).2.2.1,(q4 (q8 X)).2.2.2.1,(q8 (q8 X)).1,Q.2,())) (fun X=>rfl) (fun ρ X Q Z=>(jf jb (ja fun _=>(ja fun _=>(ja fun _=>(jf jb (ja fun _=>jb))))))) (fun ρ X t k=>(by kernel_rfl)) (fun X s=>by kernel_rfl))
theorem jd.p8:PcA jd.G Tryz.f100 8:=
  kr (s:=jd.c20r) (by kernel_rfl) (by kernel_rfl) (kb (sh:=jd.c20s) (fun ρ X Z=>(ja fun _=>(ja fun _=>(ja fun _=>(ja fun _=>jb))))) (fun ρ X t k=>(by kernel_rfl)) (fun X=>by kernel_rfl))
theorem jd.p9:PcA jd.G Tryz.f100 9:=
  kr (s:=jd.c21r) (by kernel_rfl) (by kernel_rfl) (kb (sh:=jd.c20x0) (fun ρ X Z=>(ja fun _=>(ja fun _=>(jf (ja fun _=>(ja fun _=>jb)) jb)))) (fun ρ X t k=>(by kernel_rfl)) (fun X=>by kernel_rfl))
theorem jd.p10:PcA jd.G Tryz.f100 10:=
  kr (s:=jd.c22r) (by kernel_rfl) (by kernel_rfl) (kb (sh:=jd.c20x0) (fun ρ X Z=>(ja fun _=>(ja fun _=>(ja fun _=>(ja fun _=>(ja fun _=>(ja fun _=>(ja fun _=>(ja fun _=>(ja fun _=>(ja fun _=>(ja fun _=>(ja fun _=>jb))))))))))))) (fun ρ X t k=>(by kernel_rfl)) (fun X=>by kernel_rfl))
theorem jd.ok:MOk Tryz.prog 100 jd.mc:=fnm_ok (mc:=jd.mc) (G:=jd.G) VI mixed Tryz.func100 ⟨(Yk JL.ok (Yk jB.ok (Yk jT.ok (Yk jz.ok (Yk Jl.ok (Yk Jv.ok Ud)))))),(VU Jj.ok VE),YW,VA⟩ (m:=11) (by kernel_rfl) ⟨⟨⟨⟨⟨⟨⟨⟨⟨⟨⟨trivial,jd.p0⟩,jd.p1⟩,jd.p2⟩,jd.p3⟩,jd.p4⟩,jd.p5⟩,jd.p6⟩,jd.p7⟩,jd.p8⟩,jd.p9⟩,jd.p10⟩ (by kernel_rfl) (fun _=>by kernel_rfl)
def jh.pre:Shape:=⟨[(0,sa38)],[(1000700,sa39),(2000701,sa28),(2000702,sa3)]⟩
def jh.post:Shape:=⟨[(0,sa11)],[(1000700,sa39),(2000701,sa28),(2000702,sa3)]⟩
def jh.c1  (Z:Unit→Option ρ):Option ρ:=
  Z ()
def jh.c1s:Shape:=(jh.pre.s 2 sa11)
def jh.c1x0:Shape:=(jh.c1s.s 14 sa11)
def jh.c1r:RC:=⟨jh.c1s,[(jh.c1x0,0,[1,400])],fun X=>((decide ((q4 X).2.1<(X.2.2.2.1.length:Int))),()),[],@jh.c1,fun _ _=>jb⟩
def jh.c3 (ug:List YO)(ui:Int)(Z:(Int)×(Int)×(List Int)×(Int)×(Int)×(List Int)→Option ρ):Option ρ:=
  bnd (idx ug ui) fun y=>
  Z (y.1,y.2.1,y.2.2.1,y.2.2.2.1,y.2.2.2.2.1,y.2.2.2.2.2)
def jh.c3x0:Shape:=((jh.c1s.s 3 sa7).o 3 sa14)
def jh.c3r:RC:=⟨jh.c1s,[(jh.c3x0,0,[1,106])],no,[3,5],@jh.c3,fun _ _ _ _=>ja fun _=>jb⟩
def jh.c5 (o0:Int)(Z:Bool→Option ρ):Option ρ:=
  br (o0==5)
   (Z true)
   (Z (o0==6))
def jh.c5x0:Shape:=(jh.c3x0.s 44 sa11)
def jh.c5r:RC:=⟨jh.c3x0,[(jh.c5x0,0,[1,101])],no,[1],@jh.c5,fun _ _ _=>jf jb jb⟩
def jh.c7 (o0:Int)(o1:Int)(o2:List (Int))(o3:Int)(o4:Int)(o5:List (Int))(ul:List YN)(Z:List YN→Option ρ):Option ρ:=
  bnd (jd (0:Int) (ul.length:Int) (o0,o1,o2,o3,o4,o5) ul) fun y=>
  Z y.1
def jh.c7r:RC:=⟨jh.c3x0,[(jh.c3x0,0,[12,201])],no,[1,2,3,4,5,6,12],@jh.c7,fun _ _ _ _ _ _ _ _ _=>ja fun _=>jb⟩
def jh.cP_ (ue:Int)(uf:Int)(ug:List YO)(uh:Int)(ui:Int)(ul:List YN)(um:List (Int))(Z:((Int)×(Int)×(List YO)×(Int)×(Int)×(List YN)×(List Int))⊕((Int)×(Int)×(List YO)×(Int)×(Int)×(List YN)×(List Int))→Option ρ):Option ρ:=
  bnd (jh.c3 ug ui some) fun y=>
  bnd (jD (y.1,y.2.1,y.2.2.1,y.2.2.2.1,y.2.2.2.2.1,y.2.2.2.2.2) ue uf ug uh ui ul um) fun y1=>
  br (!y1.1)
   (Z (.inl (y1.2.1,y1.2.2.1,y1.2.2.2.1,y1.2.2.2.2.1,y1.2.2.2.2.2.1,y1.2.2.2.2.2.2.1,y1.2.2.2.2.2.2.2.1)))
   (bnd (jh.c5 y.1 some) fun y2=>
    br y2
     (Z (.inr (y1.2.1,y1.2.2.1,y1.2.2.2.1,y1.2.2.2.2.1,y1.2.2.2.2.2.1,y1.2.2.2.2.2.2.1,y1.2.2.2.2.2.2.2.1)))
     (bnd (jh.c7 y.1 y.2.1 y.2.2.1 y.2.2.2.1 y.2.2.2.2.1 y.2.2.2.2.2 y1.2.2.2.2.2.2.1 some) fun y3=>
      Z (.inl (y1.2.1,y1.2.2.1,y1.2.2.2.1,y1.2.2.2.2.1,y1.2.2.2.2.2.1,y3,y1.2.2.2.2.2.2.2.1))))
def jh.cP_r:RC:=⟨jh.c1s,[(jh.c1s,0,[1,207]),(jh.c1s,1,[400,207,301])],fun X=>(true,()),[1,2,3,4,5,6,7],@jh.cP_,fun _ _ _ _ _ _ _ _ _=>ja fun _=>(ja fun _=>(jf jb (ja fun _=>(jf jb (ja fun _=>jb)))))⟩
def jh.ce_ (ue:Int)(uf:Int)(ug:List YO)(uh:Int)(ui:Int)(ul:List YN)(um:List (Int))(Z:((Int)×(Int)×(List YO)×(Int)×(Int)×(List YN)×(List Int))⊕(((Int)×(Int)×(List YO)×(Int)×(Int)×(List YN)×(List Int))⊕((Int)×(Int)×(List YO)×(Int)×(Int)×(List YN)×(List Int)))→Option ρ):Option ρ:=
  bnd (jh.c1 some) fun y=>
  br (decide (ui<(ug.length:Int)))
   (bnd (jh.cP_ ue uf ug uh ui ul um some) fun y1=>
    sel y1
     (fun u=>Z (.inl (u.1,u.2.1,u.2.2.1,u.2.2.2.1,(i64.wrap (u.2.2.2.2.1+1)),u.2.2.2.2.2.1,u.2.2.2.2.2.2)))
     (fun v=>Z (.inr (.inl (v.1,v.2.1,v.2.2.1,v.2.2.2.1,v.2.2.2.2.1,v.2.2.2.2.2.1,v.2.2.2.2.2.2)))))
   (Z (.inr (.inr (ue,uf,ug,uh,ui,ul,um))))
def jh.ce_r:LC:=⟨jh.c1s,[(jh.c1s,1,[400,207,301]),(jh.c1s,2,[1,207])],fun X=>(true,()),[1,2,3,4,5,6,7],[1,2,3,4,5,6,7],@jh.ce_,fun _ _ _ _ _ _ _ _ _=>ja fun _=>(jf (ja fun _=>(Yp (fun _=>jb) (fun _=>jb))) jb)⟩
def jh (ue:Int) (uf:Int) (ug:List YO) (uh:Int) (ui:Int) (ul:List YN) (um:List (Int)):Option (Bool×(Int)×(Int)×(List YO)×(Int)×(Int)×(List YN)×(List Int)×Unit):=
  bnd (iter (fun s↦jh.ce_ s.1 s.2.1 s.2.2.1 s.2.2.2.1 s.2.2.2.2.1 s.2.2.2.2.2.1 s.2.2.2.2.2.2 some) (ue,uf,ug,uh,ui,ul,um)) fun y=>
  sel y
   (fun u=>some (true,u.1,u.2.1,u.2.2.1,u.2.2.2.1,u.2.2.2.2.1,u.2.2.2.2.2.1,u.2.2.2.2.2.2,()))
   (fun v=>some (false,v.1,v.2.1,v.2.2.1,v.2.2.2.1,v.2.2.2.2.1,v.2.2.2.2.2.1,v.2.2.2.2.2.2,()))
def jh.mc:MCallee:=⟨64,jh.pre,jh.post,fun X=>jh X.1 X.2.1 X.2.2.1 X.2.2.2.1 (q4 X).1 (q4 X).2.1 (q4 X).2.2.1⟩
def jh.G:EB Tryz.prog:=⟨tb,Tryz.f64,[],[0,2,3,14,36,44],[1000700,2000701,2000702],[(7,[(5,[2000701])]),(3,[(11,[3]),(12,[3])]),(1,[])],[(100001,jh.ce_r.ck),(212306,jh.cP_r.ck),(7,jh.c7r.ck),(5,jh.c5r.ck),(3,jh.c3r.ck),(1,jh.c1r.ck)],[⟨99,jD.mc,jD.ok⟩,⟨100,jd.mc,jd.ok⟩],[]⟩
theorem jh.ok:MOk Tryz.prog 64 jh.mc:=fnM jh.G (mc:=jh.mc) Tryz.func64 (m:=6) ⟨⟨⟨⟨⟨⟨trivial,kL jh.ce_r (by kernel_rfl)⟩,kR jh.c1r (by kernel_rfl)⟩,kJ jh.cP_r (by kernel_rfl)⟩,kR jh.c3r (by kernel_rfl)⟩,kR jh.c5r (by kernel_rfl)⟩,kR jh.c7r (by kernel_rfl)⟩ (by kernel_rfl)
end
end W
end
