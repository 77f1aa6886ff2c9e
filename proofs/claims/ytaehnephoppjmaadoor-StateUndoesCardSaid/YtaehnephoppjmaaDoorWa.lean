/- Lifted functions, part 1: each with its contract. -/
import Derived.Test.YtaehnephoppjmaaDoorCa
import Derived.Test.YtaehnephoppjmaaDoorProg
set_option linter.all false
section
set_option maxHeartbeats 4000000
set_option maxRecDepth 100000
namespace W
open Go Go.Ql Go.Proofs Go.IntKind
noncomputable section
variable {ρ:Type}
abbrev q4 {a b c d e:Type} (x:a×b×c×d×e):e:=x.2.2.2.2
abbrev q8 {a b c d e f g h i:Type} (x:a×b×c×d×e×f×g×h×i):i:=x.2.2.2.2.2.2.2.2
abbrev YO:=Int×(Int×((List Int)×(Int×(Int×(List Int)))))
abbrev YD:=(Bool)×(List Int)
abbrev YP:=Int×(Int×(Bool))
abbrev YN:=(List YD)×Int
def JW  : Option ((Int)×((Int)×(List ((Int)×((Int)×((List Int)×((Int)×((Int)×(List Int))))))))):=
  some ((2:Int),(1:Int),[((3:Int),(0:Int),[],(0:Int),(0:Int),[]),((2:Int),(0:Int),[(0:Int)],(1:Int),(0:Int),[]),((5:Int),(0:Int),[],(1:Int),(0:Int),[(-1:Int)])])
def JW.ce:Go.Ql.Callee:=⟨[],[(.st (.pair (.int .i64) (.pair (.int .i64) (.sl (.st (.pair (.int .i64) (.pair (.int .i64) (.pair (.sl (.int .i64)) (.pair (.int .i64) (.pair (.int .i64) (.sl (.int .i64))))))))))))],fun X=>JW⟩
def JW.G:Env:=⟨8,tab,[],[0],[],[],[],[],jP,[]⟩
theorem JW.ok:CalleeOk Tryd.prog 14 JW.ce:=fn_ok (G:=JW.G) jV mixed Tryd.func14 ⟨jR,jM,jC,jL⟩ (m:=0) (by kernel_rfl) trivial (by kernel_rfl) (fun _=>by kernel_rfl)
def Jq (code:Int) (t1:Int):Option ((Int)×(Int)):=
  some (code,t1)
def Jq.ce:Go.Ql.Callee:=⟨[(.int .i64),(.int .i64)],[(.st (.pair (.int .i64) (.int .i64)))],fun X=>Jq X.1 X.2⟩
def Jq.G:Env:=⟨8,tab,[],[0,1,4],[],[],[],[],jP,[]⟩
theorem Jq.ok:CalleeOk Tryd.prog 21 Jq.ce:=fn_ok (G:=Jq.G) jV mixed Tryd.func21 ⟨jR,jM,jC,jL⟩ (m:=0) (by kernel_rfl) trivial (by kernel_rfl) (fun _=>by kernel_rfl)
abbrev sd0:SD:=.one (.val (.int .i64))
abbrev sd1:SD:=.one (.val .bool)
def Jk.c1 (kind:Int)(Z:Bool→Option ρ):Option ρ:=
  br (kind==1)
   (Z true)
   (Z (kind==4))
def Jk.c1s:Shape:=⟨[(0,sd0),(2,sd1)],[]⟩
def Jk.c1r:Ck:=Ck.of (T:=Bool) Jk.c1s (fun ρ X Z=>Jk.c1 X.1 Z) (fun ρ X V Z=>Z 0 (Shape.inj Jk.c1s (X.1,V,())))
def Jk (kind:Int):Option Bool:=
  bnd (Jk.c1 kind some) fun y=>
  some y
def Jk.ce:Go.Ql.Callee:=⟨[(.int .i64)],[.bool],fun X=>Jk X⟩
def Jk.G:Env:=⟨9,tab,[],[0,2],[],[],[(1,Jk.c1r)],[],jP,[]⟩
theorem Jk.p0:PcA Jk.G Tryd.f48 0:=
  jE (s:=Jk.c1r) (by kernel_rfl) (by kernel_rfl) (jG (sh:=Jk.c1s) (fun ρ X Z=>(jv jd jd)) (fun ρ X t k=>(by kernel_rfl)) (fun X=>by kernel_rfl))
theorem Jk.ok:CalleeOk Tryd.prog 48 Jk.ce:=fn_ok (G:=Jk.G) jV mixed Tryd.func48 ⟨jR,jM,jC,jL⟩ (m:=1) (by kernel_rfl) ⟨trivial,Jk.p0⟩ (by kernel_rfl) (fun _=>by kernel_rfl)
def Js.c1 (kind:Int)(Z:Bool→Option ρ):Option ρ:=
  br (kind==2)
   (Z true)
   (br (kind==3)
     (Z true)
     (Z (kind==4)))
def Js.c1s:Shape:=⟨[(0,sd0),(2,sd1)],[]⟩
def Js.c1r:Ck:=Ck.of (T:=Bool) Js.c1s (fun ρ X Z=>Js.c1 X.1 Z) (fun ρ X V Z=>Z 0 (Shape.inj Js.c1s (X.1,V,())))
def Js (kind:Int):Option Bool:=
  bnd (Js.c1 kind some) fun y=>
  some y
def Js.ce:Go.Ql.Callee:=⟨[(.int .i64)],[.bool],fun X=>Js X⟩
def Js.G:Env:=⟨13,tab,[],[0,2],[],[],[(1,Js.c1r)],[],jP,[]⟩
theorem Js.p0:PcA Js.G Tryd.f49 0:=
  jE (s:=Js.c1r) (by kernel_rfl) (by kernel_rfl) (jG (sh:=Js.c1s) (fun ρ X Z=>(jv jd (jv jd jd))) (fun ρ X t k=>(by kernel_rfl)) (fun X=>by kernel_rfl))
theorem Js.ok:CalleeOk Tryd.prog 49 Js.ce:=fn_ok (G:=Js.G) jV mixed Tryd.func49 ⟨jR,jM,jC,jL⟩ (m:=1) (by kernel_rfl) ⟨trivial,Js.p0⟩ (by kernel_rfl) (fun _=>by kernel_rfl)
abbrev sd2:SD:=.one (.val (.st (.pair (.int .i64) (.pair (.int .i64) (.pair (.sl (.int .i64)) (.pair (.int .i64) (.pair (.int .i64) (.sl (.int .i64)))))))))
abbrev sd3:SD:=.one (.ref 1000100 0)
abbrev sd4:SO:=.box [.val (.int .i64),.val (.int .i64),.val (.sl (.st (.pair (.int .i64) (.pair (.int .i64) (.pair (.sl (.int .i64)) (.pair (.int .i64) (.pair (.int .i64) (.sl (.int .i64)))))))))]
abbrev sd5:SD:=.one (.ref 2 0)
abbrev sd6:SO:=.box [.val (.int .i64),.val (.int .i64),.val (.sl (.int .i64)),.val (.int .i64),.val (.int .i64),.val (.sl (.int .i64))]
abbrev sd7:SD:=.one (.aptr 5 0)
abbrev sd8:SD:=.one (.val (.sl (.int .i64)))
abbrev sd9:SO:=.arr 0 false 87 .bool
def jh.pre:Shape:=⟨[(0,sd2),(1,sd3)],[(1000100,sd4)]⟩
def jh.post:Shape:=⟨[(0,sd0)],[(1000100,sd4)]⟩
def jh.c1 (o0:Int)(Z:Bool→Option ρ):Option ρ:=
  br (decide (o0<1))
   (Z true)
   (Z (decide (o0>6)))
def jh.c1s:Shape:=⟨[(0,sd2),(1,sd3),(2,sd5),(4,sd0)],[(2,sd6),(1000100,sd4)]⟩
def jh.c1x0:Shape:=⟨[(0,sd2),(1,sd3),(2,sd5),(4,sd0),(17,sd1)],[(2,sd6),(1000100,sd4)]⟩
def jh.c1r:Ck:=Ck.of (T:=Bool) jh.c1s (fun ρ X Z=>jh.c1 X.2.2.1 Z) (fun ρ X V Z=>Z 0 (Shape.inj jh.c1x0 (X.1,X.2.1,V,X.2.2)))
def jh.c3 (o0:Int)(o1:Int)(Z:Bool→Option ρ):Option ρ:=
  br (decide (o1<0))
   (Z true)
   (br (decide (o1>15))
     (Z true)
     (bnd (Jk o0) fun y=>
      br (!y)
       (Z (o1 !=0))
       (Z false)))
def jh.c3x0:Shape:=⟨[(0,sd2),(1,sd3),(2,sd5),(4,sd0),(36,sd1)],[(2,sd6),(1000100,sd4)]⟩
def jh.c3r:Ck:=Ck.of (T:=Bool) jh.c1s (fun ρ X Z=>jh.c3 X.2.2.1 X.2.2.2.1 Z) (fun ρ X V Z=>Z 0 (Shape.inj jh.c3x0 (X.1,X.2.1,V,X.2.2)))
def jh.c5 (o0:Int)(o3:Int)(ub:Int)(Z:Bool→Option ρ):Option ρ:=
  br (decide (o3<0))
   (Z true)
   (br (decide (o3≥ub))
     (Z true)
     (br (o0==1)
       (Z (o3 !=0))
       (Z false)))
def jh.c5x0:Shape:=⟨[(0,sd2),(1,sd3),(2,sd5),(4,sd0),(58,sd1)],[(2,sd6),(1000100,sd4)]⟩
def jh.c5r:Ck:=Ck.of (T:=Bool) jh.c1s (fun ρ X Z=>jh.c5 X.2.2.1 (q4 X).2.1 (q8 X).1 Z) (fun ρ X V Z=>Z 0 (Shape.inj jh.c5x0 (X.1,X.2.1,V,X.2.2)))
def jh.c7 (o0:Int)(o2:List (Int))(Z:Bool→Option ρ):Option ρ:=
  br (decide ((o2.length:Int)>0))
   (bnd (Js o0) fun y=>
    Z (!y))
   (Z false)
def jh.c7x0:Shape:=⟨[(0,sd2),(1,sd3),(2,sd5),(4,sd0),(68,sd1)],[(2,sd6),(1000100,sd4)]⟩
def jh.c7r:Ck:=Ck.of (T:=Bool) jh.c1s (fun ρ X Z=>jh.c7 X.2.2.1 (q4 X).1 Z) (fun ρ X V Z=>Z 0 (Shape.inj jh.c7x0 (X.1,X.2.1,V,X.2.2)))
def jh.c14 (q:Int)(ub:Int)(Z:Bool→Option ρ):Option ρ:=
  br (decide (q<0))
   (Z true)
   (Z (decide (q≥ub)))
def jh.c14s:Shape:=⟨[(0,sd2),(1,sd3),(2,sd5),(4,sd0),(5,sd7),(7,sd0),(74,sd8),(75,sd0),(76,sd0)],[(2,sd6),(5,sd9),(1000100,sd4)]⟩
def jh.c14x0:Shape:=⟨[(0,sd2),(1,sd3),(2,sd5),(4,sd0),(5,sd7),(7,sd0),(74,sd8),(75,sd0),(76,sd0),(80,sd1)],[(2,sd6),(5,sd9),(1000100,sd4)]⟩
def jh.c14r:Ck:=Ck.of (T:=Bool) jh.c14s (fun ρ X Z=>jh.c14 X.2.2.1 (q4 (q8 X)).2.1 Z) (fun ρ X V Z=>Z 0 (Shape.inj jh.c14x0 (X.1,X.2.1,X.2.2.1,X.2.2.2.1,(q4 X).1,(q4 X).2.1,V,(q4 X).2.2)))
def jh.cj_ (t74:List (Int))(t75:Int)(t76:Int)(seen:List Bool)(ub:Int)(Z:((Int)×(List Bool))⊕(((Int)×(Int)×(List Bool))⊕((Int)×(List Bool)))→Option ρ):Option ρ:=
  br (decide (t76<t75))
   (bnd (idx t74 t76) fun y=>
    bnd (jh.c14 y ub some) fun y1=>
    br y1
     (Z (.inr (.inl ((10:Int),t76,seen))))
     (bnd (okIf (decide ((0:Ty.den (Ty.int IntKind.i64))≤y)&&decide (y<(↑(12:Nat):Int)))) fun y2=>
      bnd (inR (seen.length) y) fun y3=>
      bnd (idx seen y) fun y4=>
      br y4
       (Z (.inr (.inl ((12:Int),t76,seen))))
       (bnd (okIf (decide ((0:Ty.den (Ty.int IntKind.i64))≤y)&&decide (y<(↑(12:Nat):Int)))) fun y5=>
        bnd (inR (seen.length) y) fun y6=>
        bnd (idx seen y) fun y7=>
        Z (.inl ((i64.wrap (t76+1)),(List.set seen (Int.toNat y) true))))))
   (Z (.inr (.inr (t76,seen))))
def jh.cj_s:Shape:=⟨[(0,sd2),(1,sd3),(2,sd5),(4,sd0),(5,sd7),(74,sd8),(75,sd0),(76,sd0)],[(2,sd6),(5,sd9),(1000100,sd4)]⟩
def jh.cj_r:Ck:=Ck.ofLoop (S:=(Int)×(List Bool)) (T:=((Int)×(Int)×(List Bool))⊕((Int)×(List Bool))) jh.cj_s (fun X=>((q4 X).1,(q8 X).2.2.2.1)) (fun ρ X Q Z=>jh.cj_ X.2.2.1 X.2.2.2.1 Q.1 Q.2 (q4 (q8 X)).1 Z) (fun ρ X V Z=>sel V (fun V=>Z 1 (Shape.inj jh.cj_s (X.1,V.1,X.2.2.1,X.2.2.2.1,V.2.1,(q4 X).2.1,(q4 X).2.2.1,(q4 X).2.2.2.1,(q8 X).1,(q8 X).2.1,(q8 X).2.2.1,V.2.2,(q4 (q8 X))))) (fun V=>Z 2 (Shape.inj jh.cj_s (X.1,X.2.1,X.2.2.1,X.2.2.2.1,V.1,(q4 X).2.1,(q4 X).2.2.1,(q4 X).2.2.2.1,(q8 X).1,(q8 X).2.1,(q8 X).2.2.1,V.2,(q4 (q8 X))))))
def jh.c20 (o0:Int)(o4:Int)(uc:Int)(Z:Bool→Option ρ):Option ρ:=
  br (o0==5)
   (br (decide (o4<0))
     (Z true)
     (br (decide (o4≥uc))
       (Z true)
       (br (o0 !=5)
         (Z (o4 !=0))
         (Z false))))
   (br (o0 !=5)
     (Z (o4 !=0))
     (Z false))
def jh.c20x0:Shape:=⟨[(0,sd2),(1,sd3),(2,sd5),(4,sd0),(5,sd7),(74,sd8),(75,sd0),(76,sd0),(124,sd1)],[(2,sd6),(5,sd9),(1000100,sd4)]⟩
def jh.c20r:Ck:=Ck.of (T:=Bool) jh.cj_s (fun ρ X Z=>jh.c20 (q4 X).2.1 (q8 X).2.1 (q4 (q8 X)).2.1 Z) (fun ρ X V Z=>Z 0 (Shape.inj jh.c20x0 (X.1,X.2.1,X.2.2.1,X.2.2.2.1,(q4 X).1,V,(q4 X).2)))
def jh.c27 (v:Int)(uc:Int)(Z:Bool→Option ρ):Option ρ:=
  br (v==0)
   (Z true)
   (br (decide (v>uc))
     (Z true)
     (Z (decide (v<i64.wrap ((0:Int)-uc)))))
def jh.c27s:Shape:=⟨[(0,sd2),(1,sd3),(2,sd5),(4,sd0),(5,sd7),(9,sd0),(74,sd8),(75,sd0),(76,sd0),(130,sd8),(131,sd0),(132,sd0)],[(2,sd6),(5,sd9),(1000100,sd4)]⟩
def jh.c27x0:Shape:=⟨[(0,sd2),(1,sd3),(2,sd5),(4,sd0),(5,sd7),(9,sd0),(74,sd8),(75,sd0),(76,sd0),(130,sd8),(131,sd0),(132,sd0),(154,sd1)],[(2,sd6),(5,sd9),(1000100,sd4)]⟩
def jh.c27r:Ck:=Ck.of (T:=Bool) jh.c27s (fun ρ X Z=>jh.c27 X.2.2.1 (q8 (q8 X)).2.1 Z) (fun ρ X V Z=>Z 0 (Shape.inj jh.c27x0 (X.1,X.2.1,X.2.2.1,X.2.2.2.1,(q4 X).1,(q4 X).2.1,(q4 X).2.2.1,(q4 X).2.2.2.1,(q8 X).1,V,(q8 X).2)))
def jh.ck_ (t130:List (Int))(t131:Int)(t132:Int)(uc:Int)(Z:(Int)⊕((Int)⊕(Int))→Option ρ):Option ρ:=
  br (decide (t132<t131))
   (bnd (idx t130 t132) fun y=>
    bnd (jh.c27 y uc some) fun y1=>
    br y1
     (Z (.inr (.inl t132)))
     (Z (.inl (i64.wrap (t132+1)))))
   (Z (.inr (.inr t132)))
def jh.ck_s:Shape:=⟨[(0,sd2),(1,sd3),(2,sd5),(4,sd0),(5,sd7),(74,sd8),(75,sd0),(76,sd0),(130,sd8),(131,sd0),(132,sd0)],[(2,sd6),(5,sd9),(1000100,sd4)]⟩
def jh.ck_r:Ck:=Ck.ofLoop (S:=Int) (T:=(Int)⊕(Int)) jh.ck_s (fun X=>(q4 X).2.2.2.1) (fun ρ X Q Z=>jh.ck_ (q4 X).2.1 (q4 X).2.2.1 Q (q8 (q8 X)).1 Z) (fun ρ X V Z=>sel V (fun V=>Z 1 (Shape.inj jh.ck_s (X.1,(14:Int),X.2.2.1,X.2.2.2.1,(q4 X).1,(q4 X).2.1,(q4 X).2.2.1,V,(q8 X)))) (fun V=>Z 5 (Shape.inj jh.ck_s (X.1,X.2.1,X.2.2.1,X.2.2.2.1,(q4 X).1,(q4 X).2.1,(q4 X).2.2.1,V,(q8 X)))))
def jh (o:(Int)×((Int)×((List Int)×((Int)×((Int)×(List Int)))))) (ub:Int) (uc:Int) (ud:List ((Int)×((Int)×((List Int)×((Int)×((Int)×(List Int))))))):Option ((Int)×(Int)×(Int)×(List ((Int)×((Int)×((List Int)×((Int)×((Int)×(List Int)))))))×Unit):=
  bnd (jh.c1 o.1 some) fun y=>
  br y
   (some ((8:Int),ub,uc,ud,()))
   (bnd (jh.c3 o.1 o.2.1 some) fun y1=>
    br y1
     (some ((9:Int),ub,uc,ud,()))
     (bnd (jh.c5 o.1 o.2.2.2.1 ub some) fun y2=>
      br y2
       (some ((10:Int),ub,uc,ud,()))
       (bnd (jh.c7 o.1 o.2.2.1 some) fun y3=>
        br y3
         (some ((11:Int),ub,uc,ud,()))
         (bnd (okIf (decide ((0:Ty.den (Ty.int IntKind.i64))≤o.2.2.2.1)&&decide (o.2.2.2.1<(↑(12:Nat):Int)))) fun y4=>
          bnd (inR (List.length (List.replicate (12:Nat) false)) o.2.2.2.1) fun y5=>
          bnd (idx (List.replicate (12:Nat) false) o.2.2.2.1) fun y6=>
          bnd (iter (fun s↦jh.cj_ o.2.2.1 (↑(List.length o.2.2.1):Int) s.1 s.2 ub some) ((0:Int),List.set (List.replicate (12:Nat) false) (Int.toNat o.2.2.2.1) true)) fun y7=>
          sel y7
           (fun u=>some (u.1,ub,uc,ud,()))
           (fun v=>bnd (jh.c20 o.1 o.2.2.2.2.1 uc some) fun y8=>
            br y8
             (some ((13:Int),ub,uc,ud,()))
             (br (decide ((↑(List.length o.2.2.2.2.2):Int)>24))
               (some ((14:Int),ub,uc,ud,()))
               (bnd (iter (fun s↦jh.ck_ o.2.2.2.2.2 (↑(List.length o.2.2.2.2.2):Int) s uc some) (0:Int)) fun y9=>
                sel y9
                 (fun u_1=>some ((14:Int),ub,uc,ud,()))
                 (fun v_1=>some ((0:Int),ub,uc,ud,())))))))))
def jh.mc:MCallee:=⟨34,jh.pre,jh.post,fun X=>jh X.1 X.2.1 X.2.2.1 X.2.2.2.1⟩
def jh.G:Env:=⟨156,tab,[(48,Jk.ce),(49,Js.ce)],[0,1,2,4,5,7,9,17,36,58,68,74,75,76,77,80,91,124,128,130,131,132,133,154],[5,69],[(20,[⟨[],[],[],[]⟩,⟨[0],[],[],[]⟩,⟨[1,0],[],[],[]⟩,⟨[2,1,0],[],[],[]⟩,⟨[3,2,1,0],[],[],[]⟩,⟨[4,3,2,1,0],[],[],[]⟩,⟨[5,4,3,2,1,0],[],[],[]⟩,⟨[6,5,4,3,2,1,0],[],[],[]⟩,⟨[7,6,5,4,3,2,1,0],[],[108,109,110,111],[]⟩,⟨[8,7,6,5,4,3,2,1,0],[],[108,109,110,111],[]⟩,⟨[7,6,5,4,3,2,1,0],[],[106,107],[]⟩,⟨[10,7,6,5,4,3,2,1,0],[],[106,107],[]⟩,⟨[11,10,7,6,5,4,3,2,1,0],[],[106,107],[]⟩,⟨[12,11,10,7,6,5,4,3,2,1,0],[],[106,107],[]⟩,⟨[9,8,7,6,5,4,3,2,1,0,13,12,11,10],[],[],[]⟩,⟨[7,6,5,4,3,2,1,0,14,9,8,13,12,11,10],[],[],[]⟩,⟨[3,2,1,0,15,7,6,5,4,14,9,8,13,12,11,10],[],[],[]⟩,⟨[16,3,2,1,0,15,7,6,5,4,14,9,8,13,12,11,10],[],[],[]⟩,⟨[17,16,3,2,1,0,15,7,6,5,4,14,9,8,13,12,11,10],[],[],[]⟩,⟨[18,17,16,3,2,1,0,15,7,6,5,4,14,9,8,13,12,11,10],[],[],[]⟩,⟨[19,18,17,16,3,2,1,0,15,7,6,5,4,14,9,8,13,12,11,10],[],[],[]⟩,⟨[20,19,18,17,16,3,2,1,0,15,7,6,5,4,14,9,8,13,12,11,10],[],[],[]⟩,⟨[21,20,19,18,17,16,3,2,1,0,15,7,6,5,4,14,9,8,13,12,11,10],[],[],[]⟩,⟨[22,21,20,19,18,17,16,3,2,1,0,15,7,6,5,4,14,9,8,13,12,11,10],[],[],[]⟩,⟨[23,22,21,20,19,18,17,16,3,2,1,0,15,7,6,5,4,14,9,8,13,12,11,10],[],[],[]⟩,⟨[21,20,19,18,17,16,3,2,1,0,15,7,6,5,4,14,9,8,13,12,11,10,24,23,22],[],[],[]⟩,⟨[17,16,3,2,1,0,15,7,6,5,4,14,9,8,13,12,11,10,25,21,20,19,18,24,23,22],[],[],[]⟩]),
  (5,[⟨[],[],[],[]⟩,⟨[0],[],[],[]⟩,⟨[1,0],[],[],[]⟩,⟨[2,1,0],[],[],[]⟩,⟨[3,2,1,0],[],[43,44,45,46],[]⟩,⟨[4,3,2,1,0],[],[43,44,45,46],[]⟩,⟨[3,2,1,0],[],[41,42],[]⟩,⟨[6,3,2,1,0],[],[41,42],[]⟩,⟨[7,6,3,2,1,0],[],[41,42],[]⟩,⟨[8,7,6,3,2,1,0],[],[41,42],[]⟩,⟨[5,4,3,2,1,0,9,8,7,6],[],[],[]⟩,⟨[3,2,1,0,10,5,4,9,8,7,6],[],[],[]⟩,⟨[11,3,2,1,0,10,5,4,9,8,7,6],[],[],[]⟩,⟨[12,11,3,2,1,0,10,5,4,9,8,7,6],[],[],[]⟩,⟨[13,12,11,3,2,1,0,10,5,4,9,8,7,6],[],[],[]⟩,⟨[14,13,12,11,3,2,1,0,10,5,4,9,8,7,6],[],[],[]⟩,⟨[15,14,13,12,11,3,2,1,0,10,5,4,9,8,7,6],[],[],[]⟩,⟨[16,15,14,13,12,11,3,2,1,0,10,5,4,9,8,7,6],[],[],[]⟩,⟨[17,16,15,14,13,12,11,3,2,1,0,10,5,4,9,8,7,6],[],[],[]⟩,⟨[18,17,16,15,14,13,12,11,3,2,1,0,10,5,4,9,8,7,6],[],[],[]⟩,⟨[16,15,14,13,12,11,3,2,1,0,10,5,4,9,8,7,6,19,18,17],[],[],[]⟩,⟨[12,11,3,2,1,0,10,5,4,9,8,7,6,20,16,15,14,13,19,18,17],[],[],[]⟩])],[(100025,jh.ck_r),(27,jh.c27r),(20,jh.c20r),(100012,jh.cj_r),(14,jh.c14r),(7,jh.c7r),(5,jh.c5r),(3,jh.c3r),(1,jh.c1r)],[],jP,[]⟩
theorem jh.p0:PcA jh.G Tryd.f34 0:=
  jE (s:=jh.c1r) (by kernel_rfl) (by kernel_rfl) (jG (sh:=jh.c1s) (fun ρ X Z=>(jv jd jd)) (fun ρ X t k=>(by kernel_rfl)) (fun X=>by kernel_rfl))
theorem jh.p1:PcA jh.G Tryd.f34 1:=
  jE (s:=jh.c3r) (by kernel_rfl) (by kernel_rfl) (jG (sh:=jh.c1s) (fun ρ X Z=>(jv jd (jv jd (jc fun _=>(jv jd jd))))) (fun ρ X t k=>(by kernel_rfl)) (fun X=>by kernel_rfl))
theorem jh.p2:PcA jh.G Tryd.f34 2:=
  jE (s:=jh.c5r) (by kernel_rfl) (by kernel_rfl) (jG (sh:=jh.c1s) (fun ρ X Z=>(jv jd (jv jd (jv jd jd)))) (fun ρ X t k=>(by kernel_rfl)) (fun X=>by kernel_rfl))
theorem jh.p3:PcA jh.G Tryd.f34 3:=
  jE (s:=jh.c7r) (by kernel_rfl) (by kernel_rfl) (jG (sh:=jh.c1s) (fun ρ X Z=>(jv (jc fun _=>jd) jd)) (fun ρ X t k=>(by kernel_rfl)) (fun X=>by kernel_rfl))
theorem jh.p4:PcA jh.G Tryd.f34 4:=
  Jt (s:=jh.cj_r) (by kernel_rfl) (by kernel_rfl) (Je (sh:=jh.cj_s) (I:=fun X Q=>(X.1,X.2.1,X.2.2.1,X.2.2.2.1,Q.1,(q4 X).2.1,(q4 X).2.2.1,(q4 X).2.2.2.1,(q8 X).1,(q8 X).2.1,(q8 X).2.2.1,Q.2,(q4 (q8 X)))) (fun X=>rfl) (fun ρ X Q Z=>(jv (jc fun _=>(jc fun _=>(jv jd (jc fun _=>(jc fun _=>(jc fun _=>(jv jd (jc fun _=>(jc fun _=>(jc fun _=>jd)))))))))) jd)) (fun ρ X t k=>(kl (fun _=>(by kernel_rfl)) (fun _=>(by kernel_rfl)))) (fun X s=>by kernel_rfl))
theorem jh.p5:PcA jh.G Tryd.f34 5:=
  jE (s:=jh.c14r) (by kernel_rfl) (by kernel_rfl) (jG (sh:=jh.c14s) (fun ρ X Z=>(jv jd jd)) (fun ρ X t k=>(by kernel_rfl)) (fun X=>by kernel_rfl))
theorem jh.p6:PcA jh.G Tryd.f34 6:=
  jE (s:=jh.c20r) (by kernel_rfl) (by kernel_rfl) (jG (sh:=jh.cj_s) (fun ρ X Z=>(jv (jv jd (jv jd (jv jd jd))) (jv jd jd))) (fun ρ X t k=>(by kernel_rfl)) (fun X=>by kernel_rfl))
theorem jh.p7:PcA jh.G Tryd.f34 7:=
  Jt (s:=jh.ck_r) (by kernel_rfl) (by kernel_rfl) (Je (sh:=jh.ck_s) (I:=fun X Q=>(X.1,X.2.1,X.2.2.1,X.2.2.2.1,(q4 X).1,(q4 X).2.1,(q4 X).2.2.1,Q,(q8 X))) (fun X=>rfl) (fun ρ X Q Z=>(jv (jc fun _=>(jc fun _=>(jv jd jd))) jd)) (fun ρ X t k=>(kl (fun _=>(by kernel_rfl)) (fun _=>(by kernel_rfl)))) (fun X s=>by kernel_rfl))
theorem jh.p8:PcA jh.G Tryd.f34 8:=
  jE (s:=jh.c27r) (by kernel_rfl) (by kernel_rfl) (jG (sh:=jh.c27s) (fun ρ X Z=>(jv jd (jv jd jd))) (fun ρ X t k=>(by kernel_rfl)) (fun X=>by kernel_rfl))
theorem jh.ok:MOk Tryd.prog 34 jh.mc:=kq (mc:=jh.mc) (G:=jh.G) jV mixed Tryd.func34 ⟨(jI Jk.ok (jI Js.ok jR)),jM,jC,jL⟩ (m:=9) (by kernel_rfl) ⟨⟨⟨⟨⟨⟨⟨⟨⟨trivial,jh.p0⟩,jh.p1⟩,jh.p2⟩,jh.p3⟩,jh.p4⟩,jh.p5⟩,jh.p6⟩,jh.p7⟩,jh.p8⟩ (by kernel_rfl) (fun _=>by kernel_rfl)
abbrev sd10:SD:=.one (.val (.st (.pair (.int .i64) (.pair (.int .i64) (.sl (.st (.pair (.int .i64) (.pair (.int .i64) (.pair (.sl (.int .i64)) (.pair (.int .i64) (.pair (.int .i64) (.sl (.int .i64)))))))))))))
abbrev sd11:SD:=.one (.ref 1 0)
abbrev sd12:SO:=.box [.val (.int .i64),.val (.int .i64)]
abbrev sd13:SD:=.one (.val (.sl (.st (.pair (.int .i64) (.pair (.int .i64) (.pair (.sl (.int .i64)) (.pair (.int .i64) (.pair (.int .i64) (.sl (.int .i64))))))))))
def jw.c1 (c0:Int)(Z:Bool→Option ρ):Option ρ:=
  br (decide (c0<1))
   (Z true)
   (Z (decide (c0>12)))
def jw.c1s:Shape:=⟨[(0,sd10),(1,sd11),(2,sd5)],[(1,sd4),(2,sd12)]⟩
def jw.c1x0:Shape:=⟨[(0,sd10),(1,sd11),(2,sd5),(6,sd1)],[(1,sd4),(2,sd12)]⟩
def jw.c1r:Ck:=Ck.of (T:=Bool) jw.c1s (fun ρ X Z=>jw.c1 X.2.1 Z) (fun ρ X V Z=>Z 0 (Shape.inj jw.c1x0 (X.1,V,X.2)))
def jw.c3 (c1:Int)(Z:Bool→Option ρ):Option ρ:=
  br (decide (c1<0))
   (Z true)
   (Z (decide (c1>12)))
def jw.c3x0:Shape:=⟨[(0,sd10),(1,sd11),(2,sd5),(16,sd1)],[(1,sd4),(2,sd12)]⟩
def jw.c3r:Ck:=Ck.of (T:=Bool) jw.c1s (fun ρ X Z=>jw.c3 X.2.2.1 Z) (fun ρ X V Z=>Z 0 (Shape.inj jw.c3x0 (X.1,V,X.2)))
def jw.cf_ (t33:List ((Int)×((Int)×((List Int)×((Int)×((Int)×(List Int)))))))(t34:Int)(t35:Int)(c0:Int)(c1:Int)(c2:List ((Int)×((Int)×((List Int)×((Int)×((Int)×(List Int)))))))(Z:((Int)×(Int)×(Int)×(List ((Int)×((Int)×((List Int)×((Int)×((Int)×(List Int))))))))⊕(((Int)×(Int)×(Int)×(List ((Int)×((Int)×((List Int)×((Int)×((Int)×(List Int)))))))×(Int)×(Int))⊕((Int)×(Int)×(Int)×(List ((Int)×((Int)×((List Int)×((Int)×((Int)×(List Int)))))))))→Option ρ):Option ρ:=
  br (decide (t35<t34))
   (bnd (idx t33 t35) fun y=>
    bnd (jh (y.1,y.2.1,y.2.2.1,y.2.2.2.1,y.2.2.2.2.1,y.2.2.2.2.2) c0 c1 c2) fun y1=>
    br (y1.1 !=0)
     (bnd (Jq y1.1 t35) fun y2=>
      Z (.inr (.inl (t35,y1.2.1,y1.2.2.1,y1.2.2.2.1,y2.1,y2.2))))
     (Z (.inl ((i64.wrap (t35+1)),y1.2.1,y1.2.2.1,y1.2.2.2.1))))
   (Z (.inr (.inr (t35,c0,c1,c2))))
def jw.cf_s:Shape:=⟨[(0,sd10),(1,sd11),(2,sd5),(33,sd13),(34,sd0),(35,sd0)],[(1,sd4),(2,sd12)]⟩
def jw.cf_r:Ck:=Ck.ofLoop (S:=(Int)×(Int)×(Int)×(List ((Int)×((Int)×((List Int)×((Int)×((Int)×(List Int)))))))) (T:=((Int)×(Int)×(Int)×(List ((Int)×((Int)×((List Int)×((Int)×((Int)×(List Int)))))))×(Int)×(Int))⊕((Int)×(Int)×(Int)×(List ((Int)×((Int)×((List Int)×((Int)×((Int)×(List Int))))))))) jw.cf_s (fun X=>(X.2.2.2.1,(q4 X).1,(q4 X).2.1,(q4 X).2.2.1)) (fun ρ X Q Z=>jw.cf_ X.2.1 X.2.2.1 Q.1 Q.2.1 Q.2.2.1 Q.2.2.2 Z) (fun ρ X V Z=>sel V (fun V=>Z 1 (Shape.inj jw.cf_s (X.1,X.2.1,X.2.2.1,V.1,V.2.1,V.2.2.1,V.2.2.2.1,V.2.2.2.2.1,V.2.2.2.2.2,()))) (fun V=>Z 3 (Shape.inj jw.cf_s (X.1,X.2.1,X.2.2.1,V.1,V.2.1,V.2.2.1,V.2.2.2,(q4 X).2.2.2))))
def jw (c:(Int)×((Int)×(List ((Int)×((Int)×((List Int)×((Int)×((Int)×(List Int))))))))):Option ((Int)×(Int)):=
  bnd (jw.c1 c.1 some) fun y=>
  br y
   (bnd (Jq (6:Int) (0:Int)) fun y1=>
    some (y1.1,y1.2))
   (bnd (jw.c3 c.2.1 some) fun y2=>
    br y2
     (bnd (Jq (7:Int) (0:Int)) fun y3=>
      some (y3.1,y3.2))
     (br (decide ((↑(List.length c.2.2):Int)>4096))
       (bnd (Jq (2:Int) (0:Int)) fun y4=>
        some (y4.1,y4.2))
       (bnd (iter (fun s↦jw.cf_ c.2.2 (↑(List.length c.2.2):Int) s.1 s.2.1 s.2.2.1 s.2.2.2 some) ((0:Int),c.1,c.2.1,c.2.2)) fun y5=>
        sel y5
         (fun u=>some (u.2.2.2.2.1,u.2.2.2.2.2))
         (fun v=>some ((0:Int),(0:Int))))))
def jw.ce:Go.Ql.Callee:=⟨[(.st (.pair (.int .i64) (.pair (.int .i64) (.sl (.st (.pair (.int .i64) (.pair (.int .i64) (.pair (.sl (.int .i64)) (.pair (.int .i64) (.pair (.int .i64) (.sl (.int .i64))))))))))))],[(.st (.pair (.int .i64) (.int .i64)))],fun X=>jw X⟩
def jw.G:Env:=⟨49,tab,[(21,Jq.ce)],[0,1,2,3,4,5,6,16,26,33,34,35,36,43],[],[],[(100008,jw.cf_r),(3,jw.c3r),(1,jw.c1r)],[(34,jh.mc)],jP,[]⟩
theorem jw.p0:PcA jw.G Tryd.f20 0:=
  jE (s:=jw.c1r) (by kernel_rfl) (by kernel_rfl) (jG (sh:=jw.c1s) (fun ρ X Z=>(jv jd jd)) (fun ρ X t k=>(by kernel_rfl)) (fun X=>by kernel_rfl))
theorem jw.p1:PcA jw.G Tryd.f20 1:=
  jE (s:=jw.c3r) (by kernel_rfl) (by kernel_rfl) (jG (sh:=jw.c1s) (fun ρ X Z=>(jv jd jd)) (fun ρ X t k=>(by kernel_rfl)) (fun X=>by kernel_rfl))
theorem jw.p2:PcA jw.G Tryd.f20 2:=
  Jt (s:=jw.cf_r) (by kernel_rfl) (by kernel_rfl) (Je (sh:=jw.cf_s) (I:=fun X Q=>(X.1,X.2.1,X.2.2.1,Q.1,Q.2.1,Q.2.2.1,Q.2.2.2,(q4 X).2.2.2)) (fun X=>rfl) (fun ρ X Q Z=>(jv (jc fun _=>(jc fun _=>(jv (jc fun _=>jd) jd))) jd)) (fun ρ X t k=>(kl (fun _=>(by kernel_rfl)) (fun _=>(by kernel_rfl)))) (fun X s=>by kernel_rfl))
theorem jw.ok:CalleeOk Tryd.prog 20 jw.ce:=fn_ok (G:=jw.G) jV mixed Tryd.func20 ⟨(jI Jq.ok jR),(JI jh.ok jM),jC,jL⟩ (m:=3) (by kernel_rfl) ⟨⟨⟨trivial,jw.p0⟩,jw.p1⟩,jw.p2⟩ (by kernel_rfl) (fun _=>by kernel_rfl)
def JB (code:Int) (t1:Int):Option ((Int)×(Int)):=
  some (code,t1)
def JB.ce:Go.Ql.Callee:=⟨[(.int .i64),(.int .i64)],[(.st (.pair (.int .i64) (.int .i64)))],fun X=>JB X.1 X.2⟩
def JB.G:Env:=⟨8,tab,[],[0,1,4],[],[],[],[],jP,[]⟩
theorem JB.ok:CalleeOk Tryd.prog 29 JB.ce:=fn_ok (G:=JB.G) jV mixed Tryd.func29 ⟨jR,jM,jC,jL⟩ (m:=0) (by kernel_rfl) trivial (by kernel_rfl) (fun _=>by kernel_rfl)
abbrev sd14:SD:=.one (.val (.sl (.int .u32)))
abbrev sd15:SD:=.one (.ref 4 0)
abbrev sd16:SO:=.box [.val .bool,.val (.sl (.int .u32))]
def whole_made.c2 (mag:List (Int))(n:Int)(Z:Bool→Option ρ):Option ρ:=
  br (decide (n>0))
   (bnd (idx mag (i64.wrap (n-1))) fun y=>
    Z (y==0))
   (Z false)
def whole_made.c2s:Shape:=⟨[(0,sd1),(1,sd14),(4,sd15),(5,sd0)],[(4,sd16)]⟩
def whole_made.c2x0:Shape:=⟨[(0,sd1),(1,sd14),(4,sd15),(5,sd0),(17,sd1)],[(4,sd16)]⟩
def whole_made.c2r:Ck:=Ck.of (T:=Bool) whole_made.c2s (fun ρ X Z=>whole_made.c2 X.2.1 X.2.2.1 Z) (fun ρ X V Z=>Z 0 (Shape.inj whole_made.c2x0 (X.1,X.2.1,X.2.2.1,V,X.2.2.2)))
def whole_made.cc_ (mag:List (Int))(n:Int)(Z:(Int)⊕(Int)→Option ρ):Option ρ:=
  bnd (whole_made.c2 mag n some) fun y=>
  br y
   (Z (.inl (i64.wrap (n-1))))
   (Z (.inr n))
def whole_made.cc_r:Ck:=Ck.ofLoop (S:=Int) (T:=Int) whole_made.c2s (fun X=>X.2.2.1) (fun ρ X Q Z=>whole_made.cc_ X.2.1 Q Z) (fun ρ X V Z=>Z 2 (Shape.inj whole_made.c2s (X.1,X.2.1,V,X.2.2.2)))
def whole_made (neg:Bool) (mag:List (Int)):Option (Bool×(List Int)):=
  bnd (iter (fun s↦whole_made.cc_ mag s some) ↑(mag.length)) fun y=>
  br (y==0)
   (some (false,[]))
   (bnd (okIf (decide ((0:Int)≤y)&&decide (y≤y)&&decide (y≤(mag.length:Int)))) fun y1=>
    some (neg,List.take (Int.toNat y) mag))
def whole_made.ce:Go.Ql.Callee:=⟨[.bool,(.sl (.int .u32))],[(.st (.pair .bool (.sl (.int .u32))))],fun X=>whole_made X.1 X.2⟩
def whole_made.G:Env:=⟨29,tab,[],[0,1,4,5,17,21],[],[],[(100002,whole_made.cc_r),(2,whole_made.c2r)],[],jP,[]⟩
theorem whole_made.p0:PcA whole_made.G Tryd.f78 0:=
  Jt (s:=whole_made.cc_r) (by kernel_rfl) (by kernel_rfl) (Je (sh:=whole_made.c2s) (I:=fun X Q=>(X.1,X.2.1,Q,X.2.2.2)) (fun X=>rfl) (fun ρ X Q Z=>(jc fun _=>(jv jd jd))) (fun ρ X t k=>(by kernel_rfl)) (fun X s=>by kernel_rfl))
theorem whole_made.p1:PcA whole_made.G Tryd.f78 1:=
  jE (s:=whole_made.c2r) (by kernel_rfl) (by kernel_rfl) (jG (sh:=whole_made.c2s) (fun ρ X Z=>(jv (jc fun _=>jd) jd)) (fun ρ X t k=>(by kernel_rfl)) (fun X=>by kernel_rfl))
theorem whole_made.ok:CalleeOk Tryd.prog 78 whole_made.ce:=fn_ok (G:=whole_made.G) jV mixed Tryd.func78 ⟨jR,jM,jC,jL⟩ (m:=2) (by kernel_rfl) ⟨⟨trivial,whole_made.p0⟩,whole_made.p1⟩ (by kernel_rfl) (fun _=>by kernel_rfl)
abbrev sd17:SD:=.one (.val (.int .u64))
def whole_Of.cu_ (n:Int)(u:Int)(Z:Int→Option ρ):Option ρ:=
  br (decide (n<0))
   (Z (u64.wrap ((0:Int)-u)))
   (Z u)
def whole_Of.cu_s:Shape:=⟨[(0,sd0),(2,sd5),(3,sd17)],[(2,sd16)]⟩
def whole_Of.cu_r:Ck:=Ck.of (T:=Int) whole_Of.cu_s (fun ρ X Z=>whole_Of.cu_ X.1 X.2.1 Z) (fun ρ X V Z=>Z 0 (Shape.inj whole_Of.cu_s (X.1,V,X.2.2)))
def whole_Of (n:Int):Option (Bool×(List Int)):=
  bnd (whole_Of.cu_ n (IntKind.wrap IntKind.u64 n) some) fun y=>
  bnd (whole_made (decide (n<0)) [IntKind.wrap IntKind.u32 y,u32.wrap (Int.fdiv y ((2:Int) ^32))]) fun y1=>
  some (y1.1,y1.2)
def whole_Of.ce:Go.Ql.Callee:=⟨[(.int .i64)],[(.st (.pair .bool (.sl (.int .u32))))],fun X=>whole_Of X⟩
def whole_Of.G:Env:=⟨19,tab,[(78,whole_made.ce)],[0,2,3,7],[],[],[(208197,whole_Of.cu_r)],[],jP,[]⟩
theorem whole_Of.p0:PcA whole_Of.G Tryd.f88 0:=
  kj (s:=whole_Of.cu_r) (by kernel_rfl) (by kernel_rfl) (jG (sh:=whole_Of.cu_s) (fun ρ X Z=>(jv jd jd)) (fun ρ X t k=>(by kernel_rfl)) (fun X=>by kernel_rfl))
theorem whole_Of.ok:CalleeOk Tryd.prog 88 whole_Of.ce:=fn_ok (G:=whole_Of.G) jV mixed Tryd.func88 ⟨(jI whole_made.ok jR),jM,jC,jL⟩ (m:=1) (by kernel_rfl) ⟨trivial,whole_Of.p0⟩ (by kernel_rfl) (fun _=>by kernel_rfl)
def kb  : Option ((List (Bool×(List Int)))×(Int)):=
  bnd (whole_Of (1:Int)) fun y=>
  some (List.set (List.replicate (8:Nat) (false,[])) (0:Nat) y,(0:Int))
def kb.ce:Go.Ql.Callee:=⟨[],[(.st (.pair (.ar 8 (.st (.pair .bool (.sl (.int .u32))))) (.int .i64)))],fun X=>kb⟩
def kb.G:Env:=⟨4,tab,[(88,whole_Of.ce)],[0],[0,3],[],[],[],jP,[]⟩
theorem kb.ok:CalleeOk Tryd.prog 76 kb.ce:=fn_ok (G:=kb.G) jV mixed Tryd.func76 ⟨(jI whole_Of.ok jR),jM,jC,jL⟩ (m:=0) (by kernel_rfl) trivial (by kernel_rfl) (fun _=>by kernel_rfl)
def whole_Int_Neg (a:Bool×(List Int)):Option (Bool×(List Int)):=
  bnd (whole_made (!a.1) a.2) fun y=>
  some (y.1,y.2)
def whole_Int_Neg.ce:Go.Ql.Callee:=⟨[(.st (.pair .bool (.sl (.int .u32))))],[(.st (.pair .bool (.sl (.int .u32))))],fun X=>whole_Int_Neg X⟩
def whole_Int_Neg.G:Env:=⟨9,tab,[(78,whole_made.ce)],[0,1,2],[],[],[],[],jP,[]⟩
theorem whole_Int_Neg.ok:CalleeOk Tryd.prog 64 whole_Int_Neg.ce:=fn_ok (G:=whole_Int_Neg.G) jV mixed Tryd.func64 ⟨(jI whole_made.ok jR),jM,jC,jL⟩ (m:=0) (by kernel_rfl) trivial (by kernel_rfl) (fun _=>by kernel_rfl)
abbrev sd18:SD:=.one (.val (.st (.pair (.ar 8 (.st (.pair .bool (.sl (.int .u32))))) (.int .i64))))
abbrev sd19:SD:=.one (.fptr (.st (.pair (.ar 8 (.st (.pair .bool (.sl (.int .u32))))) (.int .i64))))
abbrev sd20:SD:=.one (.aptr 4 0)
abbrev sd21:SD:=.one (.ref 7 0)
abbrev sd22:SD:=.one (.val (.ar 8 (.st (.pair .bool (.sl (.int .u32))))))
abbrev sd23:SO:=.arr 0 false 78 (.st (.pair (.ar 8 (.st (.pair .bool (.sl (.int .u32))))) (.int .i64)))
def jq.cw_ (t1:Int)(i:Int)(x0:Bool)(x1:List (Int))(Z:Bool×(List Int)→Option ρ):Option ρ:=
  br (ibits BinOp.and IntKind.i64 (i64.wrap (i+t1)) (8:Int) !=0)
   (bnd (whole_Int_Neg (x0,x1)) fun y=>
    Z (y.1,y.2))
   (Z (x0,x1))
def jq.cw_s:Shape:=⟨[(0,sd18),(1,sd0),(2,sd19),(4,sd20),(5,sd7),(6,sd0),(7,sd21),(14,sd22),(15,sd0)],[(4,sd23),(5,sd23),(7,sd16)]⟩
def jq.cw_r:Ck:=Ck.of (T:=Bool×(List Int)) jq.cw_s (fun ρ X Z=>jq.cw_ X.2.1 X.2.2.2.1 (q8 X).1 (q8 X).2.1 Z) (fun ρ X V Z=>Z 0 (Shape.inj jq.cw_s (X.1,X.2.1,X.2.2.1,X.2.2.2.1,(q4 X).1,(q4 X).2.1,(q4 X).2.2.1,(q4 X).2.2.2.1,V.1,V.2,())))
def jq.cb_ (t1:Int)(t14:List (Bool×(List Int)))(t15:Int)(out:List ((List (Bool×(List Int)))×(Int)))(Z:((Int)×(List ((List (Bool×(List Int)))×(Int))))⊕((Int)×(List ((List (Bool×(List Int)))×(Int))))→Option ρ):Option ρ:=
  br (decide (t15<8))
   (bnd (idx t14 t15) fun y=>
    bnd (jq.cw_ t1 t15 y.1 y.2 some) fun y1=>
    bnd (inR (out.length) (0:Int)) fun y2=>
    bnd (okIf (decide ((0:Ty.den (Ty.int IntKind.i64))≤ibits BinOp.and IntKind.i64 (i64.wrap (t15+t1)) (7:Int))&&decide (ibits BinOp.and IntKind.i64 (i64.wrap (t15+t1)) (7:Int)<(↑(8:Nat):Int)))) fun y3=>
    bnd (idx out (0:Int)) fun y4=>
    bnd (idx y4.1 (ibits BinOp.and IntKind.i64 (i64.wrap (t15+t1)) (7:Int))) fun y5=>
    Z (.inl ((i64.wrap (t15+1)),(List.set out (0:Nat) (List.set y4.1 (Int.toNat (ibits BinOp.and IntKind.i64 (i64.wrap (t15+t1)) (7:Int))) (y1.1,y1.2),y4.2)))))
   (Z (.inr (t15,out)))
def jq.cb_s:Shape:=⟨[(0,sd18),(1,sd0),(2,sd19),(4,sd20),(5,sd7),(14,sd22),(15,sd0)],[(4,sd23),(5,sd23)]⟩
def jq.cb_r:Ck:=Ck.ofLoop (S:=(Int)×(List ((List (Bool×(List Int)))×(Int)))) (T:=(Int)×(List ((List (Bool×(List Int)))×(Int)))) jq.cb_s (fun X=>((q4 X).1,(q4 X).2.2.1)) (fun ρ X Q Z=>jq.cb_ X.2.1 X.2.2.2.1 Q.1 Q.2 Z) (fun ρ X V Z=>Z 2 (Shape.inj jq.cb_s (X.1,X.2.1,X.2.2.1,X.2.2.2.1,V.1,(q4 X).2.1,V.2,())))
def jq (a:(List (Bool×(List Int)))×(Int)) (t1:Int):Option ((List (Bool×(List Int)))×(Int)):=
  bnd (iter (fun s↦jq.cb_ (ibits BinOp.and IntKind.i64 t1 (15:Int)) a.1 s.1 s.2 some) ((0:Int),[(List.replicate (8:Nat) (false,[]),a.2)])) fun y=>
  bnd (idx y.2 (0:Int)) fun y1=>
  some y1
def jq.ce:Go.Ql.Callee:=⟨[(.st (.pair (.ar 8 (.st (.pair .bool (.sl (.int .u32))))) (.int .i64))),(.int .i64)],[(.st (.pair (.ar 8 (.st (.pair .bool (.sl (.int .u32))))) (.int .i64)))],fun X=>jq X.1 X.2⟩
def jq.G:Env:=⟨35,tab,[(64,whole_Int_Neg.ce)],[0,1,2,4,5,6,7,14,15,16,23],[4,5,12,8000002],[],[(100004,jq.cb_r),(224581,jq.cw_r)],[],jP,[]⟩
theorem jq.p0:PcA jq.G Tryd.f66 0:=
  Jt (s:=jq.cb_r) (by kernel_rfl) (by kernel_rfl) (Je (sh:=jq.cb_s) (I:=fun X Q=>(X.1,X.2.1,X.2.2.1,X.2.2.2.1,Q.1,(q4 X).2.1,Q.2,())) (fun X=>rfl) (fun ρ X Q Z=>(jv (jc fun _=>(jc fun _=>(jc fun _=>(jc fun _=>(jc fun _=>(jc fun _=>jd)))))) jd)) (fun ρ X t k=>(by kernel_rfl)) (fun X s=>by kernel_rfl))
theorem jq.p1:PcA jq.G Tryd.f66 1:=
  kj (s:=jq.cw_r) (by kernel_rfl) (by kernel_rfl) (jG (sh:=jq.cw_s) (fun ρ X Z=>(jv (jc fun _=>jd) jd)) (fun ρ X t k=>(by kernel_rfl)) (fun X=>by kernel_rfl))
theorem jq.ok:CalleeOk Tryd.prog 66 jq.ce:=fn_ok (G:=jq.G) jV mixed Tryd.func66 ⟨(jI whole_Int_Neg.ok jR),jM,jC,jL⟩ (m:=2) (by kernel_rfl) ⟨⟨trivial,jq.p0⟩,jq.p1⟩ (by kernel_rfl) (fun _=>by kernel_rfl)
def JU (t0:Int):Option ((List (Bool×(List Int)))×(Int)):=
  bnd kb fun y=>
  bnd (jq y t0) fun y1=>
  some y1
def JU.ce:Go.Ql.Callee:=⟨[(.int .i64)],[(.st (.pair (.ar 8 (.st (.pair .bool (.sl (.int .u32))))) (.int .i64)))],fun X=>JU X⟩
def JU.G:Env:=⟨6,tab,[(76,kb.ce),(66,jq.ce)],[0,2],[2],[],[],[],jP,[]⟩
theorem JU.ok:CalleeOk Tryd.prog 57 JU.ce:=fn_ok (G:=JU.G) jV mixed Tryd.func57 ⟨(jI kb.ok (jI jq.ok jR)),jM,jC,jL⟩ (m:=0) (by kernel_rfl) trivial (by kernel_rfl) (fun _=>by kernel_rfl)
abbrev sd24:SD:=.one (.own 0 0)
def JA.pre:Shape:=⟨[(0,sd0),(1,sd0)],[]⟩
def JA.post:Shape:=⟨[(0,sd24)],[(0,sd23)]⟩
def JA (qubits:Int) (t1:Int):Option ((List ((List (Bool×(List Int)))×(Int)))×Unit):=
  bnd (okIf (decide ((0:Int)≤qubits))) fun y=>
  bnd (okIf (decide ((0:Int)≤i64.wrap ((1:Int)*2^Min.min (Int.toNat qubits) (64:Nat)))&&decide (i64.wrap ((1:Int)*2^Min.min (Int.toNat qubits) (64:Nat))≤i64.wrap ((1:Int)*2^Min.min (Int.toNat qubits) (64:Nat)))&&decide (i64.wrap ((1:Int)*2^Min.min (Int.toNat qubits) (64:Nat))*(↑(264:Nat):Int)≤140737488355328)&&decide (i64.wrap ((1:Int)*2^Min.min (Int.toNat qubits) (64:Nat))≤140737488355328))) fun y1=>
  bnd (JU (0:Int)) fun y2=>
  bnd (inR (List.length (List.replicate (Int.toNat (i64.wrap ((1:Int)*2^Min.min (Int.toNat qubits) (64:Nat)))) (List.replicate (8:Nat) (false,([]:List (Ty.den (Ty.int IntKind.u32)))),(0:Int)))) t1) fun y3=>
  bnd (idx (List.replicate (Int.toNat (i64.wrap ((1:Int)*2^Min.min (Int.toNat qubits) (64:Nat)))) (List.replicate (8:Nat) (false,([]:List (Ty.den (Ty.int IntKind.u32)))),(0:Int))) t1) fun y4=>
  some (List.set (List.replicate (Int.toNat (i64.wrap ((1:Int)*2^Min.min (Int.toNat qubits) (64:Nat)))) (List.replicate (8:Nat) (false,([]:List (Ty.den (Ty.int IntKind.u32)))),(0:Int))) (Int.toNat t1) y2,())
def JA.mc:MCallee:=⟨40,JA.pre,JA.post,fun X=>JA X.1 X.2.1⟩
def JA.G:Env:=⟨14,tab,[(57,JU.ce)],[0,1,4,5],[4,8],[],[],[],jP,[]⟩
theorem JA.ok:MOk Tryd.prog 40 JA.mc:=kq (mc:=JA.mc) (G:=JA.G) jV mixed Tryd.func40 ⟨(jI JU.ok jR),jM,jC,jL⟩ (m:=0) (by kernel_rfl) trivial (by kernel_rfl) (fun _=>by kernel_rfl)
abbrev sd25:SD:=.one (.ref 0 0)
abbrev sd26:SD:=.one (.val (.st (.pair (.int .i64) (.int .i64))))
abbrev sd27:SO:=.box [.val (.int .i64),.val (.int .i64),.val (.sl (.st (.pair (.int .i64) (.pair (.int .i64) (.pair (.sl (.int .i64)) (.pair (.int .i64) (.pair (.int .i64) (.sl (.int .i64))))))))),.own 1 0,.own 2 0,.val (.int .i64),.val (.int .i64)]
abbrev sd28:SO:=.arr 0 false 3 (.int .i64)
abbrev sd29:SD:=.one (.val (.nilv 0))
abbrev sd30:SD:=.one (.ref 5 0)
abbrev sd31:SD:=.one (.ref 6 0)
abbrev sd32:SD:=.one (.ref 32 0)
abbrev sd33:SO:=.box [.val (.int .i64),.val (.int .i64),.val (.sl (.st (.pair (.int .i64) (.pair (.int .i64) (.pair (.sl (.int .i64)) (.pair (.int .i64) (.pair (.int .i64) (.sl (.int .i64))))))))),.own 27 0,.own 30 0,.val (.int .i64),.val (.int .i64)]
def jx.pre:Shape:=⟨[(0,sd10),(1,sd0)],[]⟩
def jx.post:Shape:=⟨[(0,sd25),(1,sd26)],[(0,sd27),(1,sd23),(2,sd28)]⟩
def jx.post2:Shape:=⟨[(0,sd29),(1,sd26)],[]⟩
def jx.c3  (Z:Unit→Option ρ):Option ρ:=
  Z ()
def jx.c3s:Shape:=⟨[(0,sd10),(1,sd0),(2,sd5),(4,sd29),(5,sd30),(6,sd31)],[(2,sd4),(5,sd12),(6,sd12)]⟩
def jx.c3r:Ck:=Ck.of (T:=Unit) jx.c3s (fun ρ X Z=>jx.c3  Z) (fun ρ X V Z=>Z 0 (Shape.inj jx.c3s (X.1,X.2.1,(),X.2.2.2.1,(q4 X).1,(q4 X).2.1,(q8 X).1,(q8 X).2.1,(q8 X))))
def jx.c4 (t1:Int)(c0:Int)(Z:Bool→Option ρ):Option ρ:=
  br (decide (t1<0))
   (Z true)
   (bnd (okIf (decide ((0:Int)≤c0))) fun y=>
    Z (decide (t1≥i64.wrap ((1:Int)*2^Min.min (Int.toNat c0) (64:Nat)))))
def jx.c4x0:Shape:=⟨[(0,sd10),(1,sd0),(2,sd5),(4,sd29),(5,sd30),(6,sd31),(21,sd1)],[(2,sd4),(5,sd12),(6,sd12)]⟩
def jx.c4r:Ck:=Ck.of (T:=Bool) jx.c3s (fun ρ X Z=>jx.c4 X.2.1 X.2.2.2.1 Z) (fun ρ X V Z=>Z 0 (Shape.inj jx.c4x0 (X.1,X.2.1,X.2.2.1,V,X.2.2.2)))
def jx.c6 (t1:Int)(c0:Int)(c1:Int)(Z:List ((List (Bool×(List Int)))×(Int))→Option ρ):Option ρ:=
  bnd (JA c0 t1) fun y=>
  bnd (okIf (decide ((0:Int)≤c1)&&decide (c1≤c1)&&decide (c1*(↑(8:Nat):Int)≤140737488355328)&&decide (c1≤140737488355328))) fun y1=>
  Z y.1
def jx.c6x0:Shape:=⟨[(0,sd10),(1,sd0),(2,sd5),(4,sd32),(5,sd30),(6,sd31)],[(2,sd4),(5,sd12),(6,sd12),(27,sd23),(30,sd28),(32,sd33)]⟩
def jx.c6r:Ck:=Ck.of (T:=List ((List (Bool×(List Int)))×(Int))) jx.c3s (fun ρ X Z=>jx.c6 X.2.1 X.2.2.2.1 (q4 X).1 Z) (fun ρ X V Z=>Z 0 (Shape.inj jx.c6x0 (X.1,X.2.1,X.2.2.2.1,(q4 X).1,(q4 X).2.1,(0:Int),(0:Int),(q8 X).1,(q8 X).2.1,V,(List.replicate (Int.toNat (q4 X).1) (0:Int)),X.2.2.2.1,(q4 X).1,(q4 X).2.1,(0:Int),(0:Int),())))
def jx (c:(Int)×((Int)×(List ((Int)×((Int)×((List Int)×((Int)×((Int)×(List Int))))))))) (t1:Int):Option ((((Int)×(Int))×(Int)×(Int)×(List ((Int)×((Int)×((List Int)×((Int)×((Int)×(List Int)))))))×(Int)×(Int)×(List ((List (Bool×(List Int)))×(Int)))×(List Int)×Unit)⊕((Unit)×((Int)×(Int))×Unit)):=
  bnd (jw (c.1,c.2.1,c.2.2)) fun y=>
  br (y.1 !=0)
   (bnd (jx.c3 some) fun y1=>
    some (Sum.inr ((),(y.1,y.2),())))
   (bnd (jx.c4 t1 c.1 some) fun y2=>
    br y2
     (bnd (JB (18:Int) (0:Int)) fun y3=>
      some (Sum.inr ((),(y3.1,y3.2),())))
     (bnd (jx.c6 t1 c.1 c.2.1 some) fun y4=>
      some (Sum.inl (((0:Int),(0:Int)),c.1,c.2.1,c.2.2,(0:Int),(0:Int),y4,List.replicate (Int.toNat c.2.1) (0:Int),()))))
def jx.ma:MAlt:=⟨28,jx.pre,jx.post,false,jx.post2,fun X=>jx X.1 X.2.1⟩
def jx.G:Env:=⟨34,tab,[(20,jw.ce),(29,JB.ce)],[0,1,2,4,5,6,11,21],[27,30,32],[(6,[⟨[],[],[24,25,26,27,28,29,30,33],[27,30]⟩,⟨[],[],[23,26,28,29,30,33],[30]⟩,⟨[1],[],[23,26,28,29,30,33],[30]⟩,⟨[],[],[23,24,25,28,29,30,33],[30]⟩,⟨[2,1,3],[27],[23,28,29,30,33],[30]⟩,⟨[],[],[23,24,25,26,27,33],[27]⟩,⟨[5],[],[23,24,25,26,27,33],[27]⟩,⟨[6,5],[30],[23,24,25,26,27,33],[27]⟩,⟨[0,4,2,1,3,7,6,5],[],[33],[]⟩,⟨[8,0,4,2,1,3,7,6,5],[32],[33],[]⟩,⟨[],[],[23,24,25,26,27,28,29,30,31,32,4],[27,30,32]⟩,⟨[9,8,0,4,2,1,3,7,6,5],[],[33],[]⟩,⟨[10,11,9,8,0,4,2,1,3,7,6,5],[5],[],[]⟩]),
  (3,[⟨[],[],[4],[]⟩,⟨[],[],[12],[]⟩,⟨[0,1],[5],[],[]⟩])],[(6,jx.c6r),(4,jx.c4r),(3,jx.c3r)],[(40,JA.mc)],jP,[]⟩
theorem jx.p0:PcA jx.G Tryd.f28 0:=
  jE (s:=jx.c3r) (by kernel_rfl) (by kernel_rfl) (jG (sh:=jx.c3s) (fun ρ X Z=>jd) (fun ρ X t k=>(by kernel_rfl)) (fun X=>by kernel_rfl))
theorem jx.p1:PcA jx.G Tryd.f28 1:=
  jE (s:=jx.c4r) (by kernel_rfl) (by kernel_rfl) (jG (sh:=jx.c3s) (fun ρ X Z=>(jv jd (jc fun _=>jd))) (fun ρ X t k=>(by kernel_rfl)) (fun X=>by kernel_rfl))
theorem jx.p2:PcA jx.G Tryd.f28 2:=
  jE (s:=jx.c6r) (by kernel_rfl) (by kernel_rfl) (jG (sh:=jx.c3s) (fun ρ X Z=>(jc fun _=>(jc fun _=>jd))) (fun ρ X t k=>(by kernel_rfl)) (fun X=>by kernel_rfl))
theorem jx.ok:AltOk Tryd.prog 28 jx.ma:=fna_ok (ma:=jx.ma) (G:=jx.G) jV mixed Tryd.func28 ⟨(jI jw.ok (jI JB.ok jR)),(JI JA.ok jM),jC,jL⟩ (m:=3) (by kernel_rfl) ⟨⟨⟨trivial,jx.p0⟩,jx.p1⟩,jx.p2⟩ (by kernel_rfl) (fun _=>by kernel_rfl)
abbrev sd34:SD:=.one (.ref 1000700 0)
abbrev sd35:SO:=.box [.val (.int .i64),.val (.int .i64),.val (.sl (.st (.pair (.int .i64) (.pair (.int .i64) (.pair (.sl (.int .i64)) (.pair (.int .i64) (.pair (.int .i64) (.sl (.int .i64))))))))),.own 2000701 0,.own 2000702 0,.val (.int .i64),.val (.int .i64)]
abbrev sd36:SD:=.one (.ref 3 0)
def jt.pre:Shape:=⟨[(0,sd34),(1,sd2)],[(1000700,sd35),(2000701,sd23),(2000702,sd28)]⟩
def jt.post:Shape:=⟨[(0,sd1)],[(1000700,sd35),(2000701,sd23),(2000702,sd28)]⟩
def jt.c4 (c:Int)(um:List (Int))(Z:Bool→Option ρ):Option ρ:=
  br (decide (c>0))
   (bnd (inR (um.length) (i64.wrap (c-1))) fun y=>
    bnd (idx um (i64.wrap (c-1))) fun y1=>
    br (y1==0)
     (Z true)
     (br (decide (c<0))
       (bnd (inR (um.length) (i64.wrap (i64.wrap ((0:Int)-c)-1))) fun y2=>
        bnd (idx um (i64.wrap (i64.wrap ((0:Int)-c)-1))) fun y3=>
        Z (y3==1))
       (Z false)))
   (br (decide (c<0))
     (bnd (inR (um.length) (i64.wrap (i64.wrap ((0:Int)-c)-1))) fun y4=>
      bnd (idx um (i64.wrap (i64.wrap ((0:Int)-c)-1))) fun y5=>
      Z (y5==1))
     (Z false))
def jt.c4s:Shape:=⟨[(0,sd34),(1,sd2),(3,sd36),(4,sd1),(6,sd0),(8,sd8),(9,sd0),(10,sd0)],[(3,sd6),(1000700,sd35),(2000701,sd23),(2000702,sd28)]⟩
def jt.c4x0:Shape:=⟨[(0,sd34),(1,sd2),(3,sd36),(4,sd1),(6,sd0),(8,sd8),(9,sd0),(10,sd0),(42,sd1)],[(3,sd6),(1000700,sd35),(2000701,sd23),(2000702,sd28)]⟩
def jt.c4r:Ck:=Ck.of (T:=Bool) jt.c4s (fun ρ X Z=>jt.c4 X.2.2.1 (q8 (q8 X)).2.2.1 Z) (fun ρ X V Z=>Z 0 (Shape.inj jt.c4x0 (X.1,X.2.1,X.2.2.1,X.2.2.2.1,(q4 X).1,(q4 X).2.1,V,(q4 X).2.2)))
def jt.cc_ (t8:List (Int))(t9:Int)(t10:Int)(um:List (Int))(Z:(Int)⊕((Int)⊕(Int))→Option ρ):Option ρ:=
  br (decide (t10<t9))
   (bnd (idx t8 t10) fun y=>
    bnd (jt.c4 y um some) fun y1=>
    br y1
     (Z (.inr (.inl t10)))
     (Z (.inl (i64.wrap (t10+1)))))
   (Z (.inr (.inr t10)))
def jt.cc_s:Shape:=⟨[(0,sd34),(1,sd2),(3,sd36),(4,sd1),(8,sd8),(9,sd0),(10,sd0)],[(3,sd6),(1000700,sd35),(2000701,sd23),(2000702,sd28)]⟩
def jt.cc_r:Ck:=Ck.ofLoop (S:=Int) (T:=(Int)⊕(Int)) jt.cc_s (fun X=>(q4 X).1) (fun ρ X Q Z=>jt.cc_ X.2.2.1 X.2.2.2.1 Q (q8 (q8 X)).2.1 Z) (fun ρ X V Z=>sel V (fun V=>Z 1 (Shape.inj jt.cc_s (X.1,false,X.2.2.1,X.2.2.2.1,V,(q4 X).2))) (fun V=>Z 2 (Shape.inj jt.cc_s (X.1,X.2.1,X.2.2.1,X.2.2.2.1,V,(q4 X).2))))
def jt (o:(Int)×((Int)×((List Int)×((Int)×((Int)×(List Int)))))) (ue:Int) (uf:Int) (ug:List ((Int)×((Int)×((List Int)×((Int)×((Int)×(List Int))))))) (uh:Int) (ui:Int) (ul:List ((List (Bool×(List Int)))×(Int))) (um:List (Int)):Option (Bool×(Int)×(Int)×(List ((Int)×((Int)×((List Int)×((Int)×((Int)×(List Int)))))))×(Int)×(Int)×(List ((List (Bool×(List Int)))×(Int)))×(List Int)×Unit):=
  bnd (iter (fun s↦jt.cc_ o.2.2.2.2.2 (↑(List.length o.2.2.2.2.2):Int) s um some) (0:Int)) fun y=>
  sel y
   (fun u=>some (false,ue,uf,ug,uh,ui,ul,um,()))
   (fun v=>some (true,ue,uf,ug,uh,ui,ul,um,()))
def jt.mc:MCallee:=⟨50,jt.pre,jt.post,fun X=>jt X.1 X.2.1 X.2.2.1 X.2.2.2.1 (q4 X).1 (q4 X).2.1 (q4 X).2.2.1 (q4 X).2.2.2.1⟩
def jt.G:Env:=⟨44,tab,[],[0,1,3,4,6,8,9,10,11,42],[1000700,2000701,2000702],[],[(100002,jt.cc_r),(4,jt.c4r)],[],jP,[]⟩
theorem jt.p0:PcA jt.G Tryd.f50 0:=
  Jt (s:=jt.cc_r) (by kernel_rfl) (by kernel_rfl) (Je (sh:=jt.cc_s) (I:=fun X Q=>(X.1,X.2.1,X.2.2.1,X.2.2.2.1,Q,(q4 X).2)) (fun X=>rfl) (fun ρ X Q Z=>(jv (jc fun _=>(jc fun _=>(jv jd jd))) jd)) (fun ρ X t k=>(kl (fun _=>(by kernel_rfl)) (fun _=>(by kernel_rfl)))) (fun X s=>by kernel_rfl))
theorem jt.p1:PcA jt.G Tryd.f50 1:=
  jE (s:=jt.c4r) (by kernel_rfl) (by kernel_rfl) (jG (sh:=jt.c4s) (fun ρ X Z=>(jv (jc fun _=>(jc fun _=>(jv jd (jv (jc fun _=>(jc fun _=>jd)) jd)))) (jv (jc fun _=>(jc fun _=>jd)) jd))) (fun ρ X t k=>(by kernel_rfl)) (fun X=>by kernel_rfl))
theorem jt.ok:MOk Tryd.prog 50 jt.mc:=kq (mc:=jt.mc) (G:=jt.G) jV mixed Tryd.func50 ⟨jR,jM,jC,jL⟩ (m:=2) (by kernel_rfl) ⟨⟨trivial,jt.p0⟩,jt.p1⟩ (by kernel_rfl) (fun _=>by kernel_rfl)
def Jg.ca_ (m:Int)(t6:List (Int))(t7:Int)(t8:Int)(Z:((Int)×(Int))⊕((Int)×(Int))→Option ρ):Option ρ:=
  br (decide (t8<t7))
   (bnd (idx t6 t8) fun y=>
    bnd (okIf (decide ((0:Int)≤y))) fun y1=>
    Z (.inl ((ibits BinOp.or IntKind.i64 m (i64.wrap ((1:Int)*2^Min.min (Int.toNat y) (64:Nat)))),(i64.wrap (t8+1)))))
   (Z (.inr (m,t8)))
def Jg.ca_s:Shape:=⟨[(0,sd8),(2,sd0),(3,sd0),(6,sd8),(7,sd0),(8,sd0)],[]⟩
def Jg.ca_r:Ck:=Ck.ofLoop (S:=(Int)×(Int)) (T:=(Int)×(Int)) Jg.ca_s (fun X=>(X.2.2.1,(q4 X).2.1)) (fun ρ X Q Z=>Jg.ca_ Q.1 X.2.2.2.1 (q4 X).1 Q.2 Z) (fun ρ X V Z=>Z 2 (Shape.inj Jg.ca_s (X.1,X.2.1,V.1,X.2.2.2.1,(q4 X).1,V.2,())))
def Jg (qs:List (Int)):Option (Int):=
  bnd (iter (fun s↦Jg.ca_ s.1 qs (qs.length:Int) s.2 some) ((0:Int),(0:Int))) fun y=>
  some y.1
def Jg.ce:Go.Ql.Callee:=⟨[(.sl (.int .i64))],[(.int .i64)],fun X=>Jg X⟩
def Jg.G:Env:=⟨18,tab,[],[0,2,3,5,6,7,8,9],[],[],[(100003,Jg.ca_r)],[],jP,[]⟩
theorem Jg.p0:PcA Jg.G Tryd.f65 0:=
  Jt (s:=Jg.ca_r) (by kernel_rfl) (by kernel_rfl) (Je (sh:=Jg.ca_s) (I:=fun X Q=>(X.1,X.2.1,Q.1,X.2.2.2.1,(q4 X).1,Q.2,())) (fun X=>rfl) (fun ρ X Q Z=>(jv (jc fun _=>(jc fun _=>jd)) jd)) (fun ρ X t k=>(by kernel_rfl)) (fun X s=>by kernel_rfl))
theorem Jg.ok:CalleeOk Tryd.prog 65 Jg.ce:=fn_ok (G:=Jg.G) jV mixed Tryd.func65 ⟨jR,jM,jC,jL⟩ (m:=1) (by kernel_rfl) ⟨trivial,Jg.p0⟩ (by kernel_rfl) (fun _=>by kernel_rfl)
abbrev sd37:SD:=.one (.win 2000000 0)
abbrev sd38:SD:=.one (.clo 0)
abbrev sd39:SO:=.clo 83 [] [.fptr .len,.fptr (.int .i64)]
def jY.pre:Shape:=⟨[(0,sd37),(1,sd0)],[(2000000,sd23)]⟩
def jY.post:Shape:=⟨[(0,sd38)],[(0,sd39),(2000000,sd23)]⟩
def jY (vlo:Int) (vn:Int) (m:Int) (uj:List ((List (Bool×(List Int)))×(Int))):Option ((Int)×(Int)×(List ((List (Bool×(List Int)))×(Int)))×Unit):=
  some (vn,m,uj,())
def jY.mc:MCallee:=⟨67,jY.pre,jY.post,fun X=>jY X.1 X.2.1 X.2.2.1 X.2.2.2.1⟩
def jY.G:Env:=⟨6,tab,[],[0,1,2,3,4],[2000000,8500002,8600003],[],[],[],jP,[]⟩
theorem jY.ok:MOk Tryd.prog 67 jY.mc:=kq (mc:=jY.mc) (G:=jY.G) jV mixed Tryd.func67 ⟨jR,jM,jC,jL⟩ (m:=0) (by kernel_rfl) trivial (by kernel_rfl) (fun _=>by kernel_rfl)
def whole_Int_Sign (a:Bool×(List Int)):Option (Int):=
  br ((↑(List.length a.2):Int)==0)
   (some (0:Int))
   (br a.1
     (some (-1:Int))
     (some (1:Int)))
def whole_Int_Sign.ce:Go.Ql.Callee:=⟨[(.st (.pair .bool (.sl (.int .u32))))],[(.int .i64)],fun X=>whole_Int_Sign X⟩
def whole_Int_Sign.G:Env:=⟨11,tab,[],[0,1,2,3,8],[],[],[],[],jP,[]⟩
theorem whole_Int_Sign.ok:CalleeOk Tryd.prog 53 whole_Int_Sign.ce:=fn_ok (G:=whole_Int_Sign.G) jV mixed Tryd.func53 ⟨jR,jM,jC,jL⟩ (m:=0) (by kernel_rfl) trivial (by kernel_rfl) (fun _=>by kernel_rfl)
def jQ.cc_ (t6:List (Bool×(List Int)))(t7:Int)(Z:(Int)⊕((Int)⊕(Int))→Option ρ):Option ρ:=
  br (decide (t7<8))
   (bnd (idx t6 t7) fun y=>
    bnd (whole_Int_Sign (y.1,y.2)) fun y1=>
    br (y1 !=0)
     (Z (.inr (.inl t7)))
     (Z (.inl (i64.wrap (t7+1)))))
   (Z (.inr (.inr t7)))
def jQ.cc_s:Shape:=⟨[(0,sd18),(1,sd19),(2,sd1),(6,sd22),(7,sd0)],[]⟩
def jQ.cc_r:Ck:=Ck.ofLoop (S:=Int) (T:=(Int)⊕(Int)) jQ.cc_s (fun X=>(q4 X).1) (fun ρ X Q Z=>jQ.cc_ X.2.2.2.1 Q Z) (fun ρ X V Z=>sel V (fun V=>Z 1 (Shape.inj jQ.cc_s (X.1,X.2.1,false,X.2.2.2.1,V,()))) (fun V=>Z 2 (Shape.inj jQ.cc_s (X.1,X.2.1,X.2.2.1,X.2.2.2.1,V,()))))
def jQ (a:(List (Bool×(List Int)))×(Int)):Option Bool:=
  bnd (iter (fun s↦jQ.cc_ a.1 s some) (0:Int)) fun y=>
  sel y
   (fun u=>some false)
   (fun v=>some true)
def jQ.ce:Go.Ql.Callee:=⟨[(.st (.pair (.ar 8 (.st (.pair .bool (.sl (.int .u32))))) (.int .i64)))],[.bool],fun X=>jQ X⟩
def jQ.G:Env:=⟨14,tab,[(53,whole_Int_Sign.ce)],[0,1,2,4,6,7,8,12],[8000001],[],[(100002,jQ.cc_r)],[],jP,[]⟩
theorem jQ.p0:PcA jQ.G Tryd.f43 0:=
  Jt (s:=jQ.cc_r) (by kernel_rfl) (by kernel_rfl) (Je (sh:=jQ.cc_s) (I:=fun X Q=>(X.1,X.2.1,X.2.2.1,X.2.2.2.1,Q,())) (fun X=>rfl) (fun ρ X Q Z=>(jv (jc fun _=>(jc fun _=>(jv jd jd))) jd)) (fun ρ X t k=>(kl (fun _=>(by kernel_rfl)) (fun _=>(by kernel_rfl)))) (fun X s=>by kernel_rfl))
theorem jQ.ok:CalleeOk Tryd.prog 43 jQ.ce:=fn_ok (G:=jQ.G) jV mixed Tryd.func43 ⟨(jI whole_Int_Sign.ok jR),jM,jC,jL⟩ (m:=1) (by kernel_rfl) ⟨trivial,jQ.p0⟩ (by kernel_rfl) (fun _=>by kernel_rfl)
abbrev sd40:SO:=.arr 0 false 107 (.int .u32)
abbrev sd41:SD:=.one (.own 4 0)
abbrev sd42:SD:=.one (.own 15 0)
def whole_left.pre:Shape:=⟨[(0,sd14),(1,sd0)],[]⟩
def whole_left.post:Shape:=⟨[(0,sd24)],[(0,sd40)]⟩
def whole_left.ca_ (n:Int)(t16:List (Int))(t17:Int)(t18:Int)(t15:List (Int))(Z:((Int)×(List Int))⊕((Int)×(List Int))→Option ρ):Option ρ:=
  br (decide (t18<t17))
   (bnd (idx t16 t18) fun y=>
    bnd (okIf (decide ((0:Int)≤Int.tmod n (32:Int)))) fun y1=>
    bnd (inR (t15.length) (i64.wrap (t18+i64.wrap (Int.tdiv n (32:Int))))) fun y2=>
    bnd (idx t15 (i64.wrap (t18+i64.wrap (Int.tdiv n (32:Int))))) fun y3=>
    bnd (inR (t15.length) (i64.wrap (t18+i64.wrap (Int.tdiv n (32:Int))))) fun y4=>
    bnd (idx t15 (i64.wrap (t18+i64.wrap (Int.tdiv n (32:Int))))) fun y5=>
    bnd (inR (List.length (List.set t15 (Int.toNat (i64.wrap (t18+i64.wrap (Int.tdiv n (32:Int))))) (ibits BinOp.or IntKind.u32 y3 (u32.wrap (u64.wrap (IntKind.wrap IntKind.u64 y*2^Min.min (Int.toNat (Int.tmod n (32:Int))) (64:Nat))))))) (i64.wrap (i64.wrap (t18+i64.wrap (Int.tdiv n (32:Int)))+1))) fun y6=>
    bnd (idx (List.set t15 (Int.toNat (i64.wrap (t18+i64.wrap (Int.tdiv n (32:Int))))) (ibits BinOp.or IntKind.u32 y3 (u32.wrap (u64.wrap (IntKind.wrap IntKind.u64 y*2^Min.min (Int.toNat (Int.tmod n (32:Int))) (64:Nat)))))) (i64.wrap (i64.wrap (t18+i64.wrap (Int.tdiv n (32:Int)))+1))) fun y7=>
    bnd (inR (List.length (List.set t15 (Int.toNat (i64.wrap (t18+i64.wrap (Int.tdiv n (32:Int))))) (ibits BinOp.or IntKind.u32 y3 (u32.wrap (u64.wrap (IntKind.wrap IntKind.u64 y*2^Min.min (Int.toNat (Int.tmod n (32:Int))) (64:Nat))))))) (i64.wrap (i64.wrap (t18+i64.wrap (Int.tdiv n (32:Int)))+1))) fun y8=>
    bnd (idx (List.set t15 (Int.toNat (i64.wrap (t18+i64.wrap (Int.tdiv n (32:Int))))) (ibits BinOp.or IntKind.u32 y3 (u32.wrap (u64.wrap (IntKind.wrap IntKind.u64 y*2^Min.min (Int.toNat (Int.tmod n (32:Int))) (64:Nat)))))) (i64.wrap (i64.wrap (t18+i64.wrap (Int.tdiv n (32:Int)))+1))) fun y9=>
    Z (.inl ((i64.wrap (t18+1)),(List.set (List.set t15 (Int.toNat (i64.wrap (t18+i64.wrap (Int.tdiv n (32:Int))))) (ibits BinOp.or IntKind.u32 y3 (u32.wrap (u64.wrap (IntKind.wrap IntKind.u64 y*2^Min.min (Int.toNat (Int.tmod n (32:Int))) (64:Nat)))))) (Int.toNat (i64.wrap (i64.wrap (t18+i64.wrap (Int.tdiv n (32:Int)))+1))) (ibits BinOp.or IntKind.u32 y7 (u32.wrap (Int.fdiv (u64.wrap (IntKind.wrap IntKind.u64 y*2^Min.min (Int.toNat (Int.tmod n (32:Int))) (64:Nat))) ((2:Int) ^32))))))))
   (Z (.inr (t18,t15)))
def whole_left.ca_s:Shape:=⟨[(0,sd14),(1,sd0),(4,sd41),(5,sd42),(16,sd14),(17,sd0),(18,sd0)],[(4,sd40),(15,sd40)]⟩
def whole_left.ca_r:Ck:=Ck.ofLoop (S:=(Int)×(List Int)) (T:=(Int)×(List Int)) whole_left.ca_s (fun X=>((q4 X).1,(q4 X).2.2.1)) (fun ρ X Q Z=>whole_left.ca_ X.2.1 X.2.2.1 X.2.2.2.1 Q.1 Q.2 Z) (fun ρ X V Z=>Z 2 (Shape.inj whole_left.ca_s (X.1,X.2.1,X.2.2.1,X.2.2.2.1,V.1,(q4 X).2.1,V.2,())))
def whole_left (a:List (Int)) (n:Int):Option ((List Int)×Unit):=
  bnd (okIf (decide ((0:Int)≤i64.wrap (i64.wrap ((a.length:Int)+i64.wrap (Int.tdiv n (32:Int)))+1))&&decide (i64.wrap (i64.wrap ((a.length:Int)+i64.wrap (Int.tdiv n (32:Int)))+1)≤i64.wrap (i64.wrap ((a.length:Int)+i64.wrap (Int.tdiv n (32:Int)))+1))&&decide (i64.wrap (i64.wrap ((a.length:Int)+i64.wrap (Int.tdiv n (32:Int)))+1)*(↑(4:Nat):Int)≤140737488355328)&&decide (i64.wrap (i64.wrap ((a.length:Int)+i64.wrap (Int.tdiv n (32:Int)))+1)≤140737488355328))) fun y=>
  bnd (iter (fun s↦whole_left.ca_ n a (a.length:Int) s.1 s.2 some) ((0:Int),List.replicate (Int.toNat (i64.wrap (i64.wrap ((a.length:Int)+i64.wrap (Int.tdiv n (32:Int)))+1))) (0:Int))) fun y1=>
  some (y1.2,())
def whole_left.mc:MCallee:=⟨89,whole_left.pre,whole_left.post,fun X=>whole_left X.1 X.2.1⟩
def whole_left.G:Env:=⟨54,tab,[],[0,1,4,5,6,7,8,16,17,18,19],[4,15],[],[(100003,whole_left.ca_r)],[],jP,[]⟩
theorem whole_left.p0:PcA whole_left.G Tryd.f89 0:=
  Jt (s:=whole_left.ca_r) (by kernel_rfl) (by kernel_rfl) (Je (sh:=whole_left.ca_s) (I:=fun X Q=>(X.1,X.2.1,X.2.2.1,X.2.2.2.1,Q.1,(q4 X).2.1,Q.2,())) (fun X=>rfl) (fun ρ X Q Z=>(jv (jc fun _=>(jc fun _=>(jc fun _=>(jc fun _=>(jc fun _=>(jc fun _=>(jc fun _=>(jc fun _=>(jc fun _=>(jc fun _=>jd)))))))))) jd)) (fun ρ X t k=>(by kernel_rfl)) (fun X s=>by kernel_rfl))
theorem whole_left.ok:MOk Tryd.prog 89 whole_left.mc:=kq (mc:=whole_left.mc) (G:=whole_left.G) jV mixed Tryd.func89 ⟨jR,jM,jC,jL⟩ (m:=1) (by kernel_rfl) ⟨trivial,whole_left.p0⟩ (by kernel_rfl) (fun _=>by kernel_rfl)
abbrev sd43:SD:=.one (.val (.int .u32))
abbrev sd44:SD:=.one (.own 54 0)
def whole_right.c3 (a:List (Int))(n:Int)(Z:Bool→Option ρ):Option ρ:=
  bnd (idx a (i64.wrap (Int.tdiv n (32:Int)))) fun y=>
  bnd (okIf (decide ((0:Int)≤i64.wrap ((32:Int)-Int.tmod n (32:Int))))) fun y1=>
  br (u32.wrap (y*2^Min.min (Int.toNat (i64.wrap ((32:Int)-Int.tmod n (32:Int)))) (32:Nat)) !=0)
   (Z (decide (Int.tmod n (32:Int)>0)))
   (Z false)
def whole_right.c3s:Shape:=⟨[(0,sd14),(1,sd0),(4,sd14),(5,sd1)],[]⟩
def whole_right.c3x0:Shape:=⟨[(0,sd14),(1,sd0),(4,sd14),(5,sd1),(6,sd1)],[]⟩
def whole_right.c3r:Ck:=Ck.of (T:=Bool) whole_right.c3s (fun ρ X Z=>whole_right.c3 X.1 X.2.1 Z) (fun ρ X V Z=>Z 0 (Shape.inj whole_right.c3x0 (X.1,X.2.1,X.2.2.1,X.2.2.2.1,V,())))
def whole_right.c7 (lost:Bool)(x:Int)(Z:Bool→Option ρ):Option ρ:=
  br lost
   (Z true)
   (Z (x !=0))
def whole_right.c7s:Shape:=⟨[(0,sd14),(1,sd0),(4,sd14),(5,sd1),(6,sd1),(8,sd43),(37,sd14),(38,sd0),(39,sd0)],[]⟩
def whole_right.c7r:Ck:=Ck.of (T:=Bool) whole_right.c7s (fun ρ X Z=>whole_right.c7 (q4 X).1 (q4 X).2.1 Z) (fun ρ X V Z=>Z 0 (Shape.inj whole_right.c7s (X.1,X.2.1,X.2.2.1,X.2.2.2.1,V,(q4 X).2)))
def whole_right.ce_ (lost:Bool)(t37:List (Int))(t38:Int)(t39:Int)(Z:(Bool×(Int))⊕(Bool×(Int))→Option ρ):Option ρ:=
  br (decide (t39<t38))
   (bnd (idx t37 t39) fun y=>
    bnd (whole_right.c7 lost y some) fun y1=>
    Z (.inl (y1,(i64.wrap (t39+1)))))
   (Z (.inr (lost,t39)))
def whole_right.ce_s:Shape:=⟨[(0,sd14),(1,sd0),(4,sd14),(5,sd1),(6,sd1),(37,sd14),(38,sd0),(39,sd0)],[]⟩
def whole_right.ce_r:Ck:=Ck.ofLoop (S:=Bool×(Int)) (T:=Bool×(Int)) whole_right.ce_s (fun X=>((q4 X).1,(q4 X).2.2.2.1)) (fun ρ X Q Z=>whole_right.ce_ Q.1 (q4 X).2.1 (q4 X).2.2.1 Q.2 Z) (fun ρ X V Z=>Z 2 (Shape.inj whole_right.ce_s (X.1,X.2.1,X.2.2.1,X.2.2.2.1,V.1,(q4 X).2.1,(q4 X).2.2.1,V.2,())))
def whole_right.c14 (a:List (Int))(n:Int)(i:Int)(Z:Bool→Option ρ):Option ρ:=
  br (decide (i64.wrap (i64.wrap (i+i64.wrap (Int.tdiv n (32:Int)))+1)<(a.length:Int)))
   (Z (decide (Int.tmod n (32:Int)>0)))
   (Z false)
def whole_right.c14s:Shape:=⟨[(0,sd14),(1,sd0),(4,sd14),(5,sd1),(6,sd1),(9,sd44),(10,sd0),(37,sd14),(38,sd0),(39,sd0),(56,sd0),(57,sd0)],[(54,sd40)]⟩
def whole_right.c14x0:Shape:=⟨[(0,sd14),(1,sd0),(4,sd14),(5,sd1),(6,sd1),(9,sd44),(10,sd0),(37,sd14),(38,sd0),(39,sd0),(56,sd0),(57,sd0),(85,sd1)],[(54,sd40)]⟩
def whole_right.c14r:Ck:=Ck.of (T:=Bool) whole_right.c14s (fun ρ X Z=>whole_right.c14 X.1 X.2.1 (q4 X).2.1 Z) (fun ρ X V Z=>Z 0 (Shape.inj whole_right.c14x0 (X.1,X.2.1,X.2.2.1,X.2.2.2.1,(q4 X).1,(q4 X).2.1,(q4 X).2.2.1,(q4 X).2.2.2.1,(q8 X).1,(q8 X).2.1,(q8 X).2.2.1,V,(q8 X).2.2.2)))
def whole_right.c15 (a:List (Int))(n:Int)(i:Int)(t54:List (Int))(Z:List (Int)→Option ρ):Option ρ:=
  bnd (inR (t54.length) i) fun y=>
  bnd (idx t54 i) fun y1=>
  bnd (idx a (i64.wrap (i64.wrap (i+i64.wrap (Int.tdiv n (32:Int)))+1))) fun y2=>
  bnd (okIf (decide ((0:Int)≤i64.wrap ((32:Int)-Int.tmod n (32:Int))))) fun y3=>
  bnd (inR (t54.length) i) fun y4=>
  bnd (idx t54 i) fun y5=>
  Z (List.set t54 (Int.toNat i) (ibits BinOp.or IntKind.u32 y1 (u32.wrap (y2*2^Min.min (Int.toNat (i64.wrap ((32:Int)-Int.tmod n (32:Int)))) (32:Nat)))))
def whole_right.c15r:Ck:=Ck.of (T:=List (Int)) whole_right.c14s (fun ρ X Z=>whole_right.c15 X.1 X.2.1 (q4 X).2.1 (q8 X).2.2.2.1 Z) (fun ρ X V Z=>Z 0 (Shape.inj whole_right.c14s (X.1,X.2.1,X.2.2.1,X.2.2.2.1,(q4 X).1,(q4 X).2.1,(q4 X).2.2.1,(q4 X).2.2.2.1,(q8 X).1,(q8 X).2.1,(q8 X).2.2.1,V,())))
def whole_right.cn_ (a:List (Int))(n:Int)(t57:Int)(t54:List (Int))(Z:List (Int)→Option ρ):Option ρ:=
  bnd (idx a (i64.wrap (t57+i64.wrap (Int.tdiv n (32:Int))))) fun y=>
  bnd (okIf (decide ((0:Int)≤Int.tmod n (32:Int)))) fun y1=>
  bnd (inR (t54.length) t57) fun y2=>
  bnd (idx t54 t57) fun y3=>
  bnd (whole_right.c14 a n t57 some) fun y4=>
  br y4
   (bnd (whole_right.c15 a n t57 (List.set t54 (Int.toNat t57) (Int.fdiv y ((2:Int)^Min.min (Int.toNat (Int.tmod n (32:Int))) (32:Nat)))) some) fun y5=>
    Z y5)
   (Z (List.set t54 (Int.toNat t57) (Int.fdiv y ((2:Int)^Min.min (Int.toNat (Int.tmod n (32:Int))) (32:Nat)))))
def whole_right.cn_s:Shape:=⟨[(0,sd14),(1,sd0),(4,sd14),(5,sd1),(6,sd1),(9,sd44),(37,sd14),(38,sd0),(39,sd0),(56,sd0),(57,sd0)],[(54,sd40)]⟩
def whole_right.cn_r:Ck:=Ck.of (T:=List (Int)) whole_right.cn_s (fun ρ X Z=>whole_right.cn_ X.1 X.2.1 (q8 X).2.1 (q8 X).2.2.1 Z) (fun ρ X V Z=>Z 0 (Shape.inj whole_right.cn_s (X.1,X.2.1,X.2.2.1,X.2.2.2.1,(q4 X).1,(q4 X).2.1,(q4 X).2.2.1,(q4 X).2.2.2.1,(q8 X).1,(q8 X).2.1,V,())))
def whole_right.cr_ (a:List (Int))(n:Int)(t56:Int)(t57:Int)(t54:List (Int))(Z:((Int)×(List Int))⊕((Int)×(List Int))→Option ρ):Option ρ:=
  br (decide (t57<t56))
   (bnd (whole_right.cn_ a n t57 t54 some) fun y=>
    Z (.inl ((i64.wrap (t57+1)),y)))
   (Z (.inr (t57,t54)))
def whole_right.cr_r:Ck:=Ck.ofLoop (S:=(Int)×(List Int)) (T:=(Int)×(List Int)) whole_right.cn_s (fun X=>((q8 X).2.1,(q8 X).2.2.1)) (fun ρ X Q Z=>whole_right.cr_ X.1 X.2.1 (q8 X).1 Q.1 Q.2 Z) (fun ρ X V Z=>Z 4 (Shape.inj whole_right.cn_s (X.1,X.2.1,X.2.2.1,X.2.2.2.1,(q4 X).1,(q4 X).2.1,(q4 X).2.2.1,(q4 X).2.2.2.1,(q8 X).1,V.1,V.2,())))
def whole_right (a:List (Int)) (n:Int):Option ((List Int)×Bool):=
  br (decide (i64.wrap (Int.tdiv n (32:Int))≥(a.length:Int)))
   (some ([],decide ((a.length:Int)>0)))
   (bnd (whole_right.c3 a n some) fun y=>
    bnd (okIf (decide ((0:Int)≤i64.wrap (Int.tdiv n (32:Int)))&&decide (i64.wrap (Int.tdiv n (32:Int))≤(a.length:Int)))) fun y1=>
    bnd (iter (fun s↦whole_right.ce_ s.1 (List.take (Int.toNat (i64.wrap (Int.tdiv n (32:Int)))) a) (↑(List.length (List.take (Int.toNat (i64.wrap (Int.tdiv n (32:Int)))) a)):Int) s.2 some) (y,(0:Int))) fun y2=>
    bnd (okIf (decide ((0:Int)≤i64.wrap ((a.length:Int)-i64.wrap (Int.tdiv n (32:Int))))&&decide (i64.wrap ((a.length:Int)-i64.wrap (Int.tdiv n (32:Int)))≤i64.wrap ((a.length:Int)-i64.wrap (Int.tdiv n (32:Int))))&&decide (i64.wrap ((a.length:Int)-i64.wrap (Int.tdiv n (32:Int)))*(↑(4:Nat):Int)≤140737488355328)&&decide (i64.wrap ((a.length:Int)-i64.wrap (Int.tdiv n (32:Int)))≤140737488355328))) fun y3=>
    bnd (iter (fun s↦whole_right.cr_ a n (↑(List.length (List.replicate (Int.toNat (i64.wrap ((a.length:Int)-i64.wrap (Int.tdiv n (32:Int))))) (0:Int))):Int) s.1 s.2 some) ((0:Int),List.replicate (Int.toNat (i64.wrap ((a.length:Int)-i64.wrap (Int.tdiv n (32:Int))))) (0:Int))) fun y4=>
    some (y4.2,y2.1))
def whole_right.ce:Go.Ql.Callee:=⟨[(.sl (.int .u32)),(.int .i64)],[(.sl (.int .u32)),.bool],fun X=>whole_right X.1 X.2⟩
def whole_right.G:Env:=⟨107,tab,[],[0,1,4,5,6,8,9,10,15,37,38,39,40,56,57,58,85],[54],[(15,[⟨[],[],[87,90,91,92,93,94,95,96,97,98,99,100,101],[]⟩,⟨[],[],[86,90,91,92,93,94,95,96,97,98,99,100,101],[]⟩,⟨[0,1],[],[90,91,92,93,94,95,96,97,98,99,100,101],[]⟩,⟨[2,0,1],[],[90,91,92,93,94,95,96,97,98,99,100,101],[]⟩,⟨[],[],[86,87,88,89,91,92,93,94,95,98,99,100],[]⟩,⟨[],[],[86,87,88,89,90,92,93,98,99,100],[]⟩,⟨[],[],[86,87,88,89,90,91,98,99,100],[]⟩,⟨[6],[],[86,87,88,89,90,91,98,99,100],[]⟩,⟨[5,7,6],[],[86,87,88,89,90,98,99,100],[]⟩,⟨[8,5,7,6],[],[86,87,88,89,90,98,99,100],[]⟩,⟨[4,9,8,5,7,6],[],[86,87,88,89,98,99,100],[]⟩,⟨[10,4,9,8,5,7,6],[],[86,87,88,89,98,99,100],[]⟩,⟨[],[],[86,87,88,89,90,91,92,93,94,95,96,97],[]⟩,⟨[12],[],[86,87,88,89,90,91,92,93,94,95,96,97],[]⟩,⟨[13,12],[],[86,87,88,89,90,91,92,93,94,95,96,97],[]⟩,⟨[11,10,4,9,8,5,7,6,14,13,12],[],[86,87,88,89],[]⟩,⟨[3,2,0,1,15,11,10,4,9,8,5,7,6,14,13,12],[],[],[]⟩,⟨[0,1,2,3,4,5,6,7,8,9,10,11,12,13,14,15,16],[],[],[]⟩,⟨[17,0,1,2,3,4,5,6,7,8,9,10,11,12,13,14,15,16],[54],[],[]⟩])],[(100011,whole_right.cr_r),(249162,whole_right.cn_r),(15,whole_right.c15r),(14,whole_right.c14r),(100005,whole_right.ce_r),(7,whole_right.c7r),(3,whole_right.c3r)],[],jP,[]⟩
theorem whole_right.p0:PcA whole_right.G Tryd.f90 0:=
  jE (s:=whole_right.c3r) (by kernel_rfl) (by kernel_rfl) (jG (sh:=whole_right.c3s) (fun ρ X Z=>(jc fun _=>(jc fun _=>(jv jd jd)))) (fun ρ X t k=>(by kernel_rfl)) (fun X=>by kernel_rfl))
theorem whole_right.p1:PcA whole_right.G Tryd.f90 1:=
  Jt (s:=whole_right.ce_r) (by kernel_rfl) (by kernel_rfl) (Je (sh:=whole_right.ce_s) (I:=fun X Q=>(X.1,X.2.1,X.2.2.1,X.2.2.2.1,Q.1,(q4 X).2.1,(q4 X).2.2.1,Q.2,())) (fun X=>rfl) (fun ρ X Q Z=>(jv (jc fun _=>(jc fun _=>jd)) jd)) (fun ρ X t k=>(by kernel_rfl)) (fun X s=>by kernel_rfl))
theorem whole_right.p2:PcA whole_right.G Tryd.f90 2:=
  jE (s:=whole_right.c7r) (by kernel_rfl) (by kernel_rfl) (jG (sh:=whole_right.c7s) (fun ρ X Z=>(jv jd jd)) (fun ρ X t k=>(by kernel_rfl)) (fun X=>by kernel_rfl))
theorem whole_right.p3:PcA whole_right.G Tryd.f90 3:=
  Jt (s:=whole_right.cr_r) (by kernel_rfl) (by kernel_rfl) (Je (sh:=whole_right.cn_s) (I:=fun X Q=>(X.1,X.2.1,X.2.2.1,X.2.2.2.1,(q4 X).1,(q4 X).2.1,(q4 X).2.2.1,(q4 X).2.2.2.1,(q8 X).1,Q.1,Q.2,())) (fun X=>rfl) (fun ρ X Q Z=>(jv (jc fun _=>jd) jd)) (fun ρ X t k=>(by kernel_rfl)) (fun X s=>by kernel_rfl))
theorem whole_right.p4:PcA whole_right.G Tryd.f90 4:=
  kj (s:=whole_right.cn_r) (by kernel_rfl) (by kernel_rfl) (jG (sh:=whole_right.cn_s) (fun ρ X Z=>(jc fun _=>(jc fun _=>(jc fun _=>(jc fun _=>(jc fun _=>(jv (jc fun _=>jd) jd))))))) (fun ρ X t k=>(by kernel_rfl)) (fun X=>by kernel_rfl))
theorem whole_right.p5:PcA whole_right.G Tryd.f90 5:=
  jE (s:=whole_right.c14r) (by kernel_rfl) (by kernel_rfl) (jG (sh:=whole_right.c14s) (fun ρ X Z=>(jv jd jd)) (fun ρ X t k=>(by kernel_rfl)) (fun X=>by kernel_rfl))
theorem whole_right.p6:PcA whole_right.G Tryd.f90 6:=
  jE (s:=whole_right.c15r) (by kernel_rfl) (by kernel_rfl) (jG (sh:=whole_right.c14s) (fun ρ X Z=>(jc fun _=>(jc fun _=>(jc fun _=>(jc fun _=>(jc fun _=>(jc fun _=>jd))))))) (fun ρ X t k=>(by kernel_rfl)) (fun X=>by kernel_rfl))
theorem whole_right.ok:CalleeOk Tryd.prog 90 whole_right.ce:=fn_ok (G:=whole_right.G) jV mixed Tryd.func90 ⟨jR,jM,jC,jL⟩ (m:=7) (by kernel_rfl) ⟨⟨⟨⟨⟨⟨⟨trivial,whole_right.p0⟩,whole_right.p1⟩,whole_right.p2⟩,whole_right.p3⟩,whole_right.p4⟩,whole_right.p5⟩,whole_right.p6⟩ (by kernel_rfl) (fun _=>by kernel_rfl)
def JL (x:Int) (y:Int) (carry:Int):Option ((Int)×(Int)):=
  some (u32.wrap (u64.wrap (u64.wrap (IntKind.wrap IntKind.u64 x+IntKind.wrap IntKind.u64 y)+IntKind.wrap IntKind.u64 carry)),u32.wrap (Int.fdiv (u64.wrap (u64.wrap (IntKind.wrap IntKind.u64 x+IntKind.wrap IntKind.u64 y)+IntKind.wrap IntKind.u64 carry)) ((2:Int) ^32)))
def JL.ce:Go.Ql.Callee:=⟨[(.int .u32),(.int .u32),(.int .u32)],[(.int .u32),(.int .u32)],fun X=>JL X.1 X.2.1 X.2.2⟩
def JL.G:Env:=⟨22,tab,[],[0,1,2,6,7,8],[],[],[],[],jP,[]⟩
theorem JL.ok:CalleeOk Tryd.prog 92 JL.ce:=fn_ok (G:=JL.G) jV mixed Tryd.func92 ⟨jR,jM,jC,jL⟩ (m:=0) (by kernel_rfl) trivial (by kernel_rfl) (fun _=>by kernel_rfl)
abbrev sd45:SD:=.one (.own 20 0)
def whole_sum.cz_ (a:List (Int))(b:List (Int))(Z:(List Int)×(List Int)→Option ρ):Option ρ:=
  br (decide ((a.length:Int)<(b.length:Int)))
   (Z (b,a))
   (Z (a,b))
def whole_sum.cz_s:Shape:=⟨[(0,sd14),(1,sd14),(4,sd14)],[]⟩
def whole_sum.cz_r:Ck:=Ck.of (T:=(List Int)×(List Int)) whole_sum.cz_s (fun ρ X Z=>whole_sum.cz_ X.1 X.2.1 Z) (fun ρ X V Z=>Z 0 (Shape.inj whole_sum.cz_s (V.1,V.2,X.2.2)))
def whole_sum.cx_ (b:List (Int))(i:Int)(y:Int)(Z:Int→Option ρ):Option ρ:=
  br (decide (i<(b.length:Int)))
   (bnd (idx b i) fun y1=>
    Z y1)
   (Z y)
def whole_sum.cx_s:Shape:=⟨[(0,sd14),(1,sd14),(4,sd14),(5,sd45),(6,sd43),(7,sd0),(8,sd43),(9,sd43),(21,sd14),(22,sd0),(23,sd0)],[(20,sd40)]⟩
def whole_sum.cx_r:Ck:=Ck.of (T:=Int) whole_sum.cx_s (fun ρ X Z=>whole_sum.cx_ X.2.1 (q4 X).1 (q4 X).2.2.1 Z) (fun ρ X V Z=>Z 0 (Shape.inj whole_sum.cx_s (X.1,X.2.1,X.2.2.1,X.2.2.2.1,(q4 X).1,(q4 X).2.1,V,(q4 X).2.2.2)))
def whole_sum.co_ (b:List (Int))(c:Int)(t21:List (Int))(t22:Int)(t23:Int)(t20:List (Int))(Z:((Int)×(Int)×(List Int))⊕((Int)×(Int)×(List Int))→Option ρ):Option ρ:=
  br (decide (t23<t22))
   (bnd (idx t21 t23) fun y=>
    bnd (whole_sum.cx_ b t23 (0:Int) some) fun y1=>
    bnd (JL y y1 c) fun y2=>
    bnd (inR (t20.length) t23) fun y3=>
    bnd (idx t20 t23) fun y4=>
    Z (.inl (y2.2,(i64.wrap (t23+1)),(List.set t20 (Int.toNat t23) y2.1))))
   (Z (.inr (c,t23,t20)))
def whole_sum.co_s:Shape:=⟨[(0,sd14),(1,sd14),(4,sd14),(5,sd45),(6,sd43),(21,sd14),(22,sd0),(23,sd0)],[(20,sd40)]⟩
def whole_sum.co_r:Ck:=Ck.ofLoop (S:=(Int)×(Int)×(List Int)) (T:=(Int)×(Int)×(List Int)) whole_sum.co_s (fun X=>(X.2.2.2.1,(q4 X).2.2.1,(q4 X).2.2.2.1)) (fun ρ X Q Z=>whole_sum.co_ X.2.1 Q.1 (q4 X).1 (q4 X).2.1 Q.2.1 Q.2.2 Z) (fun ρ X V Z=>Z 2 (Shape.inj whole_sum.co_s (X.1,X.2.1,X.2.2.1,V.1,(q4 X).1,(q4 X).2.1,V.2.1,V.2.2,())))
def whole_sum (a:List (Int)) (b:List (Int)):Option (List Int):=
  bnd (whole_sum.cz_ a b some) fun y=>
  bnd (okIf (decide ((0:Int)≤i64.wrap ((↑(List.length y.1):Int)+1))&&decide (i64.wrap ((↑(List.length y.1):Int)+1)≤i64.wrap ((↑(List.length y.1):Int)+1))&&decide (i64.wrap ((↑(List.length y.1):Int)+1)*(↑(4:Nat):Int)≤140737488355328)&&decide (i64.wrap ((↑(List.length y.1):Int)+1)≤140737488355328))) fun y1=>
  bnd (iter (fun s↦whole_sum.co_ y.2 s.1 y.1 (↑(List.length y.1):Int) s.2.1 s.2.2 some) ((0:Int),(0:Int),List.replicate (Int.toNat (i64.wrap ((↑(List.length y.1):Int)+1))) (0:Int))) fun y2=>
  bnd (inR (List.length y2.2.2) (↑(List.length y.1):Int)) fun y3=>
  bnd (idx y2.2.2 (↑(List.length y.1):Int)) fun y4=>
  some (List.set y2.2.2 (Int.toNat (↑(List.length y.1):Int)) y2.1)
def whole_sum.ce:Go.Ql.Callee:=⟨[(.sl (.int .u32)),(.sl (.int .u32))],[(.sl (.int .u32))],fun X=>whole_sum X.1 X.2⟩
def whole_sum.G:Env:=⟨53,tab,[(92,JL.ce)],[0,1,4,5,6,7,8,9,14,21,22,23,24,31],[20],[],[(100006,whole_sum.co_r),(236869,whole_sum.cx_r),(204101,whole_sum.cz_r)],[],jP,[]⟩
theorem whole_sum.p0:PcA whole_sum.G Tryd.f79 0:=
  kj (s:=whole_sum.cz_r) (by kernel_rfl) (by kernel_rfl) (jG (sh:=whole_sum.cz_s) (fun ρ X Z=>(jv jd jd)) (fun ρ X t k=>(by kernel_rfl)) (fun X=>by kernel_rfl))
theorem whole_sum.p1:PcA whole_sum.G Tryd.f79 1:=
  Jt (s:=whole_sum.co_r) (by kernel_rfl) (by kernel_rfl) (Je (sh:=whole_sum.co_s) (I:=fun X Q=>(X.1,X.2.1,X.2.2.1,Q.1,(q4 X).1,(q4 X).2.1,Q.2.1,Q.2.2,())) (fun X=>rfl) (fun ρ X Q Z=>(jv (jc fun _=>(jc fun _=>(jc fun _=>(jc fun _=>(jc fun _=>jd))))) jd)) (fun ρ X t k=>(by kernel_rfl)) (fun X s=>by kernel_rfl))
theorem whole_sum.p2:PcA whole_sum.G Tryd.f79 2:=
  kj (s:=whole_sum.cx_r) (by kernel_rfl) (by kernel_rfl) (jG (sh:=whole_sum.cx_s) (fun ρ X Z=>(jv (jc fun _=>jd) jd)) (fun ρ X t k=>(by kernel_rfl)) (fun X=>by kernel_rfl))
theorem whole_sum.ok:CalleeOk Tryd.prog 79 whole_sum.ce:=fn_ok (G:=whole_sum.G) jV mixed Tryd.func79 ⟨(jI JL.ok jR),jM,jC,jL⟩ (m:=3) (by kernel_rfl) ⟨⟨⟨trivial,whole_sum.p0⟩,whole_sum.p1⟩,whole_sum.p2⟩ (by kernel_rfl) (fun _=>by kernel_rfl)
def cmp_isNaN_int (x:Int):Option Bool:=
  some (x !=x)
def cmp_isNaN_int.ce:Go.Ql.Callee:=⟨[(.int .i64)],[.bool],fun X=>cmp_isNaN_int X⟩
def cmp_isNaN_int.G:Env:=⟨6,tab,[],[0,2],[],[],[],[],jP,[]⟩
theorem cmp_isNaN_int.ok:CalleeOk Tryd.prog 103 cmp_isNaN_int.ce:=fn_ok (G:=cmp_isNaN_int.G) jV mixed Tryd.func103 ⟨jR,jM,jC,jL⟩ (m:=0) (by kernel_rfl) trivial (by kernel_rfl) (fun _=>by kernel_rfl)
def cmp_Compare_int (x:Int) (y:Int):Option (Int):=
  bnd (cmp_isNaN_int x) fun y1=>
  bnd (cmp_isNaN_int y) fun y2=>
  br y1
   (br y2
     (some (0:Int))
     (some (-1:Int)))
   (br y2
     (some (1:Int))
     (br (decide (x<y))
       (some (-1:Int))
       (br (decide (x>y))
         (some (1:Int))
         (some (0:Int)))))
def cmp_Compare_int.ce:Go.Ql.Callee:=⟨[(.int .i64),(.int .i64)],[(.int .i64)],fun X=>cmp_Compare_int X.1 X.2⟩
def cmp_Compare_int.G:Env:=⟨20,tab,[(103,cmp_isNaN_int.ce)],[0,1,4,5,6,11,12,13,16,19],[],[],[],[],jP,[]⟩
theorem cmp_Compare_int.ok:CalleeOk Tryd.prog 93 cmp_Compare_int.ce:=fn_ok (G:=cmp_Compare_int.G) jV mixed Tryd.func93 ⟨(jI cmp_isNaN_int.ok jR),jM,jC,jL⟩ (m:=0) (by kernel_rfl) trivial (by kernel_rfl) (fun _=>by kernel_rfl)
def cmp_isNaN_uint32 (x:Int):Option Bool:=
  some (x !=x)
def cmp_isNaN_uint32.ce:Go.Ql.Callee:=⟨[(.int .u32)],[.bool],fun X=>cmp_isNaN_uint32 X⟩
def cmp_isNaN_uint32.G:Env:=⟨6,tab,[],[0,2],[],[],[],[],jP,[]⟩
theorem cmp_isNaN_uint32.ok:CalleeOk Tryd.prog 104 cmp_isNaN_uint32.ce:=fn_ok (G:=cmp_isNaN_uint32.G) jV mixed Tryd.func104 ⟨jR,jM,jC,jL⟩ (m:=0) (by kernel_rfl) trivial (by kernel_rfl) (fun _=>by kernel_rfl)
def cmp_Compare_uint32 (x:Int) (y:Int):Option (Int):=
  bnd (cmp_isNaN_uint32 x) fun y1=>
  bnd (cmp_isNaN_uint32 y) fun y2=>
  br y1
   (br y2
     (some (0:Int))
     (some (-1:Int)))
   (br y2
     (some (1:Int))
     (br (decide (x<y))
       (some (-1:Int))
       (br (decide (x>y))
         (some (1:Int))
         (some (0:Int)))))
def cmp_Compare_uint32.ce:Go.Ql.Callee:=⟨[(.int .u32),(.int .u32)],[(.int .i64)],fun X=>cmp_Compare_uint32 X.1 X.2⟩
def cmp_Compare_uint32.G:Env:=⟨20,tab,[(104,cmp_isNaN_uint32.ce)],[0,1,4,5,6,11,12,13,16,19],[],[],[],[],jP,[]⟩
theorem cmp_Compare_uint32.ok:CalleeOk Tryd.prog 94 cmp_Compare_uint32.ce:=fn_ok (G:=cmp_Compare_uint32.G) jV mixed Tryd.func94 ⟨(jI cmp_isNaN_uint32.ok jR),jM,jC,jL⟩ (m:=0) (by kernel_rfl) trivial (by kernel_rfl) (fun _=>by kernel_rfl)
def whole_order.c7 (a:List (Int))(b:List (Int))(i:Int)(Z:Int→Option ρ):Option ρ:=
  bnd (idx a i) fun y=>
  bnd (idx b i) fun y1=>
  bnd (cmp_Compare_uint32 y y1) fun y2=>
  Z y2
def whole_order.c7s:Shape:=⟨[(0,sd14),(1,sd14),(4,sd0),(5,sd0),(6,sd0)],[]⟩
def whole_order.c7x0:Shape:=⟨[(0,sd14),(1,sd14),(4,sd0),(5,sd0),(6,sd0),(7,sd0)],[]⟩
def whole_order.c7r:Ck:=Ck.of (T:=Int) whole_order.c7s (fun ρ X Z=>whole_order.c7 X.1 X.2.1 (q4 X).1 Z) (fun ρ X V Z=>Z 0 (Shape.inj whole_order.c7x0 (X.1,X.2.1,X.2.2.1,X.2.2.2.1,(q4 X).1,V,())))
def whole_order.ce_ (a:List (Int))(b:List (Int))(i:Int)(Z:(Int)⊕(((Int)×(Int))⊕(Int))→Option ρ):Option ρ:=
  br (decide (i≥0))
   (bnd (whole_order.c7 a b i some) fun y=>
    br (y !=0)
     (Z (.inr (.inl (y,i))))
     (Z (.inl (i64.wrap (i-1)))))
   (Z (.inr (.inr i)))
def whole_order.ce_r:Ck:=Ck.ofLoop (S:=Int) (T:=((Int)×(Int))⊕(Int)) whole_order.c7s (fun X=>(q4 X).1) (fun ρ X Q Z=>whole_order.ce_ X.1 X.2.1 Q Z) (fun ρ X V Z=>sel V (fun V=>Z 1 (Shape.inj whole_order.c7s (X.1,X.2.1,V.1,X.2.2.2.1,V.2,()))) (fun V=>Z 2 (Shape.inj whole_order.c7s (X.1,X.2.1,X.2.2.1,X.2.2.2.1,V,()))))
def whole_order (a:List (Int)) (b:List (Int)):Option (Int):=
  bnd (cmp_Compare_int (a.length:Int) (b.length:Int)) fun y=>
  br (y !=0)
   (some y)
   (bnd (iter (fun s↦whole_order.ce_ a b s some) (i64.wrap ((a.length:Int)-1))) fun y1=>
    sel y1
     (fun u=>some u.1)
     (fun v=>some (0:Int)))
def whole_order.ce:Go.Ql.Callee:=⟨[(.sl (.int .u32)),(.sl (.int .u32))],[(.int .i64)],fun X=>whole_order X.1 X.2⟩
def whole_order.G:Env:=⟨35,tab,[(93,cmp_Compare_int.ce),(94,cmp_Compare_uint32.ce)],[0,1,4,5,6,7,14,20,33],[],[(7,[⟨[],[],[24,27,28,29,30],[]⟩,⟨[],[],[23,27,28,29,30],[]⟩,⟨[0,1],[],[27,28,29,30],[]⟩,⟨[2,0,1],[],[27,28,29,30],[]⟩,⟨[],[],[23,24,25,26,28],[]⟩,⟨[],[],[23,24,25,26,27],[]⟩,⟨[4,5],[],[23,24,25,26],[]⟩,⟨[6,4,5],[],[23,24,25,26],[]⟩,⟨[3,2,0,1,7,6,4,5],[],[],[]⟩,⟨[8,3,2,0,1,7,6,4,5],[],[],[]⟩])],[(100005,whole_order.ce_r),(7,whole_order.c7r)],[],jP,[]⟩
theorem whole_order.p0:PcA whole_order.G Tryd.f80 0:=
  Jt (s:=whole_order.ce_r) (by kernel_rfl) (by kernel_rfl) (Je (sh:=whole_order.c7s) (I:=fun X Q=>(X.1,X.2.1,X.2.2.1,X.2.2.2.1,Q,())) (fun X=>rfl) (fun ρ X Q Z=>(jv (jc fun _=>(jv jd jd)) jd)) (fun ρ X t k=>(kl (fun _=>(by kernel_rfl)) (fun _=>(by kernel_rfl)))) (fun X s=>by kernel_rfl))
theorem whole_order.p1:PcA whole_order.G Tryd.f80 1:=
  jE (s:=whole_order.c7r) (by kernel_rfl) (by kernel_rfl) (jG (sh:=whole_order.c7s) (fun ρ X Z=>(jc fun _=>(jc fun _=>(jc fun _=>jd)))) (fun ρ X t k=>(by kernel_rfl)) (fun X=>by kernel_rfl))
theorem whole_order.ok:CalleeOk Tryd.prog 80 whole_order.ce:=fn_ok (G:=whole_order.G) jV mixed Tryd.func80 ⟨(jI cmp_Compare_int.ok (jI cmp_Compare_uint32.ok jR)),jM,jC,jL⟩ (m:=2) (by kernel_rfl) ⟨⟨trivial,whole_order.p0⟩,whole_order.p1⟩ (by kernel_rfl) (fun _=>by kernel_rfl)
def JM (x:Int) (y:Int) (borrow:Int):Option ((Int)×(Int)):=
  some (u32.wrap (u32.wrap (x-y)-borrow),Int.fdiv (ibits BinOp.or IntKind.u32 (ibits BinOp.and IntKind.u32 (ibits BinOp.xor IntKind.u32 (Int.ofNat (nat_lit 2 ^32-Nat.succ (nat_lit 0))) x) y) (ibits BinOp.and IntKind.u32 (ibits BinOp.xor IntKind.u32 (Int.ofNat (nat_lit 2 ^32-Nat.succ (nat_lit 0))) (ibits BinOp.xor IntKind.u32 x y)) (u32.wrap (u32.wrap (x-y)-borrow)))) ((2:Int) ^31))
def JM.ce:Go.Ql.Callee:=⟨[(.int .u32),(.int .u32),(.int .u32)],[(.int .u32),(.int .u32)],fun X=>JM X.1 X.2.1 X.2.2⟩
def JM.G:Env:=⟨25,tab,[],[0,1,2,6,7],[],[],[],[],jP,[]⟩
theorem JM.ok:CalleeOk Tryd.prog 95 JM.ce:=fn_ok (G:=JM.G) jV mixed Tryd.func95 ⟨jR,jM,jC,jL⟩ (m:=0) (by kernel_rfl) trivial (by kernel_rfl) (fun _=>by kernel_rfl)
abbrev sd46:SD:=.one (.own 12 0)
def whole_less.ci_ (b:List (Int))(i:Int)(y:Int)(Z:Int→Option ρ):Option ρ:=
  br (decide (i<(b.length:Int)))
   (bnd (idx b i) fun y1=>
    Z y1)
   (Z y)
def whole_less.ci_s:Shape:=⟨[(0,sd14),(1,sd14),(4,sd14),(5,sd46),(6,sd43),(7,sd0),(8,sd43),(9,sd43),(13,sd14),(14,sd0),(15,sd0)],[(12,sd40)]⟩
def whole_less.ci_r:Ck:=Ck.of (T:=Int) whole_less.ci_s (fun ρ X Z=>whole_less.ci_ X.2.1 (q4 X).1 (q4 X).2.2.1 Z) (fun ρ X V Z=>Z 0 (Shape.inj whole_less.ci_s (X.1,X.2.1,X.2.2.1,X.2.2.2.1,(q4 X).1,(q4 X).2.1,V,(q4 X).2.2.2)))
def whole_less.cb_ (b:List (Int))(c:Int)(t13:List (Int))(t14:Int)(t15:Int)(t12:List (Int))(Z:((Int)×(Int)×(List Int))⊕((Int)×(Int)×(List Int))→Option ρ):Option ρ:=
  br (decide (t15<t14))
   (bnd (idx t13 t15) fun y=>
    bnd (whole_less.ci_ b t15 (0:Int) some) fun y1=>
    bnd (JM y y1 c) fun y2=>
    bnd (inR (t12.length) t15) fun y3=>
    bnd (idx t12 t15) fun y4=>
    Z (.inl (y2.2,(i64.wrap (t15+1)),(List.set t12 (Int.toNat t15) y2.1))))
   (Z (.inr (c,t15,t12)))
def whole_less.cb_s:Shape:=⟨[(0,sd14),(1,sd14),(4,sd14),(5,sd46),(6,sd43),(13,sd14),(14,sd0),(15,sd0)],[(12,sd40)]⟩
def whole_less.cb_r:Ck:=Ck.ofLoop (S:=(Int)×(Int)×(List Int)) (T:=(Int)×(Int)×(List Int)) whole_less.cb_s (fun X=>(X.2.2.2.1,(q4 X).2.2.1,(q4 X).2.2.2.1)) (fun ρ X Q Z=>whole_less.cb_ X.2.1 Q.1 (q4 X).1 (q4 X).2.1 Q.2.1 Q.2.2 Z) (fun ρ X V Z=>Z 2 (Shape.inj whole_less.cb_s (X.1,X.2.1,X.2.2.1,V.1,(q4 X).1,(q4 X).2.1,V.2.1,V.2.2,())))
def whole_less (a:List (Int)) (b:List (Int)):Option (List Int):=
  bnd (okIf (decide ((0:Int)≤(a.length:Int))&&decide ((a.length:Int)≤(a.length:Int))&&decide ((a.length:Int)*(↑(4:Nat):Int)≤140737488355328)&&decide ((a.length:Int)≤140737488355328))) fun y=>
  bnd (iter (fun s↦whole_less.cb_ b s.1 a (a.length:Int) s.2.1 s.2.2 some) ((0:Int),(0:Int),List.replicate (Int.toNat (a.length:Int)) (0:Int))) fun y1=>
  some y1.2.2
def whole_less.ce:Go.Ql.Callee:=⟨[(.sl (.int .u32)),(.sl (.int .u32))],[(.sl (.int .u32))],fun X=>whole_less X.1 X.2⟩
def whole_less.G:Env:=⟨40,tab,[(95,JM.ce)],[0,1,4,5,6,7,8,9,13,14,15,16,23],[12],[],[(100004,whole_less.cb_r),(228677,whole_less.ci_r)],[],jP,[]⟩
theorem whole_less.p0:PcA whole_less.G Tryd.f81 0:=
  Jt (s:=whole_less.cb_r) (by kernel_rfl) (by kernel_rfl) (Je (sh:=whole_less.cb_s) (I:=fun X Q=>(X.1,X.2.1,X.2.2.1,Q.1,(q4 X).1,(q4 X).2.1,Q.2.1,Q.2.2,())) (fun X=>rfl) (fun ρ X Q Z=>(jv (jc fun _=>(jc fun _=>(jc fun _=>(jc fun _=>(jc fun _=>jd))))) jd)) (fun ρ X t k=>(by kernel_rfl)) (fun X s=>by kernel_rfl))
theorem whole_less.p1:PcA whole_less.G Tryd.f81 1:=
  kj (s:=whole_less.ci_r) (by kernel_rfl) (by kernel_rfl) (jG (sh:=whole_less.ci_s) (fun ρ X Z=>(jv (jc fun _=>jd) jd)) (fun ρ X t k=>(by kernel_rfl)) (fun X=>by kernel_rfl))
theorem whole_less.ok:CalleeOk Tryd.prog 81 whole_less.ce:=fn_ok (G:=whole_less.G) jV mixed Tryd.func81 ⟨(jI JM.ok jR),jM,jC,jL⟩ (m:=2) (by kernel_rfl) ⟨⟨trivial,whole_less.p0⟩,whole_less.p1⟩ (by kernel_rfl) (fun _=>by kernel_rfl)
abbrev sd47:SD:=.one (.val (.st (.pair .bool (.sl (.int .u32)))))
def whole_Int_Add.c2 (a0:Bool)(a1:List (Int))(b1:List (Int))(Z:Bool×(List Int)→Option ρ):Option ρ:=
  bnd (whole_sum a1 b1) fun y=>
  bnd (whole_made a0 y) fun y1=>
  Z (y1.1,y1.2)
def whole_Int_Add.c2s:Shape:=⟨[(0,sd47),(1,sd47),(2,sd5),(3,sd36),(4,sd15)],[(2,sd16),(3,sd16),(4,sd16)]⟩
def whole_Int_Add.c2r:Ck:=Ck.of (T:=Bool×(List Int)) whole_Int_Add.c2s (fun ρ X Z=>whole_Int_Add.c2 X.2.2.1 X.2.2.2.1 (q4 X).2.1 Z) (fun ρ X V Z=>Z 0 (Shape.inj whole_Int_Add.c2s (X.1,X.2.1,X.2.2.1,X.2.2.2.1,(q4 X).1,(q4 X).2.1,V.1,V.2,())))
def whole_Int_Add.c4 (a0:Bool)(a1:List (Int))(b1:List (Int))(Z:Bool×(List Int)→Option ρ):Option ρ:=
  bnd (whole_less a1 b1) fun y=>
  bnd (whole_made a0 y) fun y1=>
  Z (y1.1,y1.2)
def whole_Int_Add.c4r:Ck:=Ck.of (T:=Bool×(List Int)) whole_Int_Add.c2s (fun ρ X Z=>whole_Int_Add.c4 X.2.2.1 X.2.2.2.1 (q4 X).2.1 Z) (fun ρ X V Z=>Z 0 (Shape.inj whole_Int_Add.c2s (X.1,X.2.1,X.2.2.1,X.2.2.2.1,(q4 X).1,(q4 X).2.1,V.1,V.2,())))
def whole_Int_Add.c5 (a1:List (Int))(b0:Bool)(b1:List (Int))(Z:Bool×(List Int)→Option ρ):Option ρ:=
  bnd (whole_less b1 a1) fun y=>
  bnd (whole_made b0 y) fun y1=>
  Z (y1.1,y1.2)
def whole_Int_Add.c5r:Ck:=Ck.of (T:=Bool×(List Int)) whole_Int_Add.c2s (fun ρ X Z=>whole_Int_Add.c5 X.2.2.2.1 (q4 X).1 (q4 X).2.1 Z) (fun ρ X V Z=>Z 0 (Shape.inj whole_Int_Add.c2s (X.1,X.2.1,X.2.2.1,X.2.2.2.1,(q4 X).1,(q4 X).2.1,V.1,V.2,())))
def whole_Int_Add (a:Bool×(List Int)) (b:Bool×(List Int)):Option (Bool×(List Int)):=
  br (a.1==b.1)
   (bnd (whole_Int_Add.c2 a.1 a.2 b.2 some) fun y=>
    some (y.1,y.2))
   (bnd (whole_order a.2 b.2) fun y1=>
    br (decide (y1≥0))
     (bnd (whole_Int_Add.c4 a.1 a.2 b.2 some) fun y2=>
      some (y2.1,y2.2))
     (bnd (whole_Int_Add.c5 a.2 b.1 b.2 some) fun y3=>
      some (y3.1,y3.2)))
def whole_Int_Add.ce:Go.Ql.Callee:=⟨[(.st (.pair .bool (.sl (.int .u32)))),(.st (.pair .bool (.sl (.int .u32))))],[(.st (.pair .bool (.sl (.int .u32))))],fun X=>whole_Int_Add X.1 X.2⟩
def whole_Int_Add.G:Env:=⟨40,tab,[(79,whole_sum.ce),(78,whole_made.ce),(80,whole_order.ce),(81,whole_less.ce)],[0,1,2,3,4,9,23],[],[(5,[⟨[],[],[34,35,36,37,38],[]⟩,⟨[0],[],[34,35,36,37,38],[]⟩,⟨[],[],[32,33,36,37],[]⟩,⟨[2],[],[32,33,36,37],[]⟩,⟨[],[],[32,33,34,35],[]⟩,⟨[4],[],[32,33,34,35],[]⟩,⟨[3,2,5,4],[],[32,33],[]⟩,⟨[1,0,6,3,2,5,4],[],[],[]⟩,⟨[7,1,0,6,3,2,5,4],[4],[],[]⟩]),
  (4,[⟨[],[],[26,27,28,29,30],[]⟩,⟨[0],[],[26,27,28,29,30],[]⟩,⟨[],[],[24,25,28,29],[]⟩,⟨[2],[],[24,25,28,29],[]⟩,⟨[],[],[24,25,26,27],[]⟩,⟨[4],[],[24,25,26,27],[]⟩,⟨[3,2,5,4],[],[24,25],[]⟩,⟨[1,0,6,3,2,5,4],[],[],[]⟩,⟨[7,1,0,6,3,2,5,4],[4],[],[]⟩]),
  (2,[⟨[],[],[12,13,14,15,16],[]⟩,⟨[0],[],[12,13,14,15,16],[]⟩,⟨[],[],[10,11,14,15],[]⟩,⟨[2],[],[10,11,14,15],[]⟩,⟨[],[],[10,11,12,13],[]⟩,⟨[4],[],[10,11,12,13],[]⟩,⟨[3,2,5,4],[],[10,11],[]⟩,⟨[1,0,6,3,2,5,4],[],[],[]⟩,⟨[7,1,0,6,3,2,5,4],[4],[],[]⟩])],[(5,whole_Int_Add.c5r),(4,whole_Int_Add.c4r),(2,whole_Int_Add.c2r)],[],jP,[]⟩
theorem whole_Int_Add.p0:PcA whole_Int_Add.G Tryd.f61 0:=
  jE (s:=whole_Int_Add.c2r) (by kernel_rfl) (by kernel_rfl) (jG (sh:=whole_Int_Add.c2s) (fun ρ X Z=>(jc fun _=>(jc fun _=>jd))) (fun ρ X t k=>(by kernel_rfl)) (fun X=>by kernel_rfl))
theorem whole_Int_Add.p1:PcA whole_Int_Add.G Tryd.f61 1:=
  jE (s:=whole_Int_Add.c4r) (by kernel_rfl) (by kernel_rfl) (jG (sh:=whole_Int_Add.c2s) (fun ρ X Z=>(jc fun _=>(jc fun _=>jd))) (fun ρ X t k=>(by kernel_rfl)) (fun X=>by kernel_rfl))
theorem whole_Int_Add.p2:PcA whole_Int_Add.G Tryd.f61 2:=
  jE (s:=whole_Int_Add.c5r) (by kernel_rfl) (by kernel_rfl) (jG (sh:=whole_Int_Add.c2s) (fun ρ X Z=>(jc fun _=>(jc fun _=>jd))) (fun ρ X t k=>(by kernel_rfl)) (fun X=>by kernel_rfl))
theorem whole_Int_Add.ok:CalleeOk Tryd.prog 61 whole_Int_Add.ce:=fn_ok (G:=whole_Int_Add.G) jV mixed Tryd.func61 ⟨(jI whole_sum.ok (jI whole_made.ok (jI whole_order.ok (jI whole_less.ok jR)))),jM,jC,jL⟩ (m:=3) (by kernel_rfl) ⟨⟨⟨trivial,whole_Int_Add.p0⟩,whole_Int_Add.p1⟩,whole_Int_Add.p2⟩ (by kernel_rfl) (fun _=>by kernel_rfl)
def whole_Int_Sub.c1 (a0:Bool)(a1:List (Int))(b0:Bool)(b1:List (Int))(Z:Bool×(List Int)→Option ρ):Option ρ:=
  bnd (whole_Int_Neg (b0,b1)) fun y=>
  bnd (whole_Int_Add (a0,a1) y) fun y1=>
  Z (y1.1,y1.2)
def whole_Int_Sub.c1s:Shape:=⟨[(0,sd47),(1,sd47),(2,sd5),(3,sd36),(4,sd15)],[(2,sd16),(3,sd16),(4,sd16)]⟩
def whole_Int_Sub.c1r:Ck:=Ck.of (T:=Bool×(List Int)) whole_Int_Sub.c1s (fun ρ X Z=>whole_Int_Sub.c1 X.2.2.1 X.2.2.2.1 (q4 X).1 (q4 X).2.1 Z) (fun ρ X V Z=>Z 0 (Shape.inj whole_Int_Sub.c1s (X.1,X.2.1,X.2.2.1,X.2.2.2.1,(q4 X).1,(q4 X).2.1,V.1,V.2,())))
def whole_Int_Sub (a:Bool×(List Int)) (b:Bool×(List Int)):Option (Bool×(List Int)):=
  bnd (whole_Int_Sub.c1 a.1 a.2 b.1 b.2 some) fun y=>
  some (y.1,y.2)
def whole_Int_Sub.ce:Go.Ql.Callee:=⟨[(.st (.pair .bool (.sl (.int .u32)))),(.st (.pair .bool (.sl (.int .u32))))],[(.st (.pair .bool (.sl (.int .u32))))],fun X=>whole_Int_Sub X.1 X.2⟩
def whole_Int_Sub.G:Env:=⟨9,tab,[(64,whole_Int_Neg.ce),(61,whole_Int_Add.ce)],[0,1,2,3,4],[],[(1,[⟨[],[],[6,7],[]⟩,⟨[],[],[5],[]⟩,⟨[1],[],[5],[]⟩,⟨[0,2,1],[],[],[]⟩,⟨[3,0,2,1],[4],[],[]⟩])],[(1,whole_Int_Sub.c1r)],[],jP,[]⟩
theorem whole_Int_Sub.p0:PcA whole_Int_Sub.G Tryd.f91 0:=
  jE (s:=whole_Int_Sub.c1r) (by kernel_rfl) (by kernel_rfl) (jG (sh:=whole_Int_Sub.c1s) (fun ρ X Z=>(jc fun _=>(jc fun _=>jd))) (fun ρ X t k=>(by kernel_rfl)) (fun X=>by kernel_rfl))
theorem whole_Int_Sub.ok:CalleeOk Tryd.prog 91 whole_Int_Sub.ce:=fn_ok (G:=whole_Int_Sub.G) jV mixed Tryd.func91 ⟨(jI whole_Int_Neg.ok (jI whole_Int_Add.ok jR)),jM,jC,jL⟩ (m:=1) (by kernel_rfl) ⟨trivial,whole_Int_Sub.p0⟩ (by kernel_rfl) (fun _=>by kernel_rfl)
abbrev sd48:SD:=.one (.ref 8 0)
def whole_Int_Shift.c1 (n:Int)(Z:Bool→Option ρ):Option ρ:=
  br (decide (n<(-10000:Int)))
   (Z true)
   (Z (decide (n>10000)))
def whole_Int_Shift.c1s:Shape:=⟨[(0,sd47),(1,sd0),(2,sd5),(4,sd15),(5,sd30)],[(2,sd16),(4,sd16),(5,sd12)]⟩
def whole_Int_Shift.c1x0:Shape:=⟨[(0,sd47),(1,sd0),(2,sd5),(4,sd15),(5,sd30),(14,sd1)],[(2,sd16),(4,sd16),(5,sd12)]⟩
def whole_Int_Shift.c1r:Ck:=Ck.of (T:=Bool) whole_Int_Shift.c1s (fun ρ X Z=>whole_Int_Shift.c1 X.2.1 Z) (fun ρ X V Z=>Z 0 (Shape.inj whole_Int_Shift.c1x0 (X.1,X.2.1,V,X.2.2)))
def whole_Int_Shift.c4 (n:Int)(a0:Bool)(a1:List (Int))(Z:Bool×(List Int)→Option ρ):Option ρ:=
  bnd (whole_left a1 n) fun y=>
  bnd (whole_made a0 y.1) fun y1=>
  Z (y1.1,y1.2)
def whole_Int_Shift.c4r:Ck:=Ck.of (T:=Bool×(List Int)) whole_Int_Shift.c1s (fun ρ X Z=>whole_Int_Shift.c4 X.2.1 X.2.2.1 X.2.2.2.1 Z) (fun ρ X V Z=>Z 0 (Shape.inj whole_Int_Shift.c1s (X.1,X.2.1,X.2.2.1,X.2.2.2.1,V.1,V.2,(0:Int),(0:Int),())))
def whole_Int_Shift.c7 (lost:Bool)(a0:Bool)(Z:Bool→Option ρ):Option ρ:=
  br lost
   (Z a0)
   (Z false)
def whole_Int_Shift.c7s:Shape:=⟨[(0,sd47),(1,sd0),(2,sd5),(4,sd15),(5,sd30),(6,sd14),(7,sd1),(8,sd48)],[(2,sd16),(4,sd16),(5,sd12),(8,sd16)]⟩
def whole_Int_Shift.c7x0:Shape:=⟨[(0,sd47),(1,sd0),(2,sd5),(4,sd15),(5,sd30),(6,sd14),(7,sd1),(8,sd48),(43,sd1)],[(2,sd16),(4,sd16),(5,sd12),(8,sd16)]⟩
def whole_Int_Shift.c7r:Ck:=Ck.of (T:=Bool) whole_Int_Shift.c7s (fun ρ X Z=>whole_Int_Shift.c7 X.2.2.2.1 (q4 X).1 Z) (fun ρ X V Z=>Z 0 (Shape.inj whole_Int_Shift.c7x0 (X.1,X.2.1,X.2.2.1,X.2.2.2.1,V,(q4 X))))
def whole_Int_Shift.c8 (out0:Bool)(out1:List (Int))(Z:Bool×(List Int)→Option ρ):Option ρ:=
  bnd (whole_Of (1:Int)) fun y=>
  bnd (whole_Int_Sub (out0,out1) y) fun y1=>
  Z (y1.1,y1.2)
def whole_Int_Shift.c8r:Ck:=Ck.of (T:=Bool×(List Int)) whole_Int_Shift.c7s (fun ρ X Z=>whole_Int_Shift.c8 (q8 X).2.2.1 (q8 X).2.2.2.1 Z) (fun ρ X V Z=>Z 0 (Shape.inj whole_Int_Shift.c7s (X.1,X.2.1,X.2.2.1,X.2.2.2.1,(q4 X).1,(q4 X).2.1,(q4 X).2.2.1,(q4 X).2.2.2.1,(q8 X).1,(q8 X).2.1,V.1,V.2,())))
def whole_Int_Shift.ci_ (lost:Bool)(a0:Bool)(out0:Bool)(out1:List (Int))(Z:Bool×(List Int)→Option ρ):Option ρ:=
  bnd (whole_Int_Shift.c7 lost a0 some) fun y=>
  br y
   (bnd (whole_Int_Shift.c8 out0 out1 some) fun y1=>
    Z (y1.1,y1.2))
   (Z (out0,out1))
def whole_Int_Shift.ci_r:Ck:=Ck.of (T:=Bool×(List Int)) whole_Int_Shift.c7s (fun ρ X Z=>whole_Int_Shift.ci_ X.2.2.2.1 (q4 X).1 (q8 X).2.2.1 (q8 X).2.2.2.1 Z) (fun ρ X V Z=>Z 0 (Shape.inj whole_Int_Shift.c7s (X.1,X.2.1,X.2.2.1,X.2.2.2.1,(q4 X).1,(q4 X).2.1,(q4 X).2.2.1,(q4 X).2.2.2.1,(q8 X).1,(q8 X).2.1,V.1,V.2,())))
def whole_Int_Shift (a:Bool×(List Int)) (n:Int):Option ((Bool×(List Int))×((Int)×(Int))):=
  bnd (whole_Int_Shift.c1 n some) fun y=>
  br y
   (some ((false,[]),(5:Int),(0:Int)))
   (br (decide (n≥0))
     (bnd (whole_Int_Shift.c4 n a.1 a.2 some) fun y1=>
      some ((y1.1,y1.2),(0:Int),(0:Int)))
     (bnd (whole_right a.2 (i64.wrap ((0:Int)-n))) fun y2=>
      bnd (whole_made a.1 y2.1) fun y3=>
      bnd (whole_Int_Shift.ci_ y2.2 a.1 y3.1 y3.2 some) fun y4=>
      some ((y4.1,y4.2),(0:Int),(0:Int))))
def whole_Int_Shift.ce:Go.Ql.Callee:=⟨[(.st (.pair .bool (.sl (.int .u32)))),(.int .i64)],[(.st (.pair .bool (.sl (.int .u32)))),(.st (.pair (.int .i64) (.int .i64)))],fun X=>whole_Int_Shift X.1 X.2⟩
def whole_Int_Shift.G:Env:=⟨49,tab,[(78,whole_made.ce),(90,whole_right.ce),(88,whole_Of.ce),(91,whole_Int_Sub.ce)],[0,1,2,4,5,6,7,8,14,18,43],[],[(8,[⟨[],[],[45],[]⟩,⟨[],[],[44],[]⟩,⟨[0,1],[],[],[]⟩,⟨[2,0,1],[8],[],[]⟩]),
  (4,[⟨[],[],[21,22,23,24,26],[24]⟩,⟨[0],[],[21,22,23,24,26],[24]⟩,⟨[],[],[19,20,23,26],[]⟩,⟨[2],[],[19,20,23,26],[]⟩,⟨[],[],[19,20,21,22,26],[]⟩,⟨[3,2,4],[24],[19,20,26],[]⟩,⟨[1,0,5,3,2,4],[24],[26],[]⟩,⟨[],[],[19,20,21,22,23,24,25],[24,4]⟩,⟨[6,1,0,5,3,2,4],[4],[26],[]⟩,⟨[7,8,6,1,0,5,3,2,4],[5],[],[]⟩])],[(228677,whole_Int_Shift.ci_r),(8,whole_Int_Shift.c8r),(7,whole_Int_Shift.c7r),(4,whole_Int_Shift.c4r),(1,whole_Int_Shift.c1r)],[(89,whole_left.mc)],jP,[]⟩
theorem whole_Int_Shift.p0:PcA whole_Int_Shift.G Tryd.f77 0:=
  jE (s:=whole_Int_Shift.c1r) (by kernel_rfl) (by kernel_rfl) (jG (sh:=whole_Int_Shift.c1s) (fun ρ X Z=>(jv jd jd)) (fun ρ X t k=>(by kernel_rfl)) (fun X=>by kernel_rfl))
theorem whole_Int_Shift.p1:PcA whole_Int_Shift.G Tryd.f77 1:=
  jE (s:=whole_Int_Shift.c4r) (by kernel_rfl) (by kernel_rfl) (jG (sh:=whole_Int_Shift.c1s) (fun ρ X Z=>(jc fun _=>(jc fun _=>jd))) (fun ρ X t k=>(by kernel_rfl)) (fun X=>by kernel_rfl))
theorem whole_Int_Shift.p2:PcA whole_Int_Shift.G Tryd.f77 2:=
  kj (s:=whole_Int_Shift.ci_r) (by kernel_rfl) (by kernel_rfl) (jG (sh:=whole_Int_Shift.c7s) (fun ρ X Z=>(jc fun _=>(jv (jc fun _=>jd) jd))) (fun ρ X t k=>(by kernel_rfl)) (fun X=>by kernel_rfl))
theorem whole_Int_Shift.p3:PcA whole_Int_Shift.G Tryd.f77 3:=
  jE (s:=whole_Int_Shift.c7r) (by kernel_rfl) (by kernel_rfl) (jG (sh:=whole_Int_Shift.c7s) (fun ρ X Z=>(jv jd jd)) (fun ρ X t k=>(by kernel_rfl)) (fun X=>by kernel_rfl))
theorem whole_Int_Shift.p4:PcA whole_Int_Shift.G Tryd.f77 4:=
  jE (s:=whole_Int_Shift.c8r) (by kernel_rfl) (by kernel_rfl) (jG (sh:=whole_Int_Shift.c7s) (fun ρ X Z=>(jc fun _=>(jc fun _=>jd))) (fun ρ X t k=>(by kernel_rfl)) (fun X=>by kernel_rfl))
theorem whole_Int_Shift.ok:CalleeOk Tryd.prog 77 whole_Int_Shift.ce:=fn_ok (G:=whole_Int_Shift.G) jV mixed Tryd.func77 ⟨(jI whole_made.ok (jI whole_right.ok (jI whole_Of.ok (jI whole_Int_Sub.ok jR)))),(JI whole_left.ok jM),jC,jL⟩ (m:=5) (by kernel_rfl) ⟨⟨⟨⟨⟨trivial,whole_Int_Shift.p0⟩,whole_Int_Shift.p1⟩,whole_Int_Shift.p2⟩,whole_Int_Shift.p3⟩,whole_Int_Shift.p4⟩ (by kernel_rfl) (fun _=>by kernel_rfl)
abbrev sd49:SD:=.one (.aptr 2000700 0)
def jn.pre:Shape:=⟨[(0,sd49),(1,sd0)],[(2000700,sd23)]⟩
def jn.post:Shape:=⟨[],[(2000700,sd23)]⟩
def jn.c6 (i:Int)(t6:Int)(uk:List ((List (Bool×(List Int)))×(Int)))(Z:List ((List (Bool×(List Int)))×(Int))→Option ρ):Option ρ:=
  bnd (okIf (decide ((0:Ty.den (Ty.int IntKind.i64))≤i)&&decide (i<(↑(8:Nat):Int)))) fun y=>
  bnd (inR (uk.length) (0:Int)) fun y1=>
  bnd (idx uk (0:Int)) fun y2=>
  bnd (idx y2.1 i) fun y3=>
  bnd (whole_Int_Shift y3 (i64.wrap ((0:Int)-t6))) fun y4=>
  bnd (okIf (decide ((0:Ty.den (Ty.int IntKind.i64))≤i)&&decide (i<(↑(8:Nat):Int)))) fun y5=>
  bnd (inR (uk.length) (0:Int)) fun y6=>
  bnd (idx uk (0:Int)) fun y7=>
  bnd (idx y7.1 i) fun y8=>
  Z (List.set uk (0:Nat) (List.set y7.1 (Int.toNat i) y4.1,y7.2))
def jn.c6s:Shape:=⟨[(0,sd49),(1,sd0),(4,sd0),(5,sd0),(6,sd0),(7,sd0)],[(2000700,sd23)]⟩
def jn.c6r:Ck:=Ck.of (T:=List ((List (Bool×(List Int)))×(Int))) jn.c6s (fun ρ X Z=>jn.c6 X.2.1 X.2.2.2.1 (q4 X).2.1 Z) (fun ρ X V Z=>Z 0 (Shape.inj jn.c6s (X.1,X.2.1,X.2.2.1,X.2.2.2.1,(q4 X).1,V,())))
def jn.cb_ (i:Int)(t5:Int)(uk:List ((List (Bool×(List Int)))×(Int)))(Z:((Int)×(List ((List (Bool×(List Int)))×(Int))))⊕((Int)×(List ((List (Bool×(List Int)))×(Int))))→Option ρ):Option ρ:=
  br (t5 !=0)
   (bnd (jn.c6 i (Max.max (-10000:Int) (Min.min (10000:Int) t5)) uk some) fun y=>
    Z (.inl ((i64.wrap (t5-Max.max (-10000:Int) (Min.min (10000:Int) t5))),y)))
   (Z (.inr (t5,uk)))
def jn.cb_s:Shape:=⟨[(0,sd49),(1,sd0),(4,sd0),(5,sd0),(7,sd0)],[(2000700,sd23)]⟩
def jn.cb_r:Ck:=Ck.ofLoop (S:=(Int)×(List ((List (Bool×(List Int)))×(Int)))) (T:=(Int)×(List ((List (Bool×(List Int)))×(Int)))) jn.cb_s (fun X=>(X.2.2.1,(q4 X).1)) (fun ρ X Q Z=>jn.cb_ X.2.1 Q.1 Q.2 Z) (fun ρ X V Z=>Z 4 (Shape.inj jn.cb_s (X.1,X.2.1,V.1,X.2.2.2.1,V.2,())))
def jn.cd_ (n:Int)(t7:Int)(uk:List ((List (Bool×(List Int)))×(Int)))(Z:((Int)×(List ((List (Bool×(List Int)))×(Int))))⊕((Int)×(List ((List (Bool×(List Int)))×(Int))))→Option ρ):Option ρ:=
  br (decide (t7<8))
   (bnd (iter (fun s↦jn.cb_ t7 s.1 s.2 some) (n,uk)) fun y=>
    Z (.inl ((i64.wrap (t7+1)),y.2)))
   (Z (.inr (t7,uk)))
def jn.cd_s:Shape:=⟨[(0,sd49),(1,sd0),(7,sd0)],[(2000700,sd23)]⟩
def jn.cd_r:Ck:=Ck.ofLoop (S:=(Int)×(List ((List (Bool×(List Int)))×(Int)))) (T:=(Int)×(List ((List (Bool×(List Int)))×(Int)))) jn.cd_s (fun X=>(X.2.1,X.2.2.1)) (fun ρ X Q Z=>jn.cd_ X.1 Q.1 Q.2 Z) (fun ρ X V Z=>Z 2 (Shape.inj jn.cd_s (X.1,V.1,V.2,())))
def jn (n:Int) (uk:List ((List (Bool×(List Int)))×(Int))):Option ((List ((List (Bool×(List Int)))×(Int)))×Unit):=
  bnd (iter (fun s↦jn.cd_ n s.1 s.2 some) ((0:Int),uk)) fun y=>
  some (y.2,())
def jn.mc:MCallee:=⟨60,jn.pre,jn.post,fun X=>jn X.1 X.2.1⟩
def jn.G:Env:=⟨35,tab,[(77,whole_Int_Shift.ce)],[0,1,4,5,6,7,8,12],[2000700],[(6,[⟨[],[],[18,19,20,21,22,23,24,25,26,16,27,28],[]⟩,⟨[],[],[17,19,20,21,22,23,24,25,26,16,27,28,29],[]⟩,⟨[],[],[17,18,20,24,25,29],[]⟩,⟨[],[],[17,18,19,21,24,25,29],[]⟩,⟨[2],[],[17,18,20,24,25,29],[]⟩,⟨[4,2,3],[],[17,18,24,25,29],[]⟩,⟨[5,4,2,3],[],[17,18,24,25,29],[]⟩,⟨[],[],[17,18,19,20,21,22,23,29],[]⟩,⟨[7],[],[17,18,19,20,21,22,23,29],[]⟩,⟨[6,5,4,2,3,8,7],[],[17,18,29],[]⟩,⟨[9,6,5,4,2,3,8,7],[],[17,18,29],[]⟩,⟨[10,9,6,5,4,2,3,8,7],[],[17,18,28,29],[]⟩,⟨[10,9,6,5,4,2,3,8,7],[],[17,18,27,29,30],[2000700]⟩,⟨[0],[],[18,19,20,21,22,23,24,25,26,16,27,28],[]⟩,⟨[13,0,1,2,3,4,5,6,7,8,9,10,11],[],[28],[]⟩,⟨[14,13,0,1,2,3,4,5,6,7,8,9,10,11],[2000700],[28],[]⟩])],[(100001,jn.cd_r),(100004,jn.cb_r),(6,jn.c6r)],[],jP,[]⟩
theorem jn.p0:PcA jn.G Tryd.f60 0:=
  Jt (s:=jn.cd_r) (by kernel_rfl) (by kernel_rfl) (Je (sh:=jn.cd_s) (I:=fun X Q=>(X.1,Q.1,Q.2,())) (fun X=>rfl) (fun ρ X Q Z=>(jv (jc fun _=>jd) jd)) (fun ρ X t k=>(by kernel_rfl)) (fun X s=>by kernel_rfl))
theorem jn.p1:PcA jn.G Tryd.f60 1:=
  Jt (s:=jn.cb_r) (by kernel_rfl) (by kernel_rfl) (Je (sh:=jn.cb_s) (I:=fun X Q=>(X.1,X.2.1,Q.1,X.2.2.2.1,Q.2,())) (fun X=>rfl) (fun ρ X Q Z=>(jv (jc fun _=>jd) jd)) (fun ρ X t k=>(by kernel_rfl)) (fun X s=>by kernel_rfl))
theorem jn.p2:PcA jn.G Tryd.f60 2:=
  jE (s:=jn.c6r) (by kernel_rfl) (by kernel_rfl) (jG (sh:=jn.c6s) (fun ρ X Z=>(jc fun _=>(jc fun _=>(jc fun _=>(jc fun _=>(jc fun _=>(jc fun _=>(jc fun _=>(jc fun _=>(jc fun _=>jd)))))))))) (fun ρ X t k=>(by kernel_rfl)) (fun X=>by kernel_rfl))
theorem jn.ok:MOk Tryd.prog 60 jn.mc:=kq (mc:=jn.mc) (G:=jn.G) jV mixed Tryd.func60 ⟨(jI whole_Int_Shift.ok jR),jM,jC,jL⟩ (m:=3) (by kernel_rfl) ⟨⟨⟨trivial,jn.p0⟩,jn.p1⟩,jn.p2⟩ (by kernel_rfl) (fun _=>by kernel_rfl)
def whole_Int_Twos.cc_ (t6:List (Int))(t7:Int)(t8:Int)(Z:(Int)⊕(((Int)×(Int))⊕(Int))→Option ρ):Option ρ:=
  br (decide (t8<t7))
   (bnd (idx t6 t8) fun y=>
    br (y !=0)
     (bnd (Ju y) fun y1=>
      Z (.inr (.inl ((i64.wrap (i64.wrap ((32:Int)*t8)+y1)),t8))))
     (Z (.inl (i64.wrap (t8+1)))))
   (Z (.inr (.inr t8)))
def whole_Int_Twos.cc_s:Shape:=⟨[(0,sd47),(1,sd11),(2,sd0),(6,sd14),(7,sd0),(8,sd0)],[(1,sd16)]⟩
def whole_Int_Twos.cc_r:Ck:=Ck.ofLoop (S:=Int) (T:=((Int)×(Int))⊕(Int)) whole_Int_Twos.cc_s (fun X=>(q4 X).1) (fun ρ X Q Z=>whole_Int_Twos.cc_ X.2.2.1 X.2.2.2.1 Q Z) (fun ρ X V Z=>sel V (fun V=>Z 1 (Shape.inj whole_Int_Twos.cc_s (X.1,V.1,X.2.2.1,X.2.2.2.1,V.2,(q4 X).2))) (fun V=>Z 2 (Shape.inj whole_Int_Twos.cc_s (X.1,X.2.1,X.2.2.1,X.2.2.2.1,V,(q4 X).2))))
def whole_Int_Twos (a:Bool×(List Int)):Option (Int):=
  bnd (iter (fun s↦whole_Int_Twos.cc_ a.2 (↑(List.length a.2):Int) s some) (0:Int)) fun y=>
  sel y
   (fun u=>some u.1)
   (fun v=>some (0:Int))
def whole_Int_Twos.ce:Go.Ql.Callee:=⟨[(.st (.pair .bool (.sl (.int .u32))))],[(.int .i64)],fun X=>whole_Int_Twos X⟩
def whole_Int_Twos.G:Env:=⟨21,tab,[(96,Ju.ce)],[0,1,2,3,4,6,7,8,9,14],[],[],[(100002,whole_Int_Twos.cc_r)],[],jP,[]⟩
theorem whole_Int_Twos.p0:PcA whole_Int_Twos.G Tryd.f82 0:=
  Jt (s:=whole_Int_Twos.cc_r) (by kernel_rfl) (by kernel_rfl) (Je (sh:=whole_Int_Twos.cc_s) (I:=fun X Q=>(X.1,X.2.1,X.2.2.1,X.2.2.2.1,Q,(q4 X).2)) (fun X=>rfl) (fun ρ X Q Z=>(jv (jc fun _=>(jv (jc fun _=>jd) jd)) jd)) (fun ρ X t k=>(kl (fun _=>(by kernel_rfl)) (fun _=>(by kernel_rfl)))) (fun X s=>by kernel_rfl))
theorem whole_Int_Twos.ok:CalleeOk Tryd.prog 82 whole_Int_Twos.ce:=fn_ok (G:=whole_Int_Twos.G) jV mixed Tryd.func82 ⟨(jI Ju.ok jR),jM,jC,jL⟩ (m:=1) (by kernel_rfl) ⟨trivial,whole_Int_Twos.p0⟩ (by kernel_rfl) (fun _=>by kernel_rfl)
abbrev sd50:SO:=.arr 0 false 76 (.st (.pair .bool (.sl (.int .u32))))
def jH.pre:Shape:=⟨[(0,sd49),(1,sd0)],[(2000700,sd50)]⟩
def jH.post:Shape:=⟨[],[(2000700,sd50)]⟩
def jH.c6 (i:Int)(t6:Int)(uk:List (Bool×(List Int)))(Z:List (Bool×(List Int))→Option ρ):Option ρ:=
  bnd (okIf (decide ((0:Ty.den (Ty.int IntKind.i64))≤i)&&decide (i<(↑(8:Nat):Int)))) fun y=>
  bnd (inR (uk.length) i) fun y1=>
  bnd (idx uk i) fun y2=>
  bnd (whole_Int_Shift y2 (i64.wrap ((0:Int)-t6))) fun y3=>
  bnd (okIf (decide ((0:Ty.den (Ty.int IntKind.i64))≤i)&&decide (i<(↑(8:Nat):Int)))) fun y4=>
  bnd (inR (uk.length) i) fun y5=>
  bnd (idx uk i) fun y6=>
  Z (List.set uk (Int.toNat i) y3.1)
def jH.c6s:Shape:=⟨[(0,sd49),(1,sd0),(4,sd0),(5,sd0),(6,sd0),(7,sd0)],[(2000700,sd50)]⟩
def jH.c6r:Ck:=Ck.of (T:=List (Bool×(List Int))) jH.c6s (fun ρ X Z=>jH.c6 X.2.1 X.2.2.2.1 (q4 X).2.1 Z) (fun ρ X V Z=>Z 0 (Shape.inj jH.c6s (X.1,X.2.1,X.2.2.1,X.2.2.2.1,(q4 X).1,V,())))
def jH.cb_ (i:Int)(t5:Int)(uk:List (Bool×(List Int)))(Z:((Int)×(List (Bool×(List Int))))⊕((Int)×(List (Bool×(List Int))))→Option ρ):Option ρ:=
  br (t5 !=0)
   (bnd (jH.c6 i (Max.max (-10000:Int) (Min.min (10000:Int) t5)) uk some) fun y=>
    Z (.inl ((i64.wrap (t5-Max.max (-10000:Int) (Min.min (10000:Int) t5))),y)))
   (Z (.inr (t5,uk)))
def jH.cb_s:Shape:=⟨[(0,sd49),(1,sd0),(4,sd0),(5,sd0),(7,sd0)],[(2000700,sd50)]⟩
def jH.cb_r:Ck:=Ck.ofLoop (S:=(Int)×(List (Bool×(List Int)))) (T:=(Int)×(List (Bool×(List Int)))) jH.cb_s (fun X=>(X.2.2.1,(q4 X).1)) (fun ρ X Q Z=>jH.cb_ X.2.1 Q.1 Q.2 Z) (fun ρ X V Z=>Z 4 (Shape.inj jH.cb_s (X.1,X.2.1,V.1,X.2.2.2.1,V.2,())))
def jH.cd_ (n:Int)(t7:Int)(uk:List (Bool×(List Int)))(Z:((Int)×(List (Bool×(List Int))))⊕((Int)×(List (Bool×(List Int))))→Option ρ):Option ρ:=
  br (decide (t7<8))
   (bnd (iter (fun s↦jH.cb_ t7 s.1 s.2 some) (n,uk)) fun y=>
    Z (.inl ((i64.wrap (t7+1)),y.2)))
   (Z (.inr (t7,uk)))
def jH.cd_s:Shape:=⟨[(0,sd49),(1,sd0),(7,sd0)],[(2000700,sd50)]⟩
def jH.cd_r:Ck:=Ck.ofLoop (S:=(Int)×(List (Bool×(List Int)))) (T:=(Int)×(List (Bool×(List Int)))) jH.cd_s (fun X=>(X.2.1,X.2.2.1)) (fun ρ X Q Z=>jH.cd_ X.1 Q.1 Q.2 Z) (fun ρ X V Z=>Z 2 (Shape.inj jH.cd_s (X.1,V.1,V.2,())))
def jH (n:Int) (uk:List (Bool×(List Int))):Option ((List (Bool×(List Int)))×Unit):=
  bnd (iter (fun s↦jH.cd_ n s.1 s.2 some) ((0:Int),uk)) fun y=>
  some (y.2,())
def jH.mc:MCallee:=⟨60,jH.pre,jH.post,fun X=>jH X.1 X.2.1⟩
def jH.G:Env:=⟨35,tab,[(77,whole_Int_Shift.ce)],[0,1,4,5,6,7,8,12],[2000700],[(6,[⟨[],[],[18,19,20,21,22,23,24,25,26,16,27,28],[]⟩,⟨[],[],[17,19,20,21,22,23,24,25,26,16,27,28,29],[]⟩,⟨[],[],[17,18,20,24,25,29],[]⟩,⟨[],[],[17,18,19,21,24,25,29],[]⟩,⟨[2],[],[17,18,20,24,25,29],[]⟩,⟨[4,2,3],[],[17,18,24,25,29],[]⟩,⟨[5,4,2,3],[],[17,18,24,25,29],[]⟩,⟨[],[],[17,18,19,20,21,22,23,29],[]⟩,⟨[7],[],[17,18,19,20,21,22,23,29],[]⟩,⟨[6,5,4,2,3,8,7],[],[17,18,29],[]⟩,⟨[9,6,5,4,2,3,8,7],[],[17,18,29],[]⟩,⟨[10,9,6,5,4,2,3,8,7],[],[17,18,28,29],[]⟩,⟨[10,9,6,5,4,2,3,8,7],[],[17,18,27,29,30],[2000700]⟩,⟨[0],[],[18,19,20,21,22,23,24,25,26,16,27,28],[]⟩,⟨[13,0,1,2,3,4,5,6,7,8,9,10,11],[],[28],[]⟩,⟨[14,13,0,1,2,3,4,5,6,7,8,9,10,11],[2000700],[28],[]⟩])],[(100001,jH.cd_r),(100004,jH.cb_r),(6,jH.c6r)],[],jP,[]⟩
theorem jH.p0:PcA jH.G Tryd.f60 0:=
  Jt (s:=jH.cd_r) (by kernel_rfl) (by kernel_rfl) (Je (sh:=jH.cd_s) (I:=fun X Q=>(X.1,Q.1,Q.2,())) (fun X=>rfl) (fun ρ X Q Z=>(jv (jc fun _=>jd) jd)) (fun ρ X t k=>(by kernel_rfl)) (fun X s=>by kernel_rfl))
theorem jH.p1:PcA jH.G Tryd.f60 1:=
  Jt (s:=jH.cb_r) (by kernel_rfl) (by kernel_rfl) (Je (sh:=jH.cb_s) (I:=fun X Q=>(X.1,X.2.1,Q.1,X.2.2.2.1,Q.2,())) (fun X=>rfl) (fun ρ X Q Z=>(jv (jc fun _=>jd) jd)) (fun ρ X t k=>(by kernel_rfl)) (fun X s=>by kernel_rfl))
theorem jH.p2:PcA jH.G Tryd.f60 2:=
  jE (s:=jH.c6r) (by kernel_rfl) (by kernel_rfl) (jG (sh:=jH.c6s) (fun ρ X Z=>(jc fun _=>(jc fun _=>(jc fun _=>(jc fun _=>(jc fun _=>(jc fun _=>(jc fun _=>jd)))))))) (fun ρ X t k=>(by kernel_rfl)) (fun X=>by kernel_rfl))
theorem jH.ok:MOk Tryd.prog 60 jH.mc:=kq (mc:=jH.mc) (G:=jH.G) jV mixed Tryd.func60 ⟨(jI whole_Int_Shift.ok jR),jM,jC,jL⟩ (m:=3) (by kernel_rfl) ⟨⟨⟨trivial,jH.p0⟩,jH.p1⟩,jH.p2⟩ (by kernel_rfl) (fun _=>by kernel_rfl)
abbrev sd51:SD:=.one (.aptr 2 0)
def jr.c5 (twos:Int)(any:Bool)(x0:Bool)(x1:List (Int))(Z:Bool→Option ρ):Option ρ:=
  bnd (whole_Int_Sign (x0,x1)) fun y=>
  br (y !=0)
   (br (!any)
     (Z true)
     (bnd (whole_Int_Twos (x0,x1)) fun y1=>
      Z (decide (y1<twos))))
   (Z false)
def jr.c5s:Shape:=⟨[(0,sd22),(1,sd0),(2,sd51),(4,sd20),(5,sd0),(6,sd1),(8,sd48),(10,sd22),(11,sd0)],[(2,sd50),(4,sd23),(8,sd16)]⟩
def jr.c5x0:Shape:=⟨[(0,sd22),(1,sd0),(2,sd51),(4,sd20),(5,sd0),(6,sd1),(8,sd48),(10,sd22),(11,sd0),(26,sd1)],[(2,sd50),(4,sd23),(8,sd16)]⟩
def jr.c5r:Ck:=Ck.of (T:=Bool) jr.c5s (fun ρ X Z=>jr.c5 X.2.2.1 X.2.2.2.1 (q8 X).1 (q8 X).2.1 Z) (fun ρ X V Z=>Z 0 (Shape.inj jr.c5x0 (X.1,X.2.1,X.2.2.1,X.2.2.2.1,(q4 X).1,(q4 X).2.1,V,(q4 X).2.2)))
def jr.ch_ (twos:Int)(any:Bool)(t10:List (Bool×(List Int)))(t11:Int)(Z:(Int)×Bool→Option ρ):Option ρ:=
  bnd (idx t10 t11) fun y=>
  bnd (jr.c5 twos any y.1 y.2 some) fun y1=>
  br y1
   (bnd (whole_Int_Twos (y.1,y.2)) fun y2=>
    Z (y2,true))
   (Z (twos,any))
def jr.ch_s:Shape:=⟨[(0,sd22),(1,sd0),(2,sd51),(4,sd20),(5,sd0),(6,sd1),(10,sd22),(11,sd0)],[(2,sd50),(4,sd23)]⟩
def jr.ch_r:Ck:=Ck.of (T:=(Int)×Bool) jr.ch_s (fun ρ X Z=>jr.ch_ X.2.2.1 X.2.2.2.1 (q4 X).1 (q4 X).2.1 Z) (fun ρ X V Z=>Z 0 (Shape.inj jr.ch_s (X.1,X.2.1,V.1,V.2,(q4 X))))
def jr.ca_ (twos:Int)(any:Bool)(t10:List (Bool×(List Int)))(t11:Int)(Z:((Int)×Bool×(Int))⊕((Int)×Bool×(Int))→Option ρ):Option ρ:=
  br (decide (t11<8))
   (bnd (jr.ch_ twos any t10 t11 some) fun y=>
    Z (.inl (y.1,y.2,(i64.wrap (t11+1)))))
   (Z (.inr (twos,any,t11)))
def jr.ca_r:Ck:=Ck.ofLoop (S:=(Int)×Bool×(Int)) (T:=(Int)×Bool×(Int)) jr.ch_s (fun X=>(X.2.2.1,X.2.2.2.1,(q4 X).2.1)) (fun ρ X Q Z=>jr.ca_ Q.1 Q.2.1 (q4 X).1 Q.2.2 Z) (fun ρ X V Z=>Z 2 (Shape.inj jr.ch_s (X.1,X.2.1,V.1,V.2.1,(q4 X).1,V.2.2,(q4 X).2.2)))
def jr.cA_ (e:Int)(twos:Int)(c_1:List (Bool×(List Int)))(Z:(Int)×(List (Bool×(List Int)))→Option ρ):Option ρ:=
  br (Min.min twos e !=0)
   (bnd (jH (Min.min twos e) c_1) fun y=>
    Z ((i64.wrap (e-Min.min twos e)),y.1))
   (Z (e,c_1))
def jr.cA_r:Ck:=Ck.of (T:=(Int)×(List (Bool×(List Int)))) jr.ch_s (fun ρ X Z=>jr.cA_ X.2.1 X.2.2.1 (q4 X).2.2.1 Z) (fun ρ X V Z=>Z 0 (Shape.inj jr.ch_s (X.1,V.1,X.2.2.1,X.2.2.2.1,(q4 X).1,(q4 X).2.1,V.2,(q4 X).2.2.2)))
def jr (c:List (Bool×(List Int))) (e:Int):Option ((List (Bool×(List Int)))×(Int)):=
  bnd (okIf (decide (c.length=8))) fun y=>
  bnd (iter (fun s↦jr.ca_ s.1 s.2.1 c s.2.2 some) ((0:Int),false,(0:Int))) fun y1=>
  br (!y1.2.1)
   (some (List.replicate (8:Nat) (false,[]),(0:Int)))
   (bnd (jr.cA_ e y1.1 c some) fun y2=>
    bnd (okIf (decide (List.length y2.2=8))) fun y3=>
    some (y2.2,y2.1))
def jr.ce:Go.Ql.Callee:=⟨[(.ar 8 (.st (.pair .bool (.sl (.int .u32))))),(.int .i64)],[(.st (.pair (.ar 8 (.st (.pair .bool (.sl (.int .u32))))) (.int .i64)))],fun X=>jr X.1 X.2⟩
def jr.G:Env:=⟨46,tab,[(53,whole_Int_Sign.ce),(82,whole_Int_Twos.ce)],[0,1,2,4,5,6,8,9,10,11,12,26,31,37],[2,4,32,45],[],[(240969,jr.cA_r),(100003,jr.ca_r),(216392,jr.ch_r),(5,jr.c5r)],[(60,jH.mc)],jP,[]⟩
theorem jr.p0:PcA jr.G Tryd.f62 0:=
  Jt (s:=jr.ca_r) (by kernel_rfl) (by kernel_rfl) (Je (sh:=jr.ch_s) (I:=fun X Q=>(X.1,X.2.1,Q.1,Q.2.1,(q4 X).1,Q.2.2,(q4 X).2.2)) (fun X=>rfl) (fun ρ X Q Z=>(jv (jc fun _=>jd) jd)) (fun ρ X t k=>(by kernel_rfl)) (fun X s=>by kernel_rfl))
theorem jr.p1:PcA jr.G Tryd.f62 1:=
  kj (s:=jr.ch_r) (by kernel_rfl) (by kernel_rfl) (jG (sh:=jr.ch_s) (fun ρ X Z=>(jc fun _=>(jc fun _=>(jv (jc fun _=>jd) jd)))) (fun ρ X t k=>(by kernel_rfl)) (fun X=>by kernel_rfl))
theorem jr.p2:PcA jr.G Tryd.f62 2:=
  jE (s:=jr.c5r) (by kernel_rfl) (by kernel_rfl) (jG (sh:=jr.c5s) (fun ρ X Z=>(jc fun _=>(jv (jv jd (jc fun _=>jd)) jd))) (fun ρ X t k=>(by kernel_rfl)) (fun X=>by kernel_rfl))
theorem jr.p3:PcA jr.G Tryd.f62 3:=
  kj (s:=jr.cA_r) (by kernel_rfl) (by kernel_rfl) (jG (sh:=jr.ch_s) (fun ρ X Z=>(jv (jc fun _=>jd) jd)) (fun ρ X t k=>(by kernel_rfl)) (fun X=>by kernel_rfl))
theorem jr.ok:CalleeOk Tryd.prog 62 jr.ce:=fn_ok (G:=jr.G) jV mixed Tryd.func62 ⟨(jI whole_Int_Sign.ok (jI whole_Int_Twos.ok jR)),(JI jH.ok jM),jC,jL⟩ (m:=4) (by kernel_rfl) ⟨⟨⟨⟨trivial,jr.p0⟩,jr.p1⟩,jr.p2⟩,jr.p3⟩ (by kernel_rfl) (fun _=>by kernel_rfl)
abbrev sd52:SD:=.one (.aptr 3 0)
def js.ct_ (a_1:List ((List (Bool×(List Int)))×(Int)))(b_1:List ((List (Bool×(List Int)))×(Int)))(Z:(List ((List (Bool×(List Int)))×(Int)))×(List ((List (Bool×(List Int)))×(Int)))→Option ρ):Option ρ:=
  bnd (inR (a_1.length) (0:Int)) fun y=>
  bnd (idx a_1 (0:Int)) fun y1=>
  bnd (inR (b_1.length) (0:Int)) fun y2=>
  bnd (idx b_1 (0:Int)) fun y3=>
  br (decide (y1.2<y3.2))
   (bnd (inR (a_1.length) (0:Int)) fun y4=>
    bnd (inR (a_1.length) (0:Int)) fun y5=>
    bnd (idx a_1 (0:Int)) fun y6=>
    bnd (inR (b_1.length) (0:Int)) fun y7=>
    bnd (idx b_1 (0:Int)) fun y8=>
    bnd (jn (i64.wrap (y6.2-y8.2)) a_1) fun y9=>
    bnd (inR (b_1.length) (0:Int)) fun y10=>
    bnd (idx b_1 (0:Int)) fun y11=>
    bnd (inR (List.length y9.1) (0:Int)) fun y12=>
    bnd (idx y9.1 (0:Int)) fun y13=>
    Z ((List.set y9.1 (0:Nat) (y13.1,y11.2)),b_1))
   (bnd (inR (b_1.length) (0:Int)) fun y14=>
    bnd (idx b_1 (0:Int)) fun y15=>
    bnd (inR (a_1.length) (0:Int)) fun y16=>
    bnd (idx a_1 (0:Int)) fun y17=>
    br (decide (y15.2<y17.2))
     (bnd (inR (b_1.length) (0:Int)) fun y18=>
      bnd (inR (b_1.length) (0:Int)) fun y19=>
      bnd (idx b_1 (0:Int)) fun y20=>
      bnd (inR (a_1.length) (0:Int)) fun y21=>
      bnd (idx a_1 (0:Int)) fun y22=>
      bnd (jn (i64.wrap (y20.2-y22.2)) b_1) fun y23=>
      Z (a_1,y23.1))
     (Z (a_1,b_1)))
def js.ct_s:Shape:=⟨[(0,sd18),(1,sd18),(2,sd51),(3,sd52),(4,sd20)],[(2,sd23),(3,sd23),(4,sd23)]⟩
def js.ct_r:Ck:=Ck.of (T:=(List ((List (Bool×(List Int)))×(Int)))×(List ((List (Bool×(List Int)))×(Int)))) js.ct_s (fun ρ X Z=>js.ct_ X.2.2.1 X.2.2.2.1 Z) (fun ρ X V Z=>Z 0 (Shape.inj js.ct_s (X.1,X.2.1,V.1,V.2,(q4 X))))
def js.c9 (i:Int)(a_1:List ((List (Bool×(List Int)))×(Int)))(b_1:List ((List (Bool×(List Int)))×(Int)))(Z:List ((List (Bool×(List Int)))×(Int))→Option ρ):Option ρ:=
  bnd (inR (a_1.length) (0:Int)) fun y=>
  bnd (okIf (decide ((0:Ty.den (Ty.int IntKind.i64))≤i)&&decide (i<(↑(8:Nat):Int)))) fun y1=>
  bnd (idx a_1 (0:Int)) fun y2=>
  bnd (idx y2.1 i) fun y3=>
  bnd (inR (b_1.length) (0:Int)) fun y4=>
  bnd (okIf (decide ((0:Ty.den (Ty.int IntKind.i64))≤i)&&decide (i<(↑(8:Nat):Int)))) fun y5=>
  bnd (idx b_1 (0:Int)) fun y6=>
  bnd (idx y6.1 i) fun y7=>
  bnd (whole_Int_Add y3 y7) fun y8=>
  bnd (inR (a_1.length) (0:Int)) fun y9=>
  bnd (okIf (decide ((0:Ty.den (Ty.int IntKind.i64))≤i)&&decide (i<(↑(8:Nat):Int)))) fun y10=>
  bnd (idx a_1 (0:Int)) fun y11=>
  bnd (idx y11.1 i) fun y12=>
  Z (List.set a_1 (0:Nat) (List.set y11.1 (Int.toNat i) y8,y11.2))
def js.c9s:Shape:=⟨[(0,sd18),(1,sd18),(2,sd51),(3,sd52),(4,sd20),(5,sd0),(35,sd0)],[(2,sd23),(3,sd23),(4,sd23)]⟩
def js.c9r:Ck:=Ck.of (T:=List ((List (Bool×(List Int)))×(Int))) js.c9s (fun ρ X Z=>js.c9 X.2.2.1 (q4 X).1 (q4 X).2.1 Z) (fun ρ X V Z=>Z 0 (Shape.inj js.c9s (X.1,X.2.1,X.2.2.1,X.2.2.2.1,V,(q4 X).2)))
def js.cl_ (t35:Int)(a_1:List ((List (Bool×(List Int)))×(Int)))(b_1:List ((List (Bool×(List Int)))×(Int)))(Z:((Int)×(List ((List (Bool×(List Int)))×(Int))))⊕((Int)×(List ((List (Bool×(List Int)))×(Int))))→Option ρ):Option ρ:=
  br (decide (t35<8))
   (bnd (js.c9 t35 a_1 b_1 some) fun y=>
    Z (.inl ((i64.wrap (t35+1)),y)))
   (Z (.inr (t35,a_1)))
def js.cl_s:Shape:=⟨[(0,sd18),(1,sd18),(2,sd51),(3,sd52),(4,sd20),(35,sd0)],[(2,sd23),(3,sd23),(4,sd23)]⟩
def js.cl_r:Ck:=Ck.ofLoop (S:=(Int)×(List ((List (Bool×(List Int)))×(Int)))) (T:=(Int)×(List ((List (Bool×(List Int)))×(Int)))) js.cl_s (fun X=>(X.2.2.1,X.2.2.2.1)) (fun ρ X Q Z=>js.cl_ Q.1 Q.2 (q4 X).1 Z) (fun ρ X V Z=>Z 3 (Shape.inj js.cl_s (X.1,X.2.1,V.1,V.2,(q4 X))))
def js (a:(List (Bool×(List Int)))×(Int)) (b:(List (Bool×(List Int)))×(Int)):Option ((List (Bool×(List Int)))×(Int)):=
  bnd (js.ct_ [a] [b] some) fun y=>
  bnd (iter (fun s↦js.cl_ s.1 s.2 y.2 some) ((0:Int),y.1)) fun y1=>
  bnd (inR (List.length y1.2) (0:Int)) fun y2=>
  bnd (idx y1.2 (0:Int)) fun y3=>
  bnd (inR (List.length y1.2) (0:Int)) fun y4=>
  bnd (idx y1.2 (0:Int)) fun y5=>
  bnd (jr y3.1 y5.2) fun y6=>
  some y6
def js.ce:Go.Ql.Callee:=⟨[(.st (.pair (.ar 8 (.st (.pair .bool (.sl (.int .u32))))) (.int .i64))),(.st (.pair (.ar 8 (.st (.pair .bool (.sl (.int .u32))))) (.int .i64)))],[(.st (.pair (.ar 8 (.st (.pair .bool (.sl (.int .u32))))) (.int .i64)))],fun X=>js X.1 X.2⟩
def js.G:Env:=⟨56,tab,[(61,whole_Int_Add.ce),(62,jr.ce)],[0,1,2,3,4,5,6,22,35,36],[2,3,4],[(9,[⟨[],[],[39,40,41,42,43,44,45,46,47,48],[]⟩,⟨[],[],[38,40,43,44,45,46,48],[]⟩,⟨[],[],[38,39,43,44,45,46,48],[]⟩,⟨[2,1],[],[38,43,44,45,46,48],[]⟩,⟨[3,2,1],[],[38,43,44,45,46,48],[]⟩,⟨[],[],[38,39,40,41,42,44,48],[]⟩,⟨[],[],[38,39,40,41,42,43,48],[]⟩,⟨[6,5],[],[38,39,40,41,42,48],[]⟩,⟨[7,6,5],[],[38,39,40,41,42,48],[]⟩,⟨[4,3,2,1,8,7,6,5],[],[38,48],[]⟩,⟨[],[],[38,39,40,41,42,43,44,45,46,47],[]⟩,⟨[10,0,1,2,3,4,5,6,7,8,9],[],[],[]⟩,⟨[11,10,0,1,2,3,4,5,6,7,8,9],[2],[],[]⟩])],[(100007,js.cl_r),(9,js.c9r),(204108,js.ct_r)],[(60,jn.mc)],jP,[]⟩
theorem js.p0:PcA js.G Tryd.f45 0:=
  kj (s:=js.ct_r) (by kernel_rfl) (by kernel_rfl) (jG (sh:=js.ct_s) (fun ρ X Z=>(jc fun _=>(jc fun _=>(jc fun _=>(jc fun _=>(jv (jc fun _=>(jc fun _=>(jc fun _=>(jc fun _=>(jc fun _=>(jc fun _=>(jc fun _=>(jc fun _=>(jc fun _=>(jc fun _=>jd)))))))))) (jc fun _=>(jc fun _=>(jc fun _=>(jc fun _=>(jv (jc fun _=>(jc fun _=>(jc fun _=>(jc fun _=>(jc fun _=>(jc fun _=>jd)))))) jd))))))))))) (fun ρ X t k=>(by kernel_rfl)) (fun X=>by kernel_rfl))
theorem js.p1:PcA js.G Tryd.f45 1:=
  Jt (s:=js.cl_r) (by kernel_rfl) (by kernel_rfl) (Je (sh:=js.cl_s) (I:=fun X Q=>(X.1,X.2.1,Q.1,Q.2,(q4 X))) (fun X=>rfl) (fun ρ X Q Z=>(jv (jc fun _=>jd) jd)) (fun ρ X t k=>(by kernel_rfl)) (fun X s=>by kernel_rfl))
theorem js.p2:PcA js.G Tryd.f45 2:=
  jE (s:=js.c9r) (by kernel_rfl) (by kernel_rfl) (jG (sh:=js.c9s) (fun ρ X Z=>(jc fun _=>(jc fun _=>(jc fun _=>(jc fun _=>(jc fun _=>(jc fun _=>(jc fun _=>(jc fun _=>(jc fun _=>(jc fun _=>(jc fun _=>(jc fun _=>(jc fun _=>jd)))))))))))))) (fun ρ X t k=>(by kernel_rfl)) (fun X=>by kernel_rfl))
theorem js.ok:CalleeOk Tryd.prog 45 js.ce:=fn_ok (G:=js.G) jV mixed Tryd.func45 ⟨(jI whole_Int_Add.ok (jI jr.ok jR)),(JI jn.ok jM),jC,jL⟩ (m:=3) (by kernel_rfl) ⟨⟨⟨trivial,js.p0⟩,js.p1⟩,js.p2⟩ (by kernel_rfl) (fun _=>by kernel_rfl)
def JD (a:(List (Bool×(List Int)))×(Int)):Option ((List (Bool×(List Int)))×(Int)):=
  bnd (jq a (8:Int)) fun y=>
  some y
def JD.ce:Go.Ql.Callee:=⟨[(.st (.pair (.ar 8 (.st (.pair .bool (.sl (.int .u32))))) (.int .i64)))],[(.st (.pair (.ar 8 (.st (.pair .bool (.sl (.int .u32))))) (.int .i64)))],fun X=>JD X⟩
def JD.G:Env:=⟨5,tab,[(66,jq.ce)],[0,1,2],[2,8000001],[],[],[],jP,[]⟩
theorem JD.ok:CalleeOk Tryd.prog 84 JD.ce:=fn_ok (G:=JD.G) jV mixed Tryd.func84 ⟨(jI jq.ok jR),jM,jC,jL⟩ (m:=0) (by kernel_rfl) trivial (by kernel_rfl) (fun _=>by kernel_rfl)
def jW.c1 (a_1:(List (Bool×(List Int)))×(Int))(b_1:(List (Bool×(List Int)))×(Int))(t4:List ((List (Bool×(List Int)))×(Int)))(Z:List ((List (Bool×(List Int)))×(Int))→Option ρ):Option ρ:=
  bnd (JD b_1) fun y=>
  bnd (js a_1 y) fun y1=>
  bnd (idx t4 (0:Int)) fun y2=>
  Z (List.set t4 (0:Nat) y1)
def jW.c1s:Shape:=⟨[(0,sd18),(1,sd18),(2,sd19),(3,sd19),(4,sd20)],[(4,sd23)]⟩
def jW.c1r:Ck:=Ck.of (T:=List ((List (Bool×(List Int)))×(Int))) jW.c1s (fun ρ X Z=>jW.c1 X.2.2.1 X.2.2.2.1 (q4 X).1 Z) (fun ρ X V Z=>Z 0 (Shape.inj jW.c1s (X.1,X.2.1,X.2.2.1,X.2.2.2.1,V,())))
def jW (a:(List (Bool×(List Int)))×(Int)) (b:(List (Bool×(List Int)))×(Int)):Option ((List (Bool×(List Int)))×(Int)):=
  bnd (jW.c1 a b [(List.replicate (8:Nat) (false,[]),(0:Int))] some) fun y=>
  bnd (idx y (0:Int)) fun y1=>
  some y1
def jW.ce:Go.Ql.Callee:=⟨[(.st (.pair (.ar 8 (.st (.pair .bool (.sl (.int .u32))))) (.int .i64))),(.st (.pair (.ar 8 (.st (.pair .bool (.sl (.int .u32))))) (.int .i64)))],[(.st (.pair (.ar 8 (.st (.pair .bool (.sl (.int .u32))))) (.int .i64)))],fun X=>jW X.1 X.2⟩
def jW.G:Env:=⟨9,tab,[(84,JD.ce),(45,js.ce)],[0,1,2,3,4],[4,8000002,8000003],[(1,[⟨[],[],[6,7],[]⟩,⟨[],[],[5],[]⟩,⟨[1],[],[5],[]⟩,⟨[0,2,1],[],[],[]⟩,⟨[3,0,2,1],[4],[],[]⟩])],[(1,jW.c1r)],[],jP,[]⟩
theorem jW.p0:PcA jW.G Tryd.f69 0:=
  jE (s:=jW.c1r) (by kernel_rfl) (by kernel_rfl) (jG (sh:=jW.c1s) (fun ρ X Z=>(jc fun _=>(jc fun _=>(jc fun _=>jd)))) (fun ρ X t k=>(by kernel_rfl)) (fun X=>by kernel_rfl))
theorem jW.ok:CalleeOk Tryd.prog 69 jW.ce:=fn_ok (G:=jW.G) jV mixed Tryd.func69 ⟨(jI JD.ok (jI js.ok jR)),jM,jC,jL⟩ (m:=1) (by kernel_rfl) ⟨trivial,jW.p0⟩ (by kernel_rfl) (fun _=>by kernel_rfl)
def jX.c1 (a_1:(List (Bool×(List Int)))×(Int))(Z:List ((List (Bool×(List Int)))×(Int))→Option ρ):Option ρ:=
  bnd (jq a_1 (2:Int)) fun y=>
  bnd (jq a_1 (6:Int)) fun y1=>
  bnd (jW y y1) fun y2=>
  Z [y2]
def jX.c1s:Shape:=⟨[(0,sd18),(1,sd19),(2,sd51)],[(2,sd23)]⟩
def jX.c1x0:Shape:=⟨[(0,sd18),(1,sd19),(2,sd51),(3,sd52)],[(2,sd23),(3,sd23)]⟩
def jX.c1r:Ck:=Ck.of (T:=List ((List (Bool×(List Int)))×(Int))) jX.c1s (fun ρ X Z=>jX.c1 X.2.1 Z) (fun ρ X V Z=>Z 0 (Shape.inj jX.c1x0 (X.1,X.2.1,X.2.2.1,V,())))
def jX (a:(List (Bool×(List Int)))×(Int)):Option ((List (Bool×(List Int)))×(Int)):=
  bnd (jX.c1 a some) fun y=>
  bnd (inR (y.length) (0:Int)) fun y1=>
  bnd (idx y (0:Int)) fun y2=>
  bnd (inR (y.length) (0:Int)) fun y3=>
  bnd (idx y (0:Int)) fun y4=>
  bnd (jr y2.1 (i64.wrap (y4.2+1))) fun y5=>
  some y5
def jX.ce:Go.Ql.Callee:=⟨[(.st (.pair (.ar 8 (.st (.pair .bool (.sl (.int .u32))))) (.int .i64)))],[(.st (.pair (.ar 8 (.st (.pair .bool (.sl (.int .u32))))) (.int .i64)))],fun X=>jX X⟩
def jX.G:Env:=⟨15,tab,[(66,jq.ce),(69,jW.ce),(62,jr.ce)],[0,1,2,3],[2,3,8000001],[(1,[⟨[],[],[6,3],[3]⟩,⟨[0],[],[6,3],[3]⟩,⟨[],[],[4,5,3],[3]⟩,⟨[2,1,0],[],[3],[3]⟩,⟨[1,0,3,2],[],[3],[3]⟩,⟨[],[3],[4,5,6,7,8],[]⟩,⟨[5,4,1,0,3,2],[3],[],[]⟩])],[(1,jX.c1r)],[],jP,[]⟩
theorem jX.p0:PcA jX.G Tryd.f68 0:=
  jE (s:=jX.c1r) (by kernel_rfl) (by kernel_rfl) (jG (sh:=jX.c1s) (fun ρ X Z=>(jc fun _=>(jc fun _=>(jc fun _=>jd)))) (fun ρ X t k=>(by kernel_rfl)) (fun X=>by kernel_rfl))
theorem jX.ok:CalleeOk Tryd.prog 68 jX.ce:=fn_ok (G:=jX.G) jV mixed Tryd.func68 ⟨(jI jq.ok (jI jW.ok (jI jr.ok jR))),jM,jC,jL⟩ (m:=1) (by kernel_rfl) ⟨trivial,jX.p0⟩ (by kernel_rfl) (fun _=>by kernel_rfl)
abbrev sd53:SO:=.box [.win 2000000 0]
abbrev sd54:SO:=.box [.val (.int .i64)]
abbrev sd55:SD:=.one (.clo 44)
abbrev sd56:SD:=.one (.clo 62)
abbrev sd57:SD:=.one (.clo 88)
abbrev sd58:SD:=.one (.aptr 10 0)
abbrev sd59:SD:=.one (.aptr 11 0)
def ja.pre:Shape:=⟨[(0,sd37),(1,sd2)],[(2000000,sd23)]⟩
def ja.post:Shape:=⟨[],[(2000000,sd23)]⟩
def ja.c1 (o2:List (Int))(o3:Int)(Z:Int→Option ρ):Option ρ:=
  bnd (Jg o2) fun y=>
  bnd (okIf (decide ((0:Int)≤o3))) fun y1=>
  Z y
def ja.c1s:Shape:=⟨[(0,sd37),(1,sd2),(2,sd5),(3,sd36)],[(2,sd53),(3,sd6),(2000000,sd23)]⟩
def ja.c1x0:Shape:=⟨[(0,sd37),(1,sd2),(2,sd5),(3,sd36),(4,sd0),(5,sd30)],[(2,sd53),(3,sd6),(5,sd54),(2000000,sd23)]⟩
def ja.c1r:Ck:=Ck.of (T:=Int) ja.c1s (fun ρ X Z=>ja.c1 (q4 X).2.2.2.1 (q8 X).1 Z) (fun ρ X V Z=>Z 0 (Shape.inj ja.c1x0 (X.1,X.2.1,X.2.2.1,V,X.2.2.2.1,(q4 X).1,(q4 X).2.1,(q4 X).2.2.1,(q4 X).2.2.2.1,(q8 X).1,(q8 X).2.1,(q8 X).2.2.1,(i64.wrap ((1:Int)*2^Min.min (Int.toNat (q8 X).1) (64:Nat))),(q8 X).2.2.2)))
def ja.c7 (x:Int)(v0lo:Int)(v0n:Int)(o1:Int)(uj:List ((List (Bool×(List Int)))×(Int)))(Z:List ((List (Bool×(List Int)))×(Int))→Option ρ):Option ρ:=
  bnd (okIf (decide ((0:Ty.den (Ty.int IntKind.i64))≤x)&&decide (x<v0n))) fun y=>
  bnd (idx uj (v0lo+x)) fun y1=>
  bnd (jq y1 o1) fun y2=>
  bnd (okIf (decide ((0:Ty.den (Ty.int IntKind.i64))≤x)&&decide (x<v0n))) fun y3=>
  bnd (idx uj (v0lo+x)) fun y4=>
  Z (List.set uj (Int.toNat (v0lo+x)) y2)
def ja.c7s:Shape:=⟨[(0,sd37),(1,sd2),(2,sd5),(3,sd36),(4,sd0),(5,sd30),(6,sd0),(19,sd0),(23,sd0),(24,sd0)],[(2,sd53),(3,sd6),(5,sd54),(2000000,sd23)]⟩
def ja.c7r:Ck:=Ck.of (T:=List ((List (Bool×(List Int)))×(Int))) ja.c7s (fun ρ X Z=>ja.c7 (q4 X).1 (q8 X).1 (q8 X).2.1 (q8 X).2.2.2.1 (q8 (q8 X)).2.1 Z) (fun ρ X V Z=>Z 0 (Shape.inj ja.c7s (X.1,X.2.1,X.2.2.1,X.2.2.2.1,(q4 X).1,(q4 X).2.1,(q4 X).2.2.1,(q4 X).2.2.2.1,(q8 X).1,(q8 X).2.1,(q8 X).2.2.1,(q8 X).2.2.2.1,(q4 (q8 X)).1,(q4 (q8 X)).2.1,(q4 (q8 X)).2.2.1,(q4 (q8 X)).2.2.2.1,(q8 (q8 X)).1,V,())))
def ja.ce_ (t23:Int)(t24:Int)(v0lo:Int)(v0n:Int)(o1:Int)(uj:List ((List (Bool×(List Int)))×(Int)))(Z:((Int)×(List ((List (Bool×(List Int)))×(Int))))⊕((Int)×(List ((List (Bool×(List Int)))×(Int))))→Option ρ):Option ρ:=
  br (decide (t24<t23))
   (bnd (ja.c7 t24 v0lo v0n o1 uj some) fun y=>
    Z (.inl ((i64.wrap (t24+1)),y)))
   (Z (.inr (t24,uj)))
def ja.ce_s:Shape:=⟨[(0,sd37),(1,sd2),(2,sd5),(3,sd36),(4,sd0),(5,sd30),(19,sd0),(23,sd0),(24,sd0)],[(2,sd53),(3,sd6),(5,sd54),(2000000,sd23)]⟩
def ja.ce_r:Ck:=Ck.ofLoop (S:=(Int)×(List ((List (Bool×(List Int)))×(Int)))) (T:=(Int)×(List ((List (Bool×(List Int)))×(Int)))) ja.ce_s (fun X=>((q4 X).2.2.1,(q8 (q8 X)).1)) (fun ρ X Q Z=>ja.ce_ (q4 X).2.1 Q.1 (q4 X).2.2.2.1 (q8 X).1 (q8 X).2.2.1 Q.2 Z) (fun ρ X V Z=>Z 3 (Shape.inj ja.ce_s (X.1,X.2.1,X.2.2.1,X.2.2.2.1,(q4 X).1,(q4 X).2.1,V.1,(q4 X).2.2.2.1,(q8 X).1,(q8 X).2.1,(q8 X).2.2.1,(q8 X).2.2.2.1,(q4 (q8 X)).1,(q4 (q8 X)).2.1,(q4 (q8 X)).2.2.1,(q4 (q8 X)).2.2.2.1,V.2,())))
def ja.c12 (x:Int)(v0lo:Int)(v0n:Int)(o1:Int)(uj:List ((List (Bool×(List Int)))×(Int)))(Z:List ((List (Bool×(List Int)))×(Int))→Option ρ):Option ρ:=
  bnd (okIf (decide ((0:Ty.den (Ty.int IntKind.i64))≤x)&&decide (x<v0n))) fun y=>
  bnd (idx uj (v0lo+x)) fun y1=>
  bnd (jq y1 o1) fun y2=>
  bnd (okIf (decide ((0:Ty.den (Ty.int IntKind.i64))≤x)&&decide (x<v0n))) fun y3=>
  bnd (idx uj (v0lo+x)) fun y4=>
  Z (List.set uj (Int.toNat (v0lo+x)) y2)
def ja.c12s:Shape:=⟨[(0,sd37),(1,sd2),(2,sd5),(3,sd36),(4,sd0),(5,sd30),(7,sd0),(19,sd0),(44,sd55),(45,sd0)],[(2,sd53),(3,sd6),(5,sd54),(44,sd39),(2000000,sd23)]⟩
def ja.c12r:Ck:=Ck.of (T:=List ((List (Bool×(List Int)))×(Int))) ja.c12s (fun ρ X Z=>ja.c12 (q4 X).1 (q4 X).2.2.2.1 (q8 X).1 (q8 X).2.2.1 (q8 (q8 X)).2.2.1 Z) (fun ρ X V Z=>Z 0 (Shape.inj ja.c12s (X.1,X.2.1,X.2.2.1,X.2.2.2.1,(q4 X).1,(q4 X).2.1,(q4 X).2.2.1,(q4 X).2.2.2.1,(q8 X).1,(q8 X).2.1,(q8 X).2.2.1,(q8 X).2.2.2.1,(q4 (q8 X)).1,(q4 (q8 X)).2.1,(q4 (q8 X)).2.2.1,(q4 (q8 X)).2.2.2.1,(q8 (q8 X)).1,(q8 (q8 X)).2.1,V,())))
def ja.cE_ (ua:List (Int))(v0lo:Int)(v0n:Int)(o1:Int)(uj:List ((List (Bool×(List Int)))×(Int)))(Z:((List Int)×(List ((List (Bool×(List Int)))×(Int))))⊕(List ((List (Bool×(List Int)))×(Int)))→Option ρ):Option ρ:=
  br (List.isEmpty ua)
   (Z (.inr uj))
   (bnd (idx ua (0:Int)) fun y=>
    bnd (ja.c12 y v0lo v0n o1 uj some) fun y1=>
    Z (.inl ((List.drop (1:Nat) ua),y1)))
def ja.cE_s:Shape:=⟨[(0,sd37),(1,sd2),(2,sd5),(3,sd36),(4,sd0),(5,sd30),(19,sd0),(44,sd55),(10000000,sd8)],[(2,sd53),(3,sd6),(5,sd54),(44,sd39),(2000000,sd23)]⟩
def ja.cE_x0:Shape:=⟨[(0,sd37),(1,sd2),(2,sd5),(3,sd36),(4,sd0),(5,sd30),(19,sd0),(44,sd55)],[(2,sd53),(3,sd6),(5,sd54),(44,sd39),(2000000,sd23)]⟩
def ja.cE_r:Ck:=Ck.ofLoop (S:=(List Int)×(List ((List (Bool×(List Int)))×(Int)))) (T:=List ((List (Bool×(List Int)))×(Int))) ja.cE_s (fun X=>((q4 X).2.1,(q8 (q8 X)).2.1)) (fun ρ X Q Z=>ja.cE_ Q.1 (q4 X).2.2.1 (q4 X).2.2.2.1 (q8 X).2.1 Q.2 Z) (fun ρ X V Z=>Z 0 (Shape.inj ja.cE_x0 (X.1,X.2.1,X.2.2.1,X.2.2.2.1,(q4 X).1,(q4 X).2.2.1,(q4 X).2.2.2.1,(q8 X).1,(q8 X).2.1,(q8 X).2.2.1,(q8 X).2.2.2.1,(q4 (q8 X)).1,(q4 (q8 X)).2.1,(q4 (q8 X)).2.2.1,(q4 (q8 X)).2.2.2.1,(q8 (q8 X)).1,V,())))
def ja.c16 (x:Int)(v0lo:Int)(v0n:Int)(bit0:Int)(uj:List ((List (Bool×(List Int)))×(Int)))(Z:List ((List (Bool×(List Int)))×(Int))→Option ρ):Option ρ:=
  bnd (okIf (decide ((0:Ty.den (Ty.int IntKind.i64))≤ibits BinOp.xor IntKind.i64 x bit0)&&decide (ibits BinOp.xor IntKind.i64 x bit0<v0n))) fun y=>
  bnd (idx uj (v0lo+ibits BinOp.xor IntKind.i64 x bit0)) fun y1=>
  bnd (okIf (decide ((0:Ty.den (Ty.int IntKind.i64))≤x)&&decide (x<v0n))) fun y2=>
  bnd (idx uj (v0lo+x)) fun y3=>
  bnd (okIf (decide ((0:Ty.den (Ty.int IntKind.i64))≤x)&&decide (x<v0n))) fun y4=>
  bnd (idx uj (v0lo+x)) fun y5=>
  bnd (okIf (decide ((0:Ty.den (Ty.int IntKind.i64))≤ibits BinOp.xor IntKind.i64 x bit0)&&decide (ibits BinOp.xor IntKind.i64 x bit0<v0n))) fun y6=>
  bnd (idx (List.set uj (Int.toNat (v0lo+x)) y1) (v0lo+ibits BinOp.xor IntKind.i64 x bit0)) fun y7=>
  Z (List.set (List.set uj (Int.toNat (v0lo+x)) y1) (Int.toNat (v0lo+ibits BinOp.xor IntKind.i64 x bit0)) y3)
def ja.c16s:Shape:=⟨[(0,sd37),(1,sd2),(2,sd5),(3,sd36),(4,sd0),(5,sd30),(8,sd0),(19,sd0),(62,sd56),(63,sd0)],[(2,sd53),(3,sd6),(5,sd54),(62,sd39),(2000000,sd23)]⟩
def ja.c16r:Ck:=Ck.of (T:=List ((List (Bool×(List Int)))×(Int))) ja.c16s (fun ρ X Z=>ja.c16 (q4 X).1 (q4 X).2.2.2.1 (q8 X).1 (q4 (q8 X)).2.2.2.1 (q8 (q8 X)).2.2.1 Z) (fun ρ X V Z=>Z 0 (Shape.inj ja.c16s (X.1,X.2.1,X.2.2.1,X.2.2.2.1,(q4 X).1,(q4 X).2.1,(q4 X).2.2.1,(q4 X).2.2.2.1,(q8 X).1,(q8 X).2.1,(q8 X).2.2.1,(q8 X).2.2.2.1,(q4 (q8 X)).1,(q4 (q8 X)).2.1,(q4 (q8 X)).2.2.1,(q4 (q8 X)).2.2.2.1,(q8 (q8 X)).1,(q8 (q8 X)).2.1,V,())))
def ja.cF_ (ua:List (Int))(v0lo:Int)(v0n:Int)(bit0:Int)(uj:List ((List (Bool×(List Int)))×(Int)))(Z:((List Int)×(List ((List (Bool×(List Int)))×(Int))))⊕(List ((List (Bool×(List Int)))×(Int)))→Option ρ):Option ρ:=
  br (List.isEmpty ua)
   (Z (.inr uj))
   (bnd (idx ua (0:Int)) fun y=>
    bnd (ja.c16 y v0lo v0n bit0 uj some) fun y1=>
    Z (.inl ((List.drop (1:Nat) ua),y1)))
def ja.cF_s:Shape:=⟨[(0,sd37),(1,sd2),(2,sd5),(3,sd36),(4,sd0),(5,sd30),(19,sd0),(62,sd56),(10000000,sd8)],[(2,sd53),(3,sd6),(5,sd54),(62,sd39),(2000000,sd23)]⟩
def ja.cF_x0:Shape:=⟨[(0,sd37),(1,sd2),(2,sd5),(3,sd36),(4,sd0),(5,sd30),(19,sd0),(62,sd56)],[(2,sd53),(3,sd6),(5,sd54),(62,sd39),(2000000,sd23)]⟩
def ja.cF_r:Ck:=Ck.ofLoop (S:=(List Int)×(List ((List (Bool×(List Int)))×(Int)))) (T:=List ((List (Bool×(List Int)))×(Int))) ja.cF_s (fun X=>((q4 X).2.1,(q8 (q8 X)).2.1)) (fun ρ X Q Z=>ja.cF_ Q.1 (q4 X).2.2.1 (q4 X).2.2.2.1 (q4 (q8 X)).2.2.1 Q.2 Z) (fun ρ X V Z=>Z 0 (Shape.inj ja.cF_x0 (X.1,X.2.1,X.2.2.1,X.2.2.2.1,(q4 X).1,(q4 X).2.2.1,(q4 X).2.2.2.1,(q8 X).1,(q8 X).2.1,(q8 X).2.2.1,(q8 X).2.2.2.1,(q4 (q8 X)).1,(q4 (q8 X)).2.1,(q4 (q8 X)).2.2.1,(q4 (q8 X)).2.2.2.1,(q8 (q8 X)).1,V,())))
def ja.c20 (x:Int)(v0lo:Int)(v0n:Int)(bit0:Int)(uj:List ((List (Bool×(List Int)))×(Int)))(Z:(List ((List (Bool×(List Int)))×(Int)))×(List ((List (Bool×(List Int)))×(Int)))→Option ρ):Option ρ:=
  bnd (okIf (decide ((0:Ty.den (Ty.int IntKind.i64))≤ibits BinOp.xor IntKind.i64 x bit0)&&decide (ibits BinOp.xor IntKind.i64 x bit0<v0n))) fun y=>
  bnd (idx uj (v0lo+ibits BinOp.xor IntKind.i64 x bit0)) fun y1=>
  bnd (okIf (decide ((0:Ty.den (Ty.int IntKind.i64))≤x)&&decide (x<v0n))) fun y2=>
  bnd (idx uj (v0lo+x)) fun y3=>
  Z ([y1],[y3])
def ja.c20s:Shape:=⟨[(0,sd37),(1,sd2),(2,sd5),(3,sd36),(4,sd0),(5,sd30),(9,sd0),(19,sd0),(88,sd57),(89,sd0)],[(2,sd53),(3,sd6),(5,sd54),(88,sd39),(2000000,sd23)]⟩
def ja.c20x0:Shape:=⟨[(0,sd37),(1,sd2),(2,sd5),(3,sd36),(4,sd0),(5,sd30),(9,sd0),(10,sd58),(11,sd59),(19,sd0),(88,sd57),(89,sd0)],[(2,sd53),(3,sd6),(5,sd54),(10,sd23),(11,sd23),(88,sd39),(2000000,sd23)]⟩
def ja.c20r:Ck:=Ck.of (T:=(List ((List (Bool×(List Int)))×(Int)))×(List ((List (Bool×(List Int)))×(Int)))) ja.c20s (fun ρ X Z=>ja.c20 (q4 X).1 (q4 X).2.2.2.1 (q8 X).1 (q4 (q8 X)).2.2.2.1 (q8 (q8 X)).2.2.1 Z) (fun ρ X V Z=>Z 0 (Shape.inj ja.c20x0 (X.1,X.2.1,X.2.2.1,X.2.2.2.1,(q4 X).1,(q4 X).2.1,(q4 X).2.2.1,(q4 X).2.2.2.1,(q8 X).1,(q8 X).2.1,(q8 X).2.2.1,(q8 X).2.2.2.1,(q4 (q8 X)).1,(q4 (q8 X)).2.1,(q4 (q8 X)).2.2.1,(q4 (q8 X)).2.2.2.1,V.1,V.2,(q8 (q8 X)))))
def ja.c21 (a:List ((List (Bool×(List Int)))×(Int)))(b:List ((List (Bool×(List Int)))×(Int)))(Z:Bool→Option ρ):Option ρ:=
  bnd (idx a (0:Int)) fun y=>
  bnd (jQ y) fun y1=>
  br y1
   (bnd (idx b (0:Int)) fun y2=>
    bnd (jQ y2) fun y3=>
    Z y3)
   (Z false)
def ja.c21x0:Shape:=⟨[(0,sd37),(1,sd2),(2,sd5),(3,sd36),(4,sd0),(5,sd30),(9,sd0),(10,sd58),(11,sd59),(19,sd0),(88,sd57),(89,sd0),(105,sd1)],[(2,sd53),(3,sd6),(5,sd54),(10,sd23),(11,sd23),(88,sd39),(2000000,sd23)]⟩
def ja.c21r:Ck:=Ck.of (T:=Bool) ja.c20x0 (fun ρ X Z=>ja.c21 (q8 (q8 X)).1 (q8 (q8 X)).2.1 Z) (fun ρ X V Z=>Z 0 (Shape.inj ja.c21x0 (X.1,X.2.1,X.2.2.1,X.2.2.2.1,(q4 X).1,(q4 X).2.1,(q4 X).2.2.1,V,(q4 X).2.2.2)))
def ja.c22 (x:Int)(v0lo:Int)(v0n:Int)(bit0:Int)(a:List ((List (Bool×(List Int)))×(Int)))(b:List ((List (Bool×(List Int)))×(Int)))(uj:List ((List (Bool×(List Int)))×(Int)))(Z:List ((List (Bool×(List Int)))×(Int))→Option ρ):Option ρ:=
  bnd (idx a (0:Int)) fun y=>
  bnd (idx b (0:Int)) fun y1=>
  bnd (js y y1) fun y2=>
  bnd (jX y2) fun y3=>
  bnd (idx a (0:Int)) fun y4=>
  bnd (idx b (0:Int)) fun y5=>
  bnd (jW y4 y5) fun y6=>
  bnd (jX y6) fun y7=>
  bnd (okIf (decide ((0:Ty.den (Ty.int IntKind.i64))≤ibits BinOp.xor IntKind.i64 x bit0)&&decide (ibits BinOp.xor IntKind.i64 x bit0<v0n))) fun y8=>
  bnd (idx uj (v0lo+ibits BinOp.xor IntKind.i64 x bit0)) fun y9=>
  bnd (okIf (decide ((0:Ty.den (Ty.int IntKind.i64))≤x)&&decide (x<v0n))) fun y10=>
  bnd (idx (List.set uj (Int.toNat (v0lo+ibits BinOp.xor IntKind.i64 x bit0)) y3) (v0lo+x)) fun y11=>
  Z (List.set (List.set uj (Int.toNat (v0lo+ibits BinOp.xor IntKind.i64 x bit0)) y3) (Int.toNat (v0lo+x)) y7)
def ja.c22r:Ck:=Ck.of (T:=List ((List (Bool×(List Int)))×(Int))) ja.c20x0 (fun ρ X Z=>ja.c22 (q4 X).1 (q4 X).2.2.2.1 (q8 X).1 (q4 (q8 X)).2.2.2.1 (q8 (q8 X)).1 (q8 (q8 X)).2.1 (q4 (q8 (q8 X))).1 Z) (fun ρ X V Z=>Z 0 (Shape.inj ja.c20x0 (X.1,X.2.1,X.2.2.1,X.2.2.2.1,(q4 X).1,(q4 X).2.1,(q4 X).2.2.1,(q4 X).2.2.2.1,(q8 X).1,(q8 X).2.1,(q8 X).2.2.1,(q8 X).2.2.2.1,(q4 (q8 X)).1,(q4 (q8 X)).2.1,(q4 (q8 X)).2.2.1,(q4 (q8 X)).2.2.2.1,(q8 (q8 X)).1,(q8 (q8 X)).2.1,(q8 (q8 X)).2.2.1,(q8 (q8 X)).2.2.2.1,V,())))
def ja.cy_ (ua:List (Int))(v0lo:Int)(v0n:Int)(bit0:Int)(uj:List ((List (Bool×(List Int)))×(Int)))(Z:((List Int)×(List ((List (Bool×(List Int)))×(Int))))⊕(List ((List (Bool×(List Int)))×(Int)))→Option ρ):Option ρ:=
  br (List.isEmpty ua)
   (Z (.inr uj))
   (bnd (idx ua (0:Int)) fun y=>
    bnd (ja.c20 y v0lo v0n bit0 uj some) fun y1=>
    bnd (ja.c21 y1.1 y1.2 some) fun y2=>
    br y2
     (Z (.inl ((List.drop (1:Nat) ua),uj)))
     (bnd (ja.c22 y v0lo v0n bit0 y1.1 y1.2 uj some) fun y3=>
      Z (.inl ((List.drop (1:Nat) ua),y3))))
def ja.cy_s:Shape:=⟨[(0,sd37),(1,sd2),(2,sd5),(3,sd36),(4,sd0),(5,sd30),(19,sd0),(88,sd57),(10000000,sd8)],[(2,sd53),(3,sd6),(5,sd54),(88,sd39),(2000000,sd23)]⟩
def ja.cy_x0:Shape:=⟨[(0,sd37),(1,sd2),(2,sd5),(3,sd36),(4,sd0),(5,sd30),(19,sd0),(88,sd57)],[(2,sd53),(3,sd6),(5,sd54),(88,sd39),(2000000,sd23)]⟩
def ja.cy_r:Ck:=Ck.ofLoop (S:=(List Int)×(List ((List (Bool×(List Int)))×(Int)))) (T:=List ((List (Bool×(List Int)))×(Int))) ja.cy_s (fun X=>((q4 X).2.1,(q8 (q8 X)).2.1)) (fun ρ X Q Z=>ja.cy_ Q.1 (q4 X).2.2.1 (q4 X).2.2.2.1 (q4 (q8 X)).2.2.1 Q.2 Z) (fun ρ X V Z=>Z 0 (Shape.inj ja.cy_x0 (X.1,X.2.1,X.2.2.1,X.2.2.2.1,(q4 X).1,(q4 X).2.2.1,(q4 X).2.2.2.1,(q8 X).1,(q8 X).2.1,(q8 X).2.2.1,(q8 X).2.2.2.1,(q4 (q8 X)).1,(q4 (q8 X)).2.1,(q4 (q8 X)).2.2.1,(q4 (q8 X)).2.2.2.1,(q8 (q8 X)).1,V,())))
def ja (vlo:Int) (vn:Int) (o:(Int)×((Int)×((List Int)×((Int)×((Int)×(List Int)))))) (uj:List ((List (Bool×(List Int)))×(Int))):Option ((List ((List (Bool×(List Int)))×(Int)))×Unit):=
  bnd (ja.c1 o.2.2.1 o.2.2.2.1 some) fun y=>
  br (o.1==1)
   (bnd (iter (fun s↦ja.ce_ (↑(List.length (part vlo vn uj)):Int) s.1 vlo vn o.2.1 s.2 some) ((0:Int),uj)) fun y1=>
    some (y1.2,()))
   (br (o.1==4)
     (bnd (jY vlo vn (ibits BinOp.or IntKind.i64 y (i64.wrap ((1:Int)*2^Min.min (Int.toNat o.2.2.2.1) (64:Nat)))) uj) fun y2=>
      bnd (iter (fun s↦ja.cE_ s.1 vlo vn o.2.1 s.2 some) (SeqC.L ones_sc (y2.1,y2.2.1),y2.2.2.1)) fun y3=>
      some (y3,()))
     (br (o.1==2)
       (bnd (jY vlo vn (ibits BinOp.or IntKind.i64 y (i64.wrap ((1:Int)*2^Min.min (Int.toNat o.2.2.2.1) (64:Nat)))) uj) fun y4=>
        bnd (iter (fun s↦ja.cF_ s.1 vlo vn (i64.wrap ((1:Int)*2^Min.min (Int.toNat o.2.2.2.1) (64:Nat))) s.2 some) (SeqC.L ones_sc (y4.1,y4.2.1),y4.2.2.1)) fun y5=>
        some (y5,()))
       (br (o.1==3)
         (bnd (jY vlo vn (ibits BinOp.or IntKind.i64 y (i64.wrap ((1:Int)*2^Min.min (Int.toNat o.2.2.2.1) (64:Nat)))) uj) fun y6=>
          bnd (iter (fun s↦ja.cy_ s.1 vlo vn (i64.wrap ((1:Int)*2^Min.min (Int.toNat o.2.2.2.1) (64:Nat))) s.2 some) (SeqC.L ones_sc (y6.1,y6.2.1),y6.2.2.1)) fun y7=>
          some (y7,()))
         (some (uj,())))))
def ja.mc:MCallee:=⟨51,ja.pre,ja.post,fun X=>ja X.1 X.2.1 X.2.2.1 X.2.2.2.1⟩
def ja.G:Env:=⟨122,tab,[(65,Jg.ce),(66,jq.ce),(43,jQ.ce),(45,js.ce),(68,jX.ce),(69,jW.ce)],[0,1,2,3,4,5,6,7,8,9,10,11,19,20,23,24,25,38,44,45,56,62,63,82,88,89,105],[2,10,11,1002,2000000],[(22,[⟨[],[],[107,108,109,110,111,112,113,114,115,116,117,118,119],[]⟩,⟨[],[],[106,108,110,111,112,113,114,115,116,117,118,119],[]⟩,⟨[],[],[106,107,110,111,112,113,114,115,116,117,118,119],[]⟩,⟨[1,2],[],[106,110,111,112,113,114,115,116,117,118,119],[]⟩,⟨[],[],[106,107,108,109,111,112,113,114,115,116,117,118,119,120],[2000000]⟩,⟨[],[],[106,107,108,109,110,112,113,114,115,116,117,118,119,120],[2000000]⟩,⟨[],[],[106,107,108,109,110,111,113,116,117],[]⟩,⟨[],[],[106,107,108,109,110,111,112,116,117],[]⟩,⟨[6,7],[],[106,107,108,109,110,111,116,117],[]⟩,⟨[8,6,7],[],[106,107,108,109,110,111,116,117],[]⟩,⟨[],[],[106,107,108,109,110,111,112,113,114,115,117],[]⟩,⟨[],[],[106,107,108,109,110,111,112,113,114,115,116],[]⟩,⟨[10,11,9,8,6,7],[],[106,107,108,109,110,111],[]⟩,⟨[12,10,11,9,8,6,7],[],[106,107,108,109,110,111],[]⟩,⟨[0,3,1,2,6,7,8,9,12,10,11,13],[],[110,111],[]⟩,⟨[14,0,3,1,2,6,7,8,9,12,10,11,13],[2000000],[110,111],[]⟩,⟨[4,5,0,1,2,3,6,7,8,9,10,11,12,13,14,15],[],[],[]⟩,⟨[16,4,5,0,1,2,3,6,7,8,9,10,11,12,13,14,15],[2000000],[],[]⟩]),
  (20,[⟨[],[],[91,92,93,96,97,98,99,10,11],[10,11]⟩,⟨[],[],[90,92,96,97,98,99,10,11],[10,11]⟩,⟨[],[],[90,91,96,97,98,99,10,11],[10,11]⟩,⟨[1,2],[],[90,96,97,98,99,10,11],[10,11]⟩,⟨[0,3,1,2],[],[96,97,98,99,10,11],[10,11]⟩,⟨[4,0,3,1,2],[],[96,97,98,99,10,11],[10,11]⟩,⟨[],[],[90,91,92,93,94,95,97,10,11],[10,11]⟩,⟨[],[],[90,91,92,93,94,95,96,10,11],[10,11]⟩,⟨[6,7],[],[90,91,92,93,94,95,10,11],[10,11]⟩,⟨[8,6,7],[],[90,91,92,93,94,95,10,11],[10,11]⟩,⟨[],[10],[90,91,92,93,94,95,96,97,98,99,11],[11]⟩,⟨[],[11],[90,91,92,93,94,95,96,97,98,99,10],[10]⟩,⟨[10,5,4,0,3,1,2,11],[10],[96,97,98,99],[]⟩,⟨[11,9,8,6,7,12,10,5,4,0,3,1,2],[11],[],[]⟩]),
  (16,[⟨[],[],[65,66,67,68,69,70,71,72,73,74,75,76,77,78,79],[]⟩,⟨[],[],[64,66,67,68,69,70,71,72,73,74,75,76,77,78,79],[]⟩,⟨[],[],[64,65,67,68,69,70,71,72,73,74,75,76,77,78,79,80],[2000000]⟩,⟨[],[],[64,65,66,68,70,71,72,73,74,75,76,77,78,79,80],[2000000]⟩,⟨[],[],[64,65,66,67,70,71,72,73,74,75,76,77,78,79,80],[2000000]⟩,⟨[3,4],[],[64,65,66,70,71,72,73,74,75,76,77,78,79,80],[2000000]⟩,⟨[],[],[64,65,66,67,68,69,71,72,73,76,77,78,79],[]⟩,⟨[],[],[64,65,66,67,68,69,70,72,76,77,78,79],[]⟩,⟨[],[],[64,65,66,67,68,69,70,71,76,77,78,79],[]⟩,⟨[7,8],[],[64,65,66,67,68,69,70,76,77,78,79],[]⟩,⟨[6,9,7,8],[],[64,65,66,67,68,69,76,77,78,79],[]⟩,⟨[10,6,9,7,8],[],[64,65,66,67,68,69,76,77,78,79],[]⟩,⟨[],[],[64,65,66,67,68,69,70,71,72,73,74,75,77],[]⟩,⟨[],[],[64,65,66,67,68,69,70,71,72,73,74,75,76],[]⟩,⟨[12,13],[],[64,65,66,67,68,69,70,71,72,73,74,75],[]⟩,⟨[14,12,13],[],[64,65,66,67,68,69,70,71,72,73,74,75],[]⟩,⟨[0,1,6,7,8,9,10,11,15,14,12,13],[],[66,67,68,69],[]⟩,⟨[16,0,1,6,7,8,9,10,11,15,14,12,13],[2000000],[66,67,68,69],[]⟩,⟨[2,5,3,4,0,1,6,7,8,9,10,11,12,13,14,15,16,17],[],[],[]⟩,⟨[18,2,5,3,4,0,1,6,7,8,9,10,11,12,13,14,15,16,17],[2000000],[],[]⟩]),
  (12,[⟨[],[],[47,48,49,50,51,52,53,54],[]⟩,⟨[],[],[46,48,49,50,51,52,53,54],[]⟩,⟨[],[],[46,47,49,52,53],[]⟩,⟨[],[],[46,47,48,52,53],[]⟩,⟨[2,3],[],[46,47,52,53],[]⟩,⟨[4,2,3],[],[46,47,52,53],[]⟩,⟨[],[],[46,47,48,49,50,51],[]⟩,⟨[6],[],[46,47,48,49,50,51],[]⟩,⟨[5,4,2,3,7,6],[],[46,47],[]⟩,⟨[0,1,2,3,4,5,6,7,8],[],[],[]⟩,⟨[9,0,1,2,3,4,5,6,7,8],[2000000],[],[]⟩]),
  (7,[⟨[],[],[28,29,30,31,32,33,34,35],[]⟩,⟨[],[],[27,29,30,31,32,33,34,35],[]⟩,⟨[],[],[27,28,30,33,34],[]⟩,⟨[],[],[27,28,29,33,34],[]⟩,⟨[2,3],[],[27,28,33,34],[]⟩,⟨[4,2,3],[],[27,28,33,34],[]⟩,⟨[],[],[27,28,29,30,31,32],[]⟩,⟨[6],[],[27,28,29,30,31,32],[]⟩,⟨[5,4,2,3,7,6],[],[27,28],[]⟩,⟨[0,1,2,3,4,5,6,7,8],[],[],[]⟩,⟨[9,0,1,2,3,4,5,6,7,8],[2000000],[],[]⟩]),
  (1,[⟨[],[],[15,16,17,5],[5]⟩,⟨[0],[],[15,16,17,5],[5]⟩,⟨[1,0],[],[15,16,17,5],[5]⟩,⟨[],[],[12,13,14,5,4],[5]⟩,⟨[3],[],[12,13,14,5,4],[5]⟩,⟨[4,3],[],[12,13,14,5,4],[5]⟩,⟨[],[5],[12,13,14,15,16,17],[]⟩,⟨[2,1,0,6],[],[15,16,17],[]⟩,⟨[6,5,4,3,7,2,1,0],[5],[],[]⟩])],[(300020,ja.cy_r),(22,ja.c22r),(21,ja.c21r),(20,ja.c20r),(300016,ja.cF_r),(16,ja.c16r),(300012,ja.cE_r),(12,ja.c12r),(100005,ja.ce_r),(7,ja.c7r),(1,ja.c1r)],[(67,jY.mc)],jP,[]⟩
theorem ja.p0:PcA ja.G Tryd.f51 0:=
  jE (s:=ja.c1r) (by kernel_rfl) (by kernel_rfl) (jG (sh:=ja.c1s) (fun ρ X Z=>(jc fun _=>(jc fun _=>jd))) (fun ρ X t k=>(by kernel_rfl)) (fun X=>by kernel_rfl))
theorem ja.p1:PcA ja.G Tryd.f51 1:=
  Jt (s:=ja.ce_r) (by kernel_rfl) (by kernel_rfl) (Je (sh:=ja.ce_s) (I:=fun X Q=>(X.1,X.2.1,X.2.2.1,X.2.2.2.1,(q4 X).1,(q4 X).2.1,Q.1,(q4 X).2.2.2.1,(q8 X).1,(q8 X).2.1,(q8 X).2.2.1,(q8 X).2.2.2.1,(q4 (q8 X)).1,(q4 (q8 X)).2.1,(q4 (q8 X)).2.2.1,(q4 (q8 X)).2.2.2.1,Q.2,())) (fun X=>rfl) (fun ρ X Q Z=>(jv (jc fun _=>jd) jd)) (fun ρ X t k=>(by kernel_rfl)) (fun X s=>by kernel_rfl))
theorem ja.p2:PcA ja.G Tryd.f51 2:=
  jE (s:=ja.c7r) (by kernel_rfl) (by kernel_rfl) (jG (sh:=ja.c7s) (fun ρ X Z=>(jc fun _=>(jc fun _=>(jc fun _=>(jc fun _=>(jc fun _=>jd)))))) (fun ρ X t k=>(by kernel_rfl)) (fun X=>by kernel_rfl))
theorem ja.p3:PcA ja.G Tryd.f51 3:=
  range_ok (s:=ja.cE_r) (by kernel_rfl) (by kernel_rfl) (Je (sh:=ja.cE_s) (I:=fun X Q=>(X.1,X.2.1,X.2.2.1,X.2.2.2.1,(q4 X).1,Q.1,(q4 X).2.2.1,(q4 X).2.2.2.1,(q8 X).1,(q8 X).2.1,(q8 X).2.2.1,(q8 X).2.2.2.1,(q4 (q8 X)).1,(q4 (q8 X)).2.1,(q4 (q8 X)).2.2.1,(q4 (q8 X)).2.2.2.1,(q8 (q8 X)).1,Q.2,())) (fun X=>rfl) (fun ρ X Q Z=>(jv jd (jc fun _=>(jc fun _=>jd)))) (fun ρ X t k=>(by kernel_rfl)) (fun X s=>by kernel_rfl))
theorem ja.p4:PcA ja.G Tryd.f51 4:=
  jE (s:=ja.c12r) (by kernel_rfl) (by kernel_rfl) (jG (sh:=ja.c12s) (fun ρ X Z=>(jc fun _=>(jc fun _=>(jc fun _=>(jc fun _=>(jc fun _=>jd)))))) (fun ρ X t k=>(by kernel_rfl)) (fun X=>by kernel_rfl))
theorem ja.p5:PcA ja.G Tryd.f51 5:=
  range_ok (s:=ja.cF_r) (by kernel_rfl) (by kernel_rfl) (Je (sh:=ja.cF_s) (I:=fun X Q=>(X.1,X.2.1,X.2.2.1,X.2.2.2.1,(q4 X).1,Q.1,(q4 X).2.2.1,(q4 X).2.2.2.1,(q8 X).1,(q8 X).2.1,(q8 X).2.2.1,(q8 X).2.2.2.1,(q4 (q8 X)).1,(q4 (q8 X)).2.1,(q4 (q8 X)).2.2.1,(q4 (q8 X)).2.2.2.1,(q8 (q8 X)).1,Q.2,())) (fun X=>rfl) (fun ρ X Q Z=>(jv jd (jc fun _=>(jc fun _=>jd)))) (fun ρ X t k=>(by kernel_rfl)) (fun X s=>by kernel_rfl))
theorem ja.p6:PcA ja.G Tryd.f51 6:=
  jE (s:=ja.c16r) (by kernel_rfl) (by kernel_rfl) (jG (sh:=ja.c16s) (fun ρ X Z=>(jc fun _=>(jc fun _=>(jc fun _=>(jc fun _=>(jc fun _=>(jc fun _=>(jc fun _=>(jc fun _=>jd))))))))) (fun ρ X t k=>(by kernel_rfl)) (fun X=>by kernel_rfl))
theorem ja.p7:PcA ja.G Tryd.f51 7:=
  range_ok (s:=ja.cy_r) (by kernel_rfl) (by kernel_rfl) (Je (sh:=ja.cy_s) (I:=fun X Q=>(X.1,X.2.1,X.2.2.1,X.2.2.2.1,(q4 X).1,Q.1,(q4 X).2.2.1,(q4 X).2.2.2.1,(q8 X).1,(q8 X).2.1,(q8 X).2.2.1,(q8 X).2.2.2.1,(q4 (q8 X)).1,(q4 (q8 X)).2.1,(q4 (q8 X)).2.2.1,(q4 (q8 X)).2.2.2.1,(q8 (q8 X)).1,Q.2,())) (fun X=>rfl) (fun ρ X Q Z=>(jv jd (jc fun _=>(jc fun _=>(jc fun _=>(jv jd (jc fun _=>jd))))))) (fun ρ X t k=>(by kernel_rfl)) (fun X s=>by kernel_rfl))
theorem ja.p8:PcA ja.G Tryd.f51 8:=
  jE (s:=ja.c20r) (by kernel_rfl) (by kernel_rfl) (jG (sh:=ja.c20s) (fun ρ X Z=>(jc fun _=>(jc fun _=>(jc fun _=>(jc fun _=>jd))))) (fun ρ X t k=>(by kernel_rfl)) (fun X=>by kernel_rfl))
theorem ja.p9:PcA ja.G Tryd.f51 9:=
  jE (s:=ja.c21r) (by kernel_rfl) (by kernel_rfl) (jG (sh:=ja.c20x0) (fun ρ X Z=>(jc fun _=>(jc fun _=>(jv (jc fun _=>(jc fun _=>jd)) jd)))) (fun ρ X t k=>(by kernel_rfl)) (fun X=>by kernel_rfl))
theorem ja.p10:PcA ja.G Tryd.f51 10:=
  jE (s:=ja.c22r) (by kernel_rfl) (by kernel_rfl) (jG (sh:=ja.c20x0) (fun ρ X Z=>(jc fun _=>(jc fun _=>(jc fun _=>(jc fun _=>(jc fun _=>(jc fun _=>(jc fun _=>(jc fun _=>(jc fun _=>(jc fun _=>(jc fun _=>(jc fun _=>jd))))))))))))) (fun ρ X t k=>(by kernel_rfl)) (fun X=>by kernel_rfl))
theorem ja.ok:MOk Tryd.prog 51 ja.mc:=kq (mc:=ja.mc) (G:=ja.G) jV mixed Tryd.func51 ⟨(jI Jg.ok (jI jq.ok (jI jQ.ok (jI js.ok (jI jX.ok (jI jW.ok jR)))))),(JI jY.ok jM),jC,jL⟩ (m:=11) (by kernel_rfl) ⟨⟨⟨⟨⟨⟨⟨⟨⟨⟨⟨trivial,ja.p0⟩,ja.p1⟩,ja.p2⟩,ja.p3⟩,ja.p4⟩,ja.p5⟩,ja.p6⟩,ja.p7⟩,ja.p8⟩,ja.p9⟩,ja.p10⟩ (by kernel_rfl) (fun _=>by kernel_rfl)
def je.pre:Shape:=⟨[(0,sd34)],[(1000700,sd35),(2000701,sd23),(2000702,sd28)]⟩
def je.post:Shape:=⟨[(0,sd1)],[(1000700,sd35),(2000701,sd23),(2000702,sd28)]⟩
def je.c1  (Z:Unit→Option ρ):Option ρ:=
  Z ()
def je.c1s:Shape:=⟨[(0,sd34),(2,sd1)],[(1000700,sd35),(2000701,sd23),(2000702,sd28)]⟩
def je.c1x0:Shape:=⟨[(0,sd34),(2,sd1),(14,sd1)],[(1000700,sd35),(2000701,sd23),(2000702,sd28)]⟩
def je.c1r:Ck:=Ck.of (T:=Unit) je.c1s (fun ρ X Z=>je.c1  Z) (fun ρ X V Z=>Z 0 (Shape.inj je.c1x0 (X.1,(decide ((q4 X).2.1<(X.2.2.2.1.length:Int))),X.2)))
def je.c3 (ug:List ((Int)×((Int)×((List Int)×((Int)×((Int)×(List Int)))))))(ui:Int)(Z:(Int)×(Int)×(List Int)×(Int)×(Int)×(List Int)→Option ρ):Option ρ:=
  bnd (idx ug ui) fun y=>
  Z (y.1,y.2.1,y.2.2.1,y.2.2.2.1,y.2.2.2.2.1,y.2.2.2.2.2)
def je.c3x0:Shape:=⟨[(0,sd34),(2,sd1),(3,sd36)],[(3,sd6),(1000700,sd35),(2000701,sd23),(2000702,sd28)]⟩
def je.c3r:Ck:=Ck.of (T:=(Int)×(Int)×(List Int)×(Int)×(Int)×(List Int)) je.c1s (fun ρ X Z=>je.c3 X.2.2.2.1 (q4 X).2.1 Z) (fun ρ X V Z=>Z 0 (Shape.inj je.c3x0 (X.1,V.1,V.2.1,V.2.2.1,V.2.2.2.1,V.2.2.2.2.1,V.2.2.2.2.2,X.2)))
def je.c5 (o0:Int)(Z:Bool→Option ρ):Option ρ:=
  br (o0==5)
   (Z true)
   (Z (o0==6))
def je.c5x0:Shape:=⟨[(0,sd34),(2,sd1),(3,sd36),(44,sd1)],[(3,sd6),(1000700,sd35),(2000701,sd23),(2000702,sd28)]⟩
def je.c5r:Ck:=Ck.of (T:=Bool) je.c3x0 (fun ρ X Z=>je.c5 X.2.1 Z) (fun ρ X V Z=>Z 0 (Shape.inj je.c5x0 (X.1,V,X.2)))
def je.c7 (o0:Int)(o1:Int)(o2:List (Int))(o3:Int)(o4:Int)(o5:List (Int))(ul:List ((List (Bool×(List Int)))×(Int)))(Z:List ((List (Bool×(List Int)))×(Int))→Option ρ):Option ρ:=
  bnd (ja (0:Int) (ul.length:Int) (o0,o1,o2,o3,o4,o5) ul) fun y=>
  Z y.1
def je.c7r:Ck:=Ck.of (T:=List ((List (Bool×(List Int)))×(Int))) je.c3x0 (fun ρ X Z=>je.c7 X.2.1 X.2.2.1 X.2.2.2.1 (q4 X).1 (q4 X).2.1 (q4 X).2.2.1 (q4 (q8 X)).1 Z) (fun ρ X V Z=>Z 0 (Shape.inj je.c3x0 (X.1,X.2.1,X.2.2.1,X.2.2.2.1,(q4 X).1,(q4 X).2.1,(q4 X).2.2.1,(q4 X).2.2.2.1,(q8 X).1,(q8 X).2.1,(q8 X).2.2.1,(q8 X).2.2.2.1,V,(q4 (q8 X)).2)))
def je.cv_ (ue:Int)(uf:Int)(ug:List ((Int)×((Int)×((List Int)×((Int)×((Int)×(List Int)))))))(uh:Int)(ui:Int)(ul:List ((List (Bool×(List Int)))×(Int)))(um:List (Int))(Z:((Int)×(Int)×(List ((Int)×((Int)×((List Int)×((Int)×((Int)×(List Int)))))))×(Int)×(Int)×(List ((List (Bool×(List Int)))×(Int)))×(List Int))⊕((Int)×(Int)×(List ((Int)×((Int)×((List Int)×((Int)×((Int)×(List Int)))))))×(Int)×(Int)×(List ((List (Bool×(List Int)))×(Int)))×(List Int))→Option ρ):Option ρ:=
  bnd (je.c3 ug ui some) fun y=>
  bnd (jt (y.1,y.2.1,y.2.2.1,y.2.2.2.1,y.2.2.2.2.1,y.2.2.2.2.2) ue uf ug uh ui ul um) fun y1=>
  br (!y1.1)
   (Z (.inl (y1.2.1,y1.2.2.1,y1.2.2.2.1,y1.2.2.2.2.1,y1.2.2.2.2.2.1,y1.2.2.2.2.2.2.1,y1.2.2.2.2.2.2.2.1)))
   (bnd (je.c5 y.1 some) fun y2=>
    br y2
     (Z (.inr (y1.2.1,y1.2.2.1,y1.2.2.2.1,y1.2.2.2.2.1,y1.2.2.2.2.2.1,y1.2.2.2.2.2.2.1,y1.2.2.2.2.2.2.2.1)))
     (bnd (je.c7 y.1 y.2.1 y.2.2.1 y.2.2.2.1 y.2.2.2.2.1 y.2.2.2.2.2 y1.2.2.2.2.2.2.1 some) fun y3=>
      Z (.inl (y1.2.1,y1.2.2.1,y1.2.2.2.1,y1.2.2.2.2.1,y1.2.2.2.2.2.1,y3,y1.2.2.2.2.2.2.2.1))))
def je.cv_r:Ck:=Ck.of (T:=((Int)×(Int)×(List ((Int)×((Int)×((List Int)×((Int)×((Int)×(List Int)))))))×(Int)×(Int)×(List ((List (Bool×(List Int)))×(Int)))×(List Int))⊕((Int)×(Int)×(List ((Int)×((Int)×((List Int)×((Int)×((Int)×(List Int)))))))×(Int)×(Int)×(List ((List (Bool×(List Int)))×(Int)))×(List Int))) je.c1s (fun ρ X Z=>je.cv_ X.2.1 X.2.2.1 X.2.2.2.1 (q4 X).1 (q4 X).2.1 (q4 X).2.2.1 (q4 X).2.2.2.1 Z) (fun ρ X V Z=>sel V (fun V=>Z 0 (Shape.inj je.c1s (X.1,V.1,V.2.1,V.2.2.1,V.2.2.2.1,V.2.2.2.2.1,V.2.2.2.2.2.1,V.2.2.2.2.2.2,()))) (fun V=>Z 1 (Shape.inj je.c1s (true,V.1,V.2.1,V.2.2.1,V.2.2.2.1,V.2.2.2.2.1,V.2.2.2.2.2.1,V.2.2.2.2.2.2,()))))
def je.cd_ (ue:Int)(uf:Int)(ug:List ((Int)×((Int)×((List Int)×((Int)×((Int)×(List Int)))))))(uh:Int)(ui:Int)(ul:List ((List (Bool×(List Int)))×(Int)))(um:List (Int))(Z:((Int)×(Int)×(List ((Int)×((Int)×((List Int)×((Int)×((Int)×(List Int)))))))×(Int)×(Int)×(List ((List (Bool×(List Int)))×(Int)))×(List Int))⊕(((Int)×(Int)×(List ((Int)×((Int)×((List Int)×((Int)×((Int)×(List Int)))))))×(Int)×(Int)×(List ((List (Bool×(List Int)))×(Int)))×(List Int))⊕((Int)×(Int)×(List ((Int)×((Int)×((List Int)×((Int)×((Int)×(List Int)))))))×(Int)×(Int)×(List ((List (Bool×(List Int)))×(Int)))×(List Int)))→Option ρ):Option ρ:=
  bnd (je.c1 some) fun y=>
  br (decide (ui<(ug.length:Int)))
   (bnd (je.cv_ ue uf ug uh ui ul um some) fun y1=>
    sel y1
     (fun u=>Z (.inl (u.1,u.2.1,u.2.2.1,u.2.2.2.1,(i64.wrap (u.2.2.2.2.1+1)),u.2.2.2.2.2.1,u.2.2.2.2.2.2)))
     (fun v=>Z (.inr (.inl (v.1,v.2.1,v.2.2.1,v.2.2.2.1,v.2.2.2.2.1,v.2.2.2.2.2.1,v.2.2.2.2.2.2)))))
   (Z (.inr (.inr (ue,uf,ug,uh,ui,ul,um))))
def je.cd_r:Ck:=Ck.ofLoop (S:=(Int)×(Int)×(List ((Int)×((Int)×((List Int)×((Int)×((Int)×(List Int)))))))×(Int)×(Int)×(List ((List (Bool×(List Int)))×(Int)))×(List Int)) (T:=((Int)×(Int)×(List ((Int)×((Int)×((List Int)×((Int)×((Int)×(List Int)))))))×(Int)×(Int)×(List ((List (Bool×(List Int)))×(Int)))×(List Int))⊕((Int)×(Int)×(List ((Int)×((Int)×((List Int)×((Int)×((Int)×(List Int)))))))×(Int)×(Int)×(List ((List (Bool×(List Int)))×(Int)))×(List Int))) je.c1s (fun X=>(X.2.1,X.2.2.1,X.2.2.2.1,(q4 X).1,(q4 X).2.1,(q4 X).2.2.1,(q4 X).2.2.2.1)) (fun ρ X Q Z=>je.cd_ Q.1 Q.2.1 Q.2.2.1 Q.2.2.2.1 Q.2.2.2.2.1 Q.2.2.2.2.2.1 Q.2.2.2.2.2.2 Z) (fun ρ X V Z=>sel V (fun V=>Z 1 (Shape.inj je.c1s (true,V.1,V.2.1,V.2.2.1,V.2.2.2.1,V.2.2.2.2.1,V.2.2.2.2.2.1,V.2.2.2.2.2.2,()))) (fun V=>Z 2 (Shape.inj je.c1s (X.1,V.1,V.2.1,V.2.2.1,V.2.2.2.1,V.2.2.2.2.1,V.2.2.2.2.2.1,V.2.2.2.2.2.2,()))))
def je (ue:Int) (uf:Int) (ug:List ((Int)×((Int)×((List Int)×((Int)×((Int)×(List Int))))))) (uh:Int) (ui:Int) (ul:List ((List (Bool×(List Int)))×(Int))) (um:List (Int)):Option (Bool×(Int)×(Int)×(List ((Int)×((Int)×((List Int)×((Int)×((Int)×(List Int)))))))×(Int)×(Int)×(List ((List (Bool×(List Int)))×(Int)))×(List Int)×Unit):=
  bnd (iter (fun s↦je.cd_ s.1 s.2.1 s.2.2.1 s.2.2.2.1 s.2.2.2.2.1 s.2.2.2.2.2.1 s.2.2.2.2.2.2 some) (ue,uf,ug,uh,ui,ul,um)) fun y=>
  sel y
   (fun u=>some (true,u.1,u.2.1,u.2.2.1,u.2.2.2.1,u.2.2.2.2.1,u.2.2.2.2.2.1,u.2.2.2.2.2.2,()))
   (fun v=>some (false,v.1,v.2.1,v.2.2.1,v.2.2.2.1,v.2.2.2.2.1,v.2.2.2.2.2.1,v.2.2.2.2.2.2,()))
def je.mc:MCallee:=⟨36,je.pre,je.post,fun X=>je X.1 X.2.1 X.2.2.1 X.2.2.2.1 (q4 X).1 (q4 X).2.1 (q4 X).2.2.1⟩
def je.G:Env:=⟨51,tab,[],[0,2,3,14,36,44],[1000700,2000701,2000702],[(7,[⟨[],[],[49],[]⟩,⟨[0],[],[49],[]⟩,⟨[1,0],[],[49],[]⟩,⟨[2,1,0],[],[49],[]⟩,⟨[],[],[45,46,47,48],[]⟩,⟨[3,2,1,0,4],[2000701],[],[]⟩]),
  (3,[⟨[],[],[27,28,29,30,3],[3]⟩,⟨[0],[],[27,28,29,30,3],[3]⟩,⟨[1,0],[],[27,28,29,30,3],[3]⟩,⟨[2,1,0],[],[27,28,29,30,3],[3]⟩,⟨[3,2,1,0],[],[27,28,29,30,3],[3]⟩,⟨[],[],[22,23,24,25,26,3],[3]⟩,⟨[5],[],[22,23,24,25,26,3],[3]⟩,⟨[6,5],[],[22,23,24,25,26,3],[3]⟩,⟨[7,6,5],[],[22,23,24,25,26,3],[3]⟩,⟨[4,3,2,1,0,8,7,6,5],[],[3],[3]⟩,⟨[9,4,3,2,1,0,8,7,6,5],[],[3],[3]⟩,⟨[],[3],[22,23,24,25,26,27,28,29,30,31,32],[]⟩,⟨[11,10,9,4,3,2,1,0,8,7,6,5],[3],[],[]⟩]),
  (1,[⟨[],[],[8,9,10,11,12,13],[]⟩,⟨[0],[],[8,9,10,11,12,13],[]⟩,⟨[1,0],[],[8,9,10,11,12,13],[]⟩,⟨[2,1,0],[],[8,9,10,11,12,13],[]⟩,⟨[],[],[4,5,6,7],[]⟩,⟨[4],[],[4,5,6,7],[]⟩,⟨[5,4],[],[4,5,6,7],[]⟩,⟨[6,5,4],[],[4,5,6,7],[]⟩,⟨[7,6,5,4],[],[4,5,6,7],[]⟩,⟨[8,7,6,5,4],[],[4,5,6,7],[]⟩,⟨[3,2,1,0,9,8,7,6,5,4],[],[],[]⟩])],[(100001,je.cd_r),(212306,je.cv_r),(7,je.c7r),(5,je.c5r),(3,je.c3r),(1,je.c1r)],[(50,jt.mc),(51,ja.mc)],jP,[]⟩
theorem je.p0:PcA je.G Tryd.f36 0:=
  Jt (s:=je.cd_r) (by kernel_rfl) (by kernel_rfl) (Je (sh:=je.c1s) (I:=fun X Q=>(X.1,Q.1,Q.2.1,Q.2.2.1,Q.2.2.2.1,Q.2.2.2.2.1,Q.2.2.2.2.2.1,Q.2.2.2.2.2.2,())) (fun X=>rfl) (fun ρ X Q Z=>(jc fun _=>(jv (jc fun _=>(kl (fun _=>jd) (fun _=>jd))) jd))) (fun ρ X t k=>(kl (fun _=>(by kernel_rfl)) (fun _=>(by kernel_rfl)))) (fun X s=>by kernel_rfl))
theorem je.p1:PcA je.G Tryd.f36 1:=
  jE (s:=je.c1r) (by kernel_rfl) (by kernel_rfl) (jG (sh:=je.c1s) (fun ρ X Z=>jd) (fun ρ X t k=>(by kernel_rfl)) (fun X=>by kernel_rfl))
theorem je.p2:PcA je.G Tryd.f36 2:=
  kj (s:=je.cv_r) (by kernel_rfl) (by kernel_rfl) (jG (sh:=je.c1s) (fun ρ X Z=>(jc fun _=>(jc fun _=>(jv jd (jc fun _=>(jv jd (jc fun _=>jd))))))) (fun ρ X t k=>(kl (fun _=>(by kernel_rfl)) (fun _=>(by kernel_rfl)))) (fun X=>by kernel_rfl))
theorem je.p3:PcA je.G Tryd.f36 3:=
  jE (s:=je.c3r) (by kernel_rfl) (by kernel_rfl) (jG (sh:=je.c1s) (fun ρ X Z=>(jc fun _=>jd)) (fun ρ X t k=>(by kernel_rfl)) (fun X=>by kernel_rfl))
theorem je.p4:PcA je.G Tryd.f36 4:=
  jE (s:=je.c5r) (by kernel_rfl) (by kernel_rfl) (jG (sh:=je.c3x0) (fun ρ X Z=>(jv jd jd)) (fun ρ X t k=>(by kernel_rfl)) (fun X=>by kernel_rfl))
theorem je.p5:PcA je.G Tryd.f36 5:=
  jE (s:=je.c7r) (by kernel_rfl) (by kernel_rfl) (jG (sh:=je.c3x0) (fun ρ X Z=>(jc fun _=>jd)) (fun ρ X t k=>(by kernel_rfl)) (fun X=>by kernel_rfl))
theorem je.ok:MOk Tryd.prog 36 je.mc:=kq (mc:=je.mc) (G:=je.G) jV mixed Tryd.func36 ⟨jR,(JI jt.ok (JI ja.ok jM)),jC,jL⟩ (m:=6) (by kernel_rfl) ⟨⟨⟨⟨⟨⟨trivial,je.p0⟩,je.p1⟩,je.p2⟩,je.p3⟩,je.p4⟩,je.p5⟩ (by kernel_rfl) (fun _=>by kernel_rfl)
def jo.pre:Shape:=⟨[(0,sd37),(1,sd0),(2,sd0)],[(2000000,sd23)]⟩
def jo.post:Shape:=⟨[],[(2000000,sd23)]⟩
def jo.cm_ (vlo:Int)(vn:Int)(q:Int)(b:Int)(t9:Int)(uj:List ((List (Bool×(List Int)))×(Int)))(Z:List ((List (Bool×(List Int)))×(Int))→Option ρ):Option ρ:=
  bnd (okIf (decide ((0:Int)≤q))) fun y=>
  br (ibits BinOp.and IntKind.i64 (Int.fdiv t9 ((2:Int)^Min.min (Int.toNat q) (64:Nat))) (1:Int) !=b)
   (bnd (okIf (decide ((0:Ty.den (Ty.int IntKind.i64))≤t9)&&decide (t9<vn))) fun y1=>
    bnd (idx uj (vlo+t9)) fun y2=>
    Z (List.set uj (Int.toNat (vlo+t9)) (List.replicate (8:Nat) (false,[]),(0:Int))))
   (Z uj)
def jo.cm_s:Shape:=⟨[(0,sd37),(1,sd0),(2,sd0),(8,sd0),(9,sd0)],[(2000000,sd23)]⟩
def jo.cm_r:Ck:=Ck.of (T:=List ((List (Bool×(List Int)))×(Int))) jo.cm_s (fun ρ X Z=>jo.cm_ X.1 X.2.1 X.2.2.1 X.2.2.2.1 (q4 X).2.1 (q4 X).2.2.1 Z) (fun ρ X V Z=>Z 0 (Shape.inj jo.cm_s (X.1,X.2.1,X.2.2.1,X.2.2.2.1,(q4 X).1,(q4 X).2.1,V,())))
def jo.cd_ (vlo:Int)(vn:Int)(q:Int)(b:Int)(t8:Int)(t9:Int)(uj:List ((List (Bool×(List Int)))×(Int)))(Z:((Int)×(List ((List (Bool×(List Int)))×(Int))))⊕((Int)×(List ((List (Bool×(List Int)))×(Int))))→Option ρ):Option ρ:=
  br (decide (t9<t8))
   (bnd (jo.cm_ vlo vn q b t9 uj some) fun y=>
    Z (.inl ((i64.wrap (t9+1)),y)))
   (Z (.inr (t9,uj)))
def jo.cd_r:Ck:=Ck.ofLoop (S:=(Int)×(List ((List (Bool×(List Int)))×(Int)))) (T:=(Int)×(List ((List (Bool×(List Int)))×(Int)))) jo.cm_s (fun X=>((q4 X).2.1,(q4 X).2.2.1)) (fun ρ X Q Z=>jo.cd_ X.1 X.2.1 X.2.2.1 X.2.2.2.1 (q4 X).1 Q.1 Q.2 Z) (fun ρ X V Z=>Z 2 (Shape.inj jo.cm_s (X.1,X.2.1,X.2.2.1,X.2.2.2.1,(q4 X).1,V.1,V.2,())))
def jo (vlo:Int) (vn:Int) (q:Int) (b:Int) (uj:List ((List (Bool×(List Int)))×(Int))):Option ((List ((List (Bool×(List Int)))×(Int)))×Unit):=
  bnd (iter (fun s↦jo.cd_ vlo vn q b (↑(List.length (part vlo vn uj)):Int) s.1 s.2 some) ((0:Int),uj)) fun y=>
  some (y.2,())
def jo.mc:MCallee:=⟨52,jo.pre,jo.post,fun X=>jo X.1 X.2.1 X.2.2.1 X.2.2.2.1 (q4 X).1⟩
def jo.G:Env:=⟨23,tab,[],[0,1,2,6,8,9,10,17],[2000000],[],[(100001,jo.cd_r),(208200,jo.cm_r)],[],jP,[]⟩
theorem jo.p0:PcA jo.G Tryd.f52 0:=
  Jt (s:=jo.cd_r) (by kernel_rfl) (by kernel_rfl) (Je (sh:=jo.cm_s) (I:=fun X Q=>(X.1,X.2.1,X.2.2.1,X.2.2.2.1,(q4 X).1,Q.1,Q.2,())) (fun X=>rfl) (fun ρ X Q Z=>(jv (jc fun _=>jd) jd)) (fun ρ X t k=>(by kernel_rfl)) (fun X s=>by kernel_rfl))
theorem jo.p1:PcA jo.G Tryd.f52 1:=
  kj (s:=jo.cm_r) (by kernel_rfl) (by kernel_rfl) (jG (sh:=jo.cm_s) (fun ρ X Z=>(jc fun _=>(jv (jc fun _=>(jc fun _=>jd)) jd))) (fun ρ X t k=>(by kernel_rfl)) (fun X=>by kernel_rfl))
theorem jo.ok:MOk Tryd.prog 52 jo.mc:=kq (mc:=jo.mc) (G:=jo.G) jV mixed Tryd.func52 ⟨jR,jM,jC,jL⟩ (m:=2) (by kernel_rfl) ⟨⟨trivial,jo.p0⟩,jo.p1⟩ (by kernel_rfl) (fun _=>by kernel_rfl)
end
end W
end
