/- Lifted functions, part 1: each with its contract. -/
import Derived.Test.YtaehnephoppjmaaGreatDoorCa
import Derived.Test.YtaehnephoppjmaaGreatDoorProg
set_option linter.all false
section
set_option maxHeartbeats 4000000
set_option maxRecDepth 100000
namespace W
open Go Go.Ql Go.Proofs Go.IntKind
noncomputable section
variable {ρ:Type}
abbrev sa0:SD:=.one (.val (.sl (.int .i64)))
abbrev sa1:SD:=.one (.own 3 0)
abbrev sa2:SD:=.one (.val (.int .i64))
abbrev sa3:SO:=.arr 0 false 3 (.int .i64)
abbrev q4 {a b c d e:Type} (x:a×b×c×d×e):e:=x.2.2.2.2
abbrev q8 {a b c d e f g h i:Type} (x:a×b×c×d×e×f×g×h×i):i:=x.2.2.2.2.2.2.2.2
abbrev YO:=Int×(Int×((List Int)×(Int×(Int×(List Int)))))
abbrev YD:=(Bool)×(List Int)
abbrev YP:=Int×(Int×(Bool))
abbrev YN:=(List YD)×Int
def JB.ca_ (l:List (Int))(i:Int)(out:List (Int))(Z:((Int)×(List Int))⊕((Int)×(List Int))→Option ρ):Option ρ:=
  br (decide (i<(l.length:Int)))
   (bnd (idx l i) fun y=>
    bnd (okIf (decide ((out.length+1)*8≤140737488355328)&&decide (out.length+1≤140737488355328))) fun y1=>
    Z (.inl ((i64.wrap (i+1)),(out++[y]))))
   (Z (.inr (i,out)))
def JB.ca_s:Shape:=⟨[(0,sa0),(2,sa0),(3,sa1),(4,sa2)],[(3,sa3)]⟩
def JB.ca_r:Ck:=Ck.ofLoop (S:=(Int)×(List Int)) (T:=(Int)×(List Int)) JB.ca_s (fun X=>(X.2.2.1,X.2.2.2.1)) (fun ρ X Q Z=>JB.ca_ X.1 Q.1 Q.2 Z) (fun ρ X V Z=>Z 2 (Shape.inj JB.ca_s (X.1,X.2.1,V.1,V.2,())))
def JB (l:List (Int)):Option (List Int):=
  bnd (iter (fun s↦JB.ca_ l s.1 s.2 some) ((0:Int),[])) fun y=>
  some y.2
def JB.ce:Go.Ql.Callee:=⟨[(.sl (.int .i64))],[(.sl (.int .i64))],fun X=>JB X⟩
def JB.G:Env:=⟨19,tab,[],[0,2,3,4,8],[3],[],[(100003,JB.ca_r)],[],jI,[]⟩
theorem JB.p0:PcA JB.G Tryz.f51 0:=
  Jf (s:=JB.ca_r) (by kernel_rfl) (by kernel_rfl) (jW (sh:=JB.ca_s) (I:=fun X Q=>(X.1,X.2.1,Q.1,Q.2,())) (fun X=>rfl) (fun ρ X Q Z=>(jg (jb fun _=>(jb fun _=>jc)) jc)) (fun ρ X t k=>(by kernel_rfl)) (fun X s=>by kernel_rfl))
theorem JB.ok:CalleeOk Tryz.prog 51 JB.ce:=fn_ok (G:=JB.G) jX mixed Tryz.func51 ⟨jK,jE,jq,jD⟩ (m:=1) (by kernel_rfl) ⟨trivial,JB.p0⟩ (by kernel_rfl) (fun _=>by kernel_rfl)
def kQ (o:YO):Option YO:=
  bnd (JB o.2.2.1) fun y=>
  bnd (JB o.2.2.2.2.2) fun y1=>
  some (o.1,o.2.1,y,o.2.2.2.1,o.2.2.2.2.1,y1)
def kQ.ce:Go.Ql.Callee:=⟨[(.st (.pair (.int .i64) (.pair (.int .i64) (.pair (.sl (.int .i64)) (.pair (.int .i64) (.pair (.int .i64) (.sl (.int .i64))))))))],[(.st (.pair (.int .i64) (.pair (.int .i64) (.pair (.sl (.int .i64)) (.pair (.int .i64) (.pair (.int .i64) (.sl (.int .i64))))))))],fun X=>kQ X⟩
def kQ.G:Env:=⟨12,tab,[(51,JB.ce)],[0,1,2],[],[],[],[],jI,[]⟩
theorem kQ.ok:CalleeOk Tryz.prog 27 kQ.ce:=fn_ok (G:=kQ.G) jX mixed Tryz.func27 ⟨(jn JB.ok jK),jE,jq,jD⟩ (m:=0) (by kernel_rfl) trivial (by kernel_rfl) (fun _=>by kernel_rfl)
abbrev sa4:SD:=.one (.val (.st (.pair (.int .i64) (.pair (.int .i64) (.sl (.st (.pair (.int .i64) (.pair (.int .i64) (.pair (.sl (.int .i64)) (.pair (.int .i64) (.pair (.int .i64) (.sl (.int .i64)))))))))))))
abbrev sa5:SD:=.one (.ref 1 0)
abbrev sa6:SD:=.one (.ref 2 0)
abbrev sa7:SD:=.one (.ref 3 0)
abbrev sa8:SO:=.box [.val (.int .i64),.val (.int .i64),.val (.sl (.st (.pair (.int .i64) (.pair (.int .i64) (.pair (.sl (.int .i64)) (.pair (.int .i64) (.pair (.int .i64) (.sl (.int .i64)))))))))]
abbrev sa9:SO:=.box [.val (.int .i64),.val (.int .i64),.own 3003 0]
abbrev sa10:SO:=.arr 0 false 76 (.st (.pair (.int .i64) (.pair (.int .i64) (.pair (.sl (.int .i64)) (.pair (.int .i64) (.pair (.int .i64) (.sl (.int .i64))))))))
def jS.c5 (i:Int)(c2:List YO)(un:List YO)(Z:List YO→Option ρ):Option ρ:=
  bnd (idx c2 i) fun y=>
  bnd (kQ y) fun y1=>
  bnd (okIf (decide ((un.length+1)*80≤140737488355328)&&decide (un.length+1≤140737488355328))) fun y2=>
  Z (un++[y1])
def jS.c5s:Shape:=⟨[(0,sa4),(1,sa5),(2,sa6),(3,sa7),(4,sa2)],[(1,sa8),(2,sa8),(3,sa9),(3003,sa10)]⟩
def jS.c5r:Ck:=Ck.of (T:=List YO) jS.c5s (fun ρ X Z=>jS.c5 X.2.1 (q4 X).1 (q8 X).2.2.1 Z) (fun ρ X V Z=>Z 0 (Shape.inj jS.c5s (X.1,X.2.1,X.2.2.1,X.2.2.2.1,(q4 X).1,(q4 X).2.1,(q4 X).2.2.1,(q4 X).2.2.2.1,(q8 X).1,(q8 X).2.1,V,())))
def jS.ca_ (i:Int)(c2:List YO)(un:List YO)(Z:((Int)×(List YO))⊕((Int)×(List YO))→Option ρ):Option ρ:=
  br (decide (i<(c2.length:Int)))
   (bnd (jS.c5 i c2 un some) fun y=>
    Z (.inl ((i64.wrap (i+1)),y)))
   (Z (.inr (i,un)))
def jS.ca_r:Ck:=Ck.ofLoop (S:=(Int)×(List YO)) (T:=(Int)×(List YO)) jS.c5s (fun X=>(X.2.1,(q8 X).2.2.1)) (fun ρ X Q Z=>jS.ca_ Q.1 (q4 X).1 Q.2 Z) (fun ρ X V Z=>Z 2 (Shape.inj jS.c5s (X.1,V.1,X.2.2.1,X.2.2.2.1,(q4 X).1,(q4 X).2.1,(q4 X).2.2.1,(q4 X).2.2.2.1,(q8 X).1,(q8 X).2.1,V.2,())))
def jS (c:(Int)×((Int)×(List YO))):Option ((Int)×((Int)×(List YO))):=
  bnd (iter (fun s↦jS.ca_ s.1 c.2.2 s.2 some) ((0:Int),[])) fun y=>
  some (c.1,c.2.1,y.2)
def jS.ce:Go.Ql.Callee:=⟨[(.st (.pair (.int .i64) (.pair (.int .i64) (.sl (.st (.pair (.int .i64) (.pair (.int .i64) (.pair (.sl (.int .i64)) (.pair (.int .i64) (.pair (.int .i64) (.sl (.int .i64))))))))))))],[(.st (.pair (.int .i64) (.pair (.int .i64) (.sl (.st (.pair (.int .i64) (.pair (.int .i64) (.pair (.sl (.int .i64)) (.pair (.int .i64) (.pair (.int .i64) (.sl (.int .i64))))))))))))],fun X=>jS X⟩
def jS.G:Env:=⟨29,tab,[(27,kQ.ce)],[0,1,2,3,4,14],[1,3,9,3001,3003],[(5,[⟨[],[],[19,20,21,22,23,24,25],[25]⟩,⟨[0],[],[19,20,21,22,23,24,25],[25]⟩,⟨[],[],[17,18,21],[]⟩,⟨[2],[],[17,18,21],[]⟩,⟨[],[],[17,18,19,20],[]⟩,⟨[3,2,4],[],[17,18],[]⟩,⟨[5,3,2,4],[],[17,18],[]⟩,⟨[6,5,3,2,4],[],[17,18],[]⟩,⟨[7,6,5,3,2,4],[25],[17,18],[]⟩,⟨[1,0,8,7,6,5,3,2,4],[3003],[],[]⟩,⟨[0,1,2,3,4,5,6,7,8,9],[],[],[]⟩,⟨[10,0,1,2,3,4,5,6,7,8,9],[3],[],[]⟩])],[(100003,jS.ca_r),(5,jS.c5r)],[],jI,[]⟩
theorem jS.p0:PcA jS.G Tryz.f7 0:=
  Jf (s:=jS.ca_r) (by kernel_rfl) (by kernel_rfl) (jW (sh:=jS.c5s) (I:=fun X Q=>(X.1,Q.1,X.2.2.1,X.2.2.2.1,(q4 X).1,(q4 X).2.1,(q4 X).2.2.1,(q4 X).2.2.2.1,(q8 X).1,(q8 X).2.1,Q.2,())) (fun X=>rfl) (fun ρ X Q Z=>(jg (jb fun _=>jc) jc)) (fun ρ X t k=>(by kernel_rfl)) (fun X s=>by kernel_rfl))
theorem jS.p1:PcA jS.G Tryz.f7 1:=
  js (s:=jS.c5r) (by kernel_rfl) (by kernel_rfl) (jp (sh:=jS.c5s) (fun ρ X Z=>(jb fun _=>(jb fun _=>(jb fun _=>jc)))) (fun ρ X t k=>(by kernel_rfl)) (fun X=>by kernel_rfl))
theorem jS.ok:CalleeOk Tryz.prog 7 jS.ce:=fn_ok (G:=jS.G) jX mixed Tryz.func7 ⟨(jn kQ.ok jK),jE,jq,jD⟩ (m:=2) (by kernel_rfl) ⟨⟨trivial,jS.p0⟩,jS.p1⟩ (by kernel_rfl) (fun _=>by kernel_rfl)
def kq (code:Int) (t1:Int):Option ((Int)×(Int)):=
  some (code,t1)
def kq.ce:Go.Ql.Callee:=⟨[(.int .i64),(.int .i64)],[(.st (.pair (.int .i64) (.int .i64)))],fun X=>kq X.1 X.2⟩
def kq.G:Env:=⟨8,tab,[],[0,1,4],[],[],[],[],jI,[]⟩
theorem kq.ok:CalleeOk Tryz.prog 110 kq.ce:=fn_ok (G:=kq.G) jX mixed Tryz.func110 ⟨jK,jE,jq,jD⟩ (m:=0) (by kernel_rfl) trivial (by kernel_rfl) (fun _=>by kernel_rfl)
abbrev sa11:SD:=.one (.val .bool)
def JG.c1 (kind:Int)(Z:Bool→Option ρ):Option ρ:=
  br (kind==1)
   (Z true)
   (Z (kind==4))
def JG.c1s:Shape:=⟨[(0,sa2),(2,sa11)],[]⟩
def JG.c1r:Ck:=Ck.of (T:=Bool) JG.c1s (fun ρ X Z=>JG.c1 X.1 Z) (fun ρ X V Z=>Z 0 (Shape.inj JG.c1s (X.1,V,())))
def JG (kind:Int):Option Bool:=
  bnd (JG.c1 kind some) fun y=>
  some y
def JG.ce:Go.Ql.Callee:=⟨[(.int .i64)],[.bool],fun X=>JG X⟩
def JG.G:Env:=⟨9,tab,[],[0,2],[],[],[(1,JG.c1r)],[],jI,[]⟩
theorem JG.p0:PcA JG.G Tryz.f138 0:=
  js (s:=JG.c1r) (by kernel_rfl) (by kernel_rfl) (jp (sh:=JG.c1s) (fun ρ X Z=>(jg jc jc)) (fun ρ X t k=>(by kernel_rfl)) (fun X=>by kernel_rfl))
theorem JG.ok:CalleeOk Tryz.prog 138 JG.ce:=fn_ok (G:=JG.G) jX mixed Tryz.func138 ⟨jK,jE,jq,jD⟩ (m:=1) (by kernel_rfl) ⟨trivial,JG.p0⟩ (by kernel_rfl) (fun _=>by kernel_rfl)
def JP.c1 (kind:Int)(Z:Bool→Option ρ):Option ρ:=
  br (kind==2)
   (Z true)
   (br (kind==3)
     (Z true)
     (Z (kind==4)))
def JP.c1s:Shape:=⟨[(0,sa2),(2,sa11)],[]⟩
def JP.c1r:Ck:=Ck.of (T:=Bool) JP.c1s (fun ρ X Z=>JP.c1 X.1 Z) (fun ρ X V Z=>Z 0 (Shape.inj JP.c1s (X.1,V,())))
def JP (kind:Int):Option Bool:=
  bnd (JP.c1 kind some) fun y=>
  some y
def JP.ce:Go.Ql.Callee:=⟨[(.int .i64)],[.bool],fun X=>JP X⟩
def JP.G:Env:=⟨13,tab,[],[0,2],[],[],[(1,JP.c1r)],[],jI,[]⟩
theorem JP.p0:PcA JP.G Tryz.f139 0:=
  js (s:=JP.c1r) (by kernel_rfl) (by kernel_rfl) (jp (sh:=JP.c1s) (fun ρ X Z=>(jg jc (jg jc jc))) (fun ρ X t k=>(by kernel_rfl)) (fun X=>by kernel_rfl))
theorem JP.ok:CalleeOk Tryz.prog 139 JP.ce:=fn_ok (G:=JP.G) jX mixed Tryz.func139 ⟨jK,jE,jq,jD⟩ (m:=1) (by kernel_rfl) ⟨trivial,JP.p0⟩ (by kernel_rfl) (fun _=>by kernel_rfl)
abbrev sa12:SD:=.one (.val (.st (.pair (.int .i64) (.pair (.int .i64) (.pair (.sl (.int .i64)) (.pair (.int .i64) (.pair (.int .i64) (.sl (.int .i64)))))))))
abbrev sa13:SD:=.one (.ref 1000100 0)
abbrev sa14:SO:=.box [.val (.int .i64),.val (.int .i64),.val (.sl (.int .i64)),.val (.int .i64),.val (.int .i64),.val (.sl (.int .i64))]
abbrev sa15:SD:=.one (.aptr 5 0)
abbrev sa16:SO:=.arr 0 false 185 .bool
def jj.pre:Shape:=⟨[(0,sa12),(1,sa13)],[(1000100,sa8)]⟩
def jj.post:Shape:=⟨[(0,sa2)],[(1000100,sa8)]⟩
def jj.c1 (o0:Int)(Z:Bool→Option ρ):Option ρ:=
  br (decide (o0<1))
   (Z true)
   (Z (decide (o0>6)))
def jj.c1s:Shape:=⟨[(0,sa12),(1,sa13),(2,sa6),(4,sa2)],[(2,sa14),(1000100,sa8)]⟩
def jj.c1x0:Shape:=⟨[(0,sa12),(1,sa13),(2,sa6),(4,sa2),(17,sa11)],[(2,sa14),(1000100,sa8)]⟩
def jj.c1r:Ck:=Ck.of (T:=Bool) jj.c1s (fun ρ X Z=>jj.c1 X.2.2.1 Z) (fun ρ X V Z=>Z 0 (Shape.inj jj.c1x0 (X.1,X.2.1,V,X.2.2)))
def jj.c3 (o0:Int)(o1:Int)(Z:Bool→Option ρ):Option ρ:=
  br (decide (o1<0))
   (Z true)
   (br (decide (o1>15))
     (Z true)
     (bnd (JG o0) fun y=>
      br (!y)
       (Z (o1 !=0))
       (Z false)))
def jj.c3x0:Shape:=⟨[(0,sa12),(1,sa13),(2,sa6),(4,sa2),(36,sa11)],[(2,sa14),(1000100,sa8)]⟩
def jj.c3r:Ck:=Ck.of (T:=Bool) jj.c1s (fun ρ X Z=>jj.c3 X.2.2.1 X.2.2.2.1 Z) (fun ρ X V Z=>Z 0 (Shape.inj jj.c3x0 (X.1,X.2.1,V,X.2.2)))
def jj.c5 (o0:Int)(o3:Int)(ub:Int)(Z:Bool→Option ρ):Option ρ:=
  br (decide (o3<0))
   (Z true)
   (br (decide (o3≥ub))
     (Z true)
     (br (o0==1)
       (Z (o3 !=0))
       (Z false)))
def jj.c5x0:Shape:=⟨[(0,sa12),(1,sa13),(2,sa6),(4,sa2),(58,sa11)],[(2,sa14),(1000100,sa8)]⟩
def jj.c5r:Ck:=Ck.of (T:=Bool) jj.c1s (fun ρ X Z=>jj.c5 X.2.2.1 (q4 X).2.1 (q8 X).1 Z) (fun ρ X V Z=>Z 0 (Shape.inj jj.c5x0 (X.1,X.2.1,V,X.2.2)))
def jj.c7 (o0:Int)(o2:List (Int))(Z:Bool→Option ρ):Option ρ:=
  br (decide ((o2.length:Int)>0))
   (bnd (JP o0) fun y=>
    Z (!y))
   (Z false)
def jj.c7x0:Shape:=⟨[(0,sa12),(1,sa13),(2,sa6),(4,sa2),(68,sa11)],[(2,sa14),(1000100,sa8)]⟩
def jj.c7r:Ck:=Ck.of (T:=Bool) jj.c1s (fun ρ X Z=>jj.c7 X.2.2.1 (q4 X).1 Z) (fun ρ X V Z=>Z 0 (Shape.inj jj.c7x0 (X.1,X.2.1,V,X.2.2)))
def jj.c14 (q:Int)(ub:Int)(Z:Bool→Option ρ):Option ρ:=
  br (decide (q<0))
   (Z true)
   (Z (decide (q≥ub)))
def jj.c14s:Shape:=⟨[(0,sa12),(1,sa13),(2,sa6),(4,sa2),(5,sa15),(7,sa2),(74,sa0),(75,sa2),(76,sa2)],[(2,sa14),(5,sa16),(1000100,sa8)]⟩
def jj.c14x0:Shape:=⟨[(0,sa12),(1,sa13),(2,sa6),(4,sa2),(5,sa15),(7,sa2),(74,sa0),(75,sa2),(76,sa2),(80,sa11)],[(2,sa14),(5,sa16),(1000100,sa8)]⟩
def jj.c14r:Ck:=Ck.of (T:=Bool) jj.c14s (fun ρ X Z=>jj.c14 X.2.2.1 (q4 (q8 X)).2.1 Z) (fun ρ X V Z=>Z 0 (Shape.inj jj.c14x0 (X.1,X.2.1,X.2.2.1,X.2.2.2.1,(q4 X).1,(q4 X).2.1,V,(q4 X).2.2)))
def jj.ct_ (t74:List (Int))(t75:Int)(t76:Int)(seen:List Bool)(ub:Int)(Z:((Int)×(List Bool))⊕(((Int)×(Int)×(List Bool))⊕((Int)×(List Bool)))→Option ρ):Option ρ:=
  br (decide (t76<t75))
   (bnd (idx t74 t76) fun y=>
    bnd (jj.c14 y ub some) fun y1=>
    br y1
     (Z (.inr (.inl ((10:Int),t76,seen))))
     (bnd (okIf (decide ((0:Ty.den (Ty.int IntKind.i64))≤y)&&decide (y<(↑(12:Nat):Int)))) fun y2=>
      bnd (inR (seen.length) y) fun y3=>
      bnd (idx seen y) fun y4=>
      br y4
       (Z (.inr (.inl ((12:Int),t76,seen))))
       (bnd (okIf (decide ((0:Ty.den (Ty.int IntKind.i64))≤y)&&decide (y<(↑(12:Nat):Int)))) fun y5=>
        bnd (inR (seen.length) y) fun y6=>
        bnd (idx seen y) fun y7=>
        Z (.inl ((i64.wrap (t76+1)),(List.set seen (Int.toNat y) true))))))
   (Z (.inr (.inr (t76,seen))))
def jj.ct_s:Shape:=⟨[(0,sa12),(1,sa13),(2,sa6),(4,sa2),(5,sa15),(74,sa0),(75,sa2),(76,sa2)],[(2,sa14),(5,sa16),(1000100,sa8)]⟩
def jj.ct_r:Ck:=Ck.ofLoop (S:=(Int)×(List Bool)) (T:=((Int)×(Int)×(List Bool))⊕((Int)×(List Bool))) jj.ct_s (fun X=>((q4 X).1,(q8 X).2.2.2.1)) (fun ρ X Q Z=>jj.ct_ X.2.2.1 X.2.2.2.1 Q.1 Q.2 (q4 (q8 X)).1 Z) (fun ρ X V Z=>sel V (fun V=>Z 1 (Shape.inj jj.ct_s (X.1,V.1,X.2.2.1,X.2.2.2.1,V.2.1,(q4 X).2.1,(q4 X).2.2.1,(q4 X).2.2.2.1,(q8 X).1,(q8 X).2.1,(q8 X).2.2.1,V.2.2,(q4 (q8 X))))) (fun V=>Z 2 (Shape.inj jj.ct_s (X.1,X.2.1,X.2.2.1,X.2.2.2.1,V.1,(q4 X).2.1,(q4 X).2.2.1,(q4 X).2.2.2.1,(q8 X).1,(q8 X).2.1,(q8 X).2.2.1,V.2,(q4 (q8 X))))))
def jj.c20 (o0:Int)(o4:Int)(uc:Int)(Z:Bool→Option ρ):Option ρ:=
  br (o0==5)
   (br (decide (o4<0))
     (Z true)
     (br (decide (o4≥uc))
       (Z true)
       (br (o0 !=5)
         (Z (o4 !=0))
         (Z false))))
   (br (o0 !=5)
     (Z (o4 !=0))
     (Z false))
def jj.c20x0:Shape:=⟨[(0,sa12),(1,sa13),(2,sa6),(4,sa2),(5,sa15),(74,sa0),(75,sa2),(76,sa2),(124,sa11)],[(2,sa14),(5,sa16),(1000100,sa8)]⟩
def jj.c20r:Ck:=Ck.of (T:=Bool) jj.ct_s (fun ρ X Z=>jj.c20 (q4 X).2.1 (q8 X).2.1 (q4 (q8 X)).2.1 Z) (fun ρ X V Z=>Z 0 (Shape.inj jj.c20x0 (X.1,X.2.1,X.2.2.1,X.2.2.2.1,(q4 X).1,V,(q4 X).2)))
def jj.c27 (v:Int)(uc:Int)(Z:Bool→Option ρ):Option ρ:=
  br (v==0)
   (Z true)
   (br (decide (v>uc))
     (Z true)
     (Z (decide (v<i64.wrap ((0:Int)-uc)))))
def jj.c27s:Shape:=⟨[(0,sa12),(1,sa13),(2,sa6),(4,sa2),(5,sa15),(9,sa2),(74,sa0),(75,sa2),(76,sa2),(130,sa0),(131,sa2),(132,sa2)],[(2,sa14),(5,sa16),(1000100,sa8)]⟩
def jj.c27x0:Shape:=⟨[(0,sa12),(1,sa13),(2,sa6),(4,sa2),(5,sa15),(9,sa2),(74,sa0),(75,sa2),(76,sa2),(130,sa0),(131,sa2),(132,sa2),(154,sa11)],[(2,sa14),(5,sa16),(1000100,sa8)]⟩
def jj.c27r:Ck:=Ck.of (T:=Bool) jj.c27s (fun ρ X Z=>jj.c27 X.2.2.1 (q8 (q8 X)).2.1 Z) (fun ρ X V Z=>Z 0 (Shape.inj jj.c27x0 (X.1,X.2.1,X.2.2.1,X.2.2.2.1,(q4 X).1,(q4 X).2.1,(q4 X).2.2.1,(q4 X).2.2.2.1,(q8 X).1,V,(q8 X).2)))
def jj.cn_ (t130:List (Int))(t131:Int)(t132:Int)(uc:Int)(Z:(Int)⊕((Int)⊕(Int))→Option ρ):Option ρ:=
  br (decide (t132<t131))
   (bnd (idx t130 t132) fun y=>
    bnd (jj.c27 y uc some) fun y1=>
    br y1
     (Z (.inr (.inl t132)))
     (Z (.inl (i64.wrap (t132+1)))))
   (Z (.inr (.inr t132)))
def jj.cn_s:Shape:=⟨[(0,sa12),(1,sa13),(2,sa6),(4,sa2),(5,sa15),(74,sa0),(75,sa2),(76,sa2),(130,sa0),(131,sa2),(132,sa2)],[(2,sa14),(5,sa16),(1000100,sa8)]⟩
def jj.cn_r:Ck:=Ck.ofLoop (S:=Int) (T:=(Int)⊕(Int)) jj.cn_s (fun X=>(q4 X).2.2.2.1) (fun ρ X Q Z=>jj.cn_ (q4 X).2.1 (q4 X).2.2.1 Q (q8 (q8 X)).1 Z) (fun ρ X V Z=>sel V (fun V=>Z 1 (Shape.inj jj.cn_s (X.1,(14:Int),X.2.2.1,X.2.2.2.1,(q4 X).1,(q4 X).2.1,(q4 X).2.2.1,V,(q8 X)))) (fun V=>Z 5 (Shape.inj jj.cn_s (X.1,X.2.1,X.2.2.1,X.2.2.2.1,(q4 X).1,(q4 X).2.1,(q4 X).2.2.1,V,(q8 X)))))
def jj (o:YO) (ub:Int) (uc:Int) (ud:List YO):Option ((Int)×(Int)×(Int)×(List YO)×Unit):=
  bnd (jj.c1 o.1 some) fun y=>
  br y
   (some ((8:Int),ub,uc,ud,()))
   (bnd (jj.c3 o.1 o.2.1 some) fun y1=>
    br y1
     (some ((9:Int),ub,uc,ud,()))
     (bnd (jj.c5 o.1 o.2.2.2.1 ub some) fun y2=>
      br y2
       (some ((10:Int),ub,uc,ud,()))
       (bnd (jj.c7 o.1 o.2.2.1 some) fun y3=>
        br y3
         (some ((11:Int),ub,uc,ud,()))
         (bnd (okIf (decide ((0:Ty.den (Ty.int IntKind.i64))≤o.2.2.2.1)&&decide (o.2.2.2.1<(↑(12:Nat):Int)))) fun y4=>
          bnd (inR (List.length (List.replicate (12:Nat) false)) o.2.2.2.1) fun y5=>
          bnd (idx (List.replicate (12:Nat) false) o.2.2.2.1) fun y6=>
          bnd (iter (fun s↦jj.ct_ o.2.2.1 (↑(List.length o.2.2.1):Int) s.1 s.2 ub some) ((0:Int),List.set (List.replicate (12:Nat) false) (Int.toNat o.2.2.2.1) true)) fun y7=>
          sel y7
           (fun u=>some (u.1,ub,uc,ud,()))
           (fun v=>bnd (jj.c20 o.1 o.2.2.2.2.1 uc some) fun y8=>
            br y8
             (some ((13:Int),ub,uc,ud,()))
             (br (decide ((↑(List.length o.2.2.2.2.2):Int)>24))
               (some ((14:Int),ub,uc,ud,()))
               (bnd (iter (fun s↦jj.cn_ o.2.2.2.2.2 (↑(List.length o.2.2.2.2.2):Int) s uc some) (0:Int)) fun y9=>
                sel y9
                 (fun u_1=>some ((14:Int),ub,uc,ud,()))
                 (fun v_1=>some ((0:Int),ub,uc,ud,())))))))))
def jj.mc:MCallee:=⟨111,jj.pre,jj.post,fun X=>jj X.1 X.2.1 X.2.2.1 X.2.2.2.1⟩
def jj.G:Env:=⟨156,tab,[(138,JG.ce),(139,JP.ce)],[0,1,2,4,5,7,9,17,36,58,68,74,75,76,77,80,91,124,128,130,131,132,133,154],[5,69],[(20,[⟨[],[],[],[]⟩,⟨[0],[],[],[]⟩,⟨[1,0],[],[],[]⟩,⟨[2,1,0],[],[],[]⟩,⟨[3,2,1,0],[],[],[]⟩,⟨[4,3,2,1,0],[],[],[]⟩,⟨[5,4,3,2,1,0],[],[],[]⟩,⟨[6,5,4,3,2,1,0],[],[],[]⟩,⟨[7,6,5,4,3,2,1,0],[],[108,109,110,111],[]⟩,⟨[8,7,6,5,4,3,2,1,0],[],[108,109,110,111],[]⟩,⟨[7,6,5,4,3,2,1,0],[],[106,107],[]⟩,⟨[10,7,6,5,4,3,2,1,0],[],[106,107],[]⟩,⟨[11,10,7,6,5,4,3,2,1,0],[],[106,107],[]⟩,⟨[12,11,10,7,6,5,4,3,2,1,0],[],[106,107],[]⟩,⟨[9,8,7,6,5,4,3,2,1,0,13,12,11,10],[],[],[]⟩,⟨[7,6,5,4,3,2,1,0,14,9,8,13,12,11,10],[],[],[]⟩,⟨[3,2,1,0,15,7,6,5,4,14,9,8,13,12,11,10],[],[],[]⟩,⟨[16,3,2,1,0,15,7,6,5,4,14,9,8,13,12,11,10],[],[],[]⟩,⟨[17,16,3,2,1,0,15,7,6,5,4,14,9,8,13,12,11,10],[],[],[]⟩,⟨[18,17,16,3,2,1,0,15,7,6,5,4,14,9,8,13,12,11,10],[],[],[]⟩,⟨[19,18,17,16,3,2,1,0,15,7,6,5,4,14,9,8,13,12,11,10],[],[],[]⟩,⟨[20,19,18,17,16,3,2,1,0,15,7,6,5,4,14,9,8,13,12,11,10],[],[],[]⟩,⟨[21,20,19,18,17,16,3,2,1,0,15,7,6,5,4,14,9,8,13,12,11,10],[],[],[]⟩,⟨[22,21,20,19,18,17,16,3,2,1,0,15,7,6,5,4,14,9,8,13,12,11,10],[],[],[]⟩,⟨[23,22,21,20,19,18,17,16,3,2,1,0,15,7,6,5,4,14,9,8,13,12,11,10],[],[],[]⟩,⟨[21,20,19,18,17,16,3,2,1,0,15,7,6,5,4,14,9,8,13,12,11,10,24,23,22],[],[],[]⟩,⟨[17,16,3,2,1,0,15,7,6,5,4,14,9,8,13,12,11,10,25,21,20,19,18,24,23,22],[],[],[]⟩]),
  (5,[⟨[],[],[],[]⟩,⟨[0],[],[],[]⟩,⟨[1,0],[],[],[]⟩,⟨[2,1,0],[],[],[]⟩,⟨[3,2,1,0],[],[43,44,45,46],[]⟩,⟨[4,3,2,1,0],[],[43,44,45,46],[]⟩,⟨[3,2,1,0],[],[41,42],[]⟩,⟨[6,3,2,1,0],[],[41,42],[]⟩,⟨[7,6,3,2,1,0],[],[41,42],[]⟩,⟨[8,7,6,3,2,1,0],[],[41,42],[]⟩,⟨[5,4,3,2,1,0,9,8,7,6],[],[],[]⟩,⟨[3,2,1,0,10,5,4,9,8,7,6],[],[],[]⟩,⟨[11,3,2,1,0,10,5,4,9,8,7,6],[],[],[]⟩,⟨[12,11,3,2,1,0,10,5,4,9,8,7,6],[],[],[]⟩,⟨[13,12,11,3,2,1,0,10,5,4,9,8,7,6],[],[],[]⟩,⟨[14,13,12,11,3,2,1,0,10,5,4,9,8,7,6],[],[],[]⟩,⟨[15,14,13,12,11,3,2,1,0,10,5,4,9,8,7,6],[],[],[]⟩,⟨[16,15,14,13,12,11,3,2,1,0,10,5,4,9,8,7,6],[],[],[]⟩,⟨[17,16,15,14,13,12,11,3,2,1,0,10,5,4,9,8,7,6],[],[],[]⟩,⟨[18,17,16,15,14,13,12,11,3,2,1,0,10,5,4,9,8,7,6],[],[],[]⟩,⟨[16,15,14,13,12,11,3,2,1,0,10,5,4,9,8,7,6,19,18,17],[],[],[]⟩,⟨[12,11,3,2,1,0,10,5,4,9,8,7,6,20,16,15,14,13,19,18,17],[],[],[]⟩])],[(100025,jj.cn_r),(27,jj.c27r),(20,jj.c20r),(100012,jj.ct_r),(14,jj.c14r),(7,jj.c7r),(5,jj.c5r),(3,jj.c3r),(1,jj.c1r)],[],jI,[]⟩
theorem jj.p0:PcA jj.G Tryz.f111 0:=
  js (s:=jj.c1r) (by kernel_rfl) (by kernel_rfl) (jp (sh:=jj.c1s) (fun ρ X Z=>(jg jc jc)) (fun ρ X t k=>(by kernel_rfl)) (fun X=>by kernel_rfl))
theorem jj.p1:PcA jj.G Tryz.f111 1:=
  js (s:=jj.c3r) (by kernel_rfl) (by kernel_rfl) (jp (sh:=jj.c1s) (fun ρ X Z=>(jg jc (jg jc (jb fun _=>(jg jc jc))))) (fun ρ X t k=>(by kernel_rfl)) (fun X=>by kernel_rfl))
theorem jj.p2:PcA jj.G Tryz.f111 2:=
  js (s:=jj.c5r) (by kernel_rfl) (by kernel_rfl) (jp (sh:=jj.c1s) (fun ρ X Z=>(jg jc (jg jc (jg jc jc)))) (fun ρ X t k=>(by kernel_rfl)) (fun X=>by kernel_rfl))
theorem jj.p3:PcA jj.G Tryz.f111 3:=
  js (s:=jj.c7r) (by kernel_rfl) (by kernel_rfl) (jp (sh:=jj.c1s) (fun ρ X Z=>(jg (jb fun _=>jc) jc)) (fun ρ X t k=>(by kernel_rfl)) (fun X=>by kernel_rfl))
theorem jj.p4:PcA jj.G Tryz.f111 4:=
  Jf (s:=jj.ct_r) (by kernel_rfl) (by kernel_rfl) (jW (sh:=jj.ct_s) (I:=fun X Q=>(X.1,X.2.1,X.2.2.1,X.2.2.2.1,Q.1,(q4 X).2.1,(q4 X).2.2.1,(q4 X).2.2.2.1,(q8 X).1,(q8 X).2.1,(q8 X).2.2.1,Q.2,(q4 (q8 X)))) (fun X=>rfl) (fun ρ X Q Z=>(jg (jb fun _=>(jb fun _=>(jg jc (jb fun _=>(jb fun _=>(jb fun _=>(jg jc (jb fun _=>(jb fun _=>(jb fun _=>jc)))))))))) jc)) (fun ρ X t k=>(kr (fun _=>(by kernel_rfl)) (fun _=>(by kernel_rfl)))) (fun X s=>by kernel_rfl))
theorem jj.p5:PcA jj.G Tryz.f111 5:=
  js (s:=jj.c14r) (by kernel_rfl) (by kernel_rfl) (jp (sh:=jj.c14s) (fun ρ X Z=>(jg jc jc)) (fun ρ X t k=>(by kernel_rfl)) (fun X=>by kernel_rfl))
theorem jj.p6:PcA jj.G Tryz.f111 6:=
  js (s:=jj.c20r) (by kernel_rfl) (by kernel_rfl) (jp (sh:=jj.ct_s) (fun ρ X Z=>(jg (jg jc (jg jc (jg jc jc))) (jg jc jc))) (fun ρ X t k=>(by kernel_rfl)) (fun X=>by kernel_rfl))
theorem jj.p7:PcA jj.G Tryz.f111 7:=
  Jf (s:=jj.cn_r) (by kernel_rfl) (by kernel_rfl) (jW (sh:=jj.cn_s) (I:=fun X Q=>(X.1,X.2.1,X.2.2.1,X.2.2.2.1,(q4 X).1,(q4 X).2.1,(q4 X).2.2.1,Q,(q8 X))) (fun X=>rfl) (fun ρ X Q Z=>(jg (jb fun _=>(jb fun _=>(jg jc jc))) jc)) (fun ρ X t k=>(kr (fun _=>(by kernel_rfl)) (fun _=>(by kernel_rfl)))) (fun X s=>by kernel_rfl))
theorem jj.p8:PcA jj.G Tryz.f111 8:=
  js (s:=jj.c27r) (by kernel_rfl) (by kernel_rfl) (jp (sh:=jj.c27s) (fun ρ X Z=>(jg jc (jg jc jc))) (fun ρ X t k=>(by kernel_rfl)) (fun X=>by kernel_rfl))
theorem jj.ok:MOk Tryz.prog 111 jj.mc:=YU (mc:=jj.mc) (G:=jj.G) jX mixed Tryz.func111 ⟨(jn JG.ok (jn JP.ok jK)),jE,jq,jD⟩ (m:=9) (by kernel_rfl) ⟨⟨⟨⟨⟨⟨⟨⟨⟨trivial,jj.p0⟩,jj.p1⟩,jj.p2⟩,jj.p3⟩,jj.p4⟩,jj.p5⟩,jj.p6⟩,jj.p7⟩,jj.p8⟩ (by kernel_rfl) (fun _=>by kernel_rfl)
abbrev sa17:SO:=.box [.val (.int .i64),.val (.int .i64)]
abbrev sa18:SD:=.one (.val (.sl (.st (.pair (.int .i64) (.pair (.int .i64) (.pair (.sl (.int .i64)) (.pair (.int .i64) (.pair (.int .i64) (.sl (.int .i64))))))))))
def jP.c1 (c0:Int)(Z:Bool→Option ρ):Option ρ:=
  br (decide (c0<1))
   (Z true)
   (Z (decide (c0>12)))
def jP.c1s:Shape:=⟨[(0,sa4),(1,sa5),(2,sa6)],[(1,sa8),(2,sa17)]⟩
def jP.c1x0:Shape:=⟨[(0,sa4),(1,sa5),(2,sa6),(6,sa11)],[(1,sa8),(2,sa17)]⟩
def jP.c1r:Ck:=Ck.of (T:=Bool) jP.c1s (fun ρ X Z=>jP.c1 X.2.1 Z) (fun ρ X V Z=>Z 0 (Shape.inj jP.c1x0 (X.1,V,X.2)))
def jP.c3 (c1:Int)(Z:Bool→Option ρ):Option ρ:=
  br (decide (c1<0))
   (Z true)
   (Z (decide (c1>12)))
def jP.c3x0:Shape:=⟨[(0,sa4),(1,sa5),(2,sa6),(16,sa11)],[(1,sa8),(2,sa17)]⟩
def jP.c3r:Ck:=Ck.of (T:=Bool) jP.c1s (fun ρ X Z=>jP.c3 X.2.2.1 Z) (fun ρ X V Z=>Z 0 (Shape.inj jP.c3x0 (X.1,V,X.2)))
def jP.cf_ (t33:List YO)(t34:Int)(t35:Int)(c0:Int)(c1:Int)(c2:List YO)(Z:((Int)×(Int)×(Int)×(List YO))⊕(((Int)×(Int)×(Int)×(List YO)×(Int)×(Int))⊕((Int)×(Int)×(Int)×(List YO)))→Option ρ):Option ρ:=
  br (decide (t35<t34))
   (bnd (idx t33 t35) fun y=>
    bnd (jj (y.1,y.2.1,y.2.2.1,y.2.2.2.1,y.2.2.2.2.1,y.2.2.2.2.2) c0 c1 c2) fun y1=>
    br (y1.1 !=0)
     (bnd (kq y1.1 t35) fun y2=>
      Z (.inr (.inl (t35,y1.2.1,y1.2.2.1,y1.2.2.2.1,y2.1,y2.2))))
     (Z (.inl ((i64.wrap (t35+1)),y1.2.1,y1.2.2.1,y1.2.2.2.1))))
   (Z (.inr (.inr (t35,c0,c1,c2))))
def jP.cf_s:Shape:=⟨[(0,sa4),(1,sa5),(2,sa6),(33,sa18),(34,sa2),(35,sa2)],[(1,sa8),(2,sa17)]⟩
def jP.cf_r:Ck:=Ck.ofLoop (S:=(Int)×(Int)×(Int)×(List YO)) (T:=((Int)×(Int)×(Int)×(List YO)×(Int)×(Int))⊕((Int)×(Int)×(Int)×(List YO))) jP.cf_s (fun X=>(X.2.2.2.1,(q4 X).1,(q4 X).2.1,(q4 X).2.2.1)) (fun ρ X Q Z=>jP.cf_ X.2.1 X.2.2.1 Q.1 Q.2.1 Q.2.2.1 Q.2.2.2 Z) (fun ρ X V Z=>sel V (fun V=>Z 1 (Shape.inj jP.cf_s (X.1,X.2.1,X.2.2.1,V.1,V.2.1,V.2.2.1,V.2.2.2.1,V.2.2.2.2.1,V.2.2.2.2.2,()))) (fun V=>Z 3 (Shape.inj jP.cf_s (X.1,X.2.1,X.2.2.1,V.1,V.2.1,V.2.2.1,V.2.2.2,(q4 X).2.2.2))))
def jP (c:(Int)×((Int)×(List YO))):Option ((Int)×(Int)):=
  bnd (jP.c1 c.1 some) fun y=>
  br y
   (bnd (kq (6:Int) (0:Int)) fun y1=>
    some (y1.1,y1.2))
   (bnd (jP.c3 c.2.1 some) fun y2=>
    br y2
     (bnd (kq (7:Int) (0:Int)) fun y3=>
      some (y3.1,y3.2))
     (br (decide ((↑(List.length c.2.2):Int)>4096))
       (bnd (kq (2:Int) (0:Int)) fun y4=>
        some (y4.1,y4.2))
       (bnd (iter (fun s↦jP.cf_ c.2.2 (↑(List.length c.2.2):Int) s.1 s.2.1 s.2.2.1 s.2.2.2 some) ((0:Int),c.1,c.2.1,c.2.2)) fun y5=>
        sel y5
         (fun u=>some (u.2.2.2.2.1,u.2.2.2.2.2))
         (fun v=>some ((0:Int),(0:Int))))))
def jP.ce:Go.Ql.Callee:=⟨[(.st (.pair (.int .i64) (.pair (.int .i64) (.sl (.st (.pair (.int .i64) (.pair (.int .i64) (.pair (.sl (.int .i64)) (.pair (.int .i64) (.pair (.int .i64) (.sl (.int .i64))))))))))))],[(.st (.pair (.int .i64) (.int .i64)))],fun X=>jP X⟩
def jP.G:Env:=⟨49,tab,[(110,kq.ce)],[0,1,2,3,4,5,6,16,26,33,34,35,36,43],[],[],[(100008,jP.cf_r),(3,jP.c3r),(1,jP.c1r)],[(111,jj.mc)],jI,[]⟩
theorem jP.p0:PcA jP.G Tryz.f78 0:=
  js (s:=jP.c1r) (by kernel_rfl) (by kernel_rfl) (jp (sh:=jP.c1s) (fun ρ X Z=>(jg jc jc)) (fun ρ X t k=>(by kernel_rfl)) (fun X=>by kernel_rfl))
theorem jP.p1:PcA jP.G Tryz.f78 1:=
  js (s:=jP.c3r) (by kernel_rfl) (by kernel_rfl) (jp (sh:=jP.c1s) (fun ρ X Z=>(jg jc jc)) (fun ρ X t k=>(by kernel_rfl)) (fun X=>by kernel_rfl))
theorem jP.p2:PcA jP.G Tryz.f78 2:=
  Jf (s:=jP.cf_r) (by kernel_rfl) (by kernel_rfl) (jW (sh:=jP.cf_s) (I:=fun X Q=>(X.1,X.2.1,X.2.2.1,Q.1,Q.2.1,Q.2.2.1,Q.2.2.2,(q4 X).2.2.2)) (fun X=>rfl) (fun ρ X Q Z=>(jg (jb fun _=>(jb fun _=>(jg (jb fun _=>jc) jc))) jc)) (fun ρ X t k=>(kr (fun _=>(by kernel_rfl)) (fun _=>(by kernel_rfl)))) (fun X s=>by kernel_rfl))
theorem jP.ok:CalleeOk Tryz.prog 78 jP.ce:=fn_ok (G:=jP.G) jX mixed Tryz.func78 ⟨(jn kq.ok jK),(kP jj.ok jE),jq,jD⟩ (m:=3) (by kernel_rfl) ⟨⟨⟨trivial,jP.p0⟩,jP.p1⟩,jP.p2⟩ (by kernel_rfl) (fun _=>by kernel_rfl)
def JZ (code:Int) (t1:Int):Option ((Int)×(Int)):=
  some (code,t1)
def JZ.ce:Go.Ql.Callee:=⟨[(.int .i64),(.int .i64)],[(.st (.pair (.int .i64) (.int .i64)))],fun X=>JZ X.1 X.2⟩
def JZ.G:Env:=⟨8,tab,[],[0,1,4],[],[],[],[],jI,[]⟩
theorem JZ.ok:CalleeOk Tryz.prog 48 JZ.ce:=fn_ok (G:=JZ.G) jX mixed Tryz.func48 ⟨jK,jE,jq,jD⟩ (m:=0) (by kernel_rfl) trivial (by kernel_rfl) (fun _=>by kernel_rfl)
abbrev sa19:SD:=.one (.val (.sl (.int .u32)))
abbrev sa20:SD:=.one (.ref 4 0)
abbrev sa21:SO:=.box [.val .bool,.val (.sl (.int .u32))]
def whole_made.c2 (mag:List (Int))(n:Int)(Z:Bool→Option ρ):Option ρ:=
  br (decide (n>0))
   (bnd (idx mag (i64.wrap (n-1))) fun y=>
    Z (y==0))
   (Z false)
def whole_made.c2s:Shape:=⟨[(0,sa11),(1,sa19),(4,sa20),(5,sa2)],[(4,sa21)]⟩
def whole_made.c2x0:Shape:=⟨[(0,sa11),(1,sa19),(4,sa20),(5,sa2),(17,sa11)],[(4,sa21)]⟩
def whole_made.c2r:Ck:=Ck.of (T:=Bool) whole_made.c2s (fun ρ X Z=>whole_made.c2 X.2.1 X.2.2.1 Z) (fun ρ X V Z=>Z 0 (Shape.inj whole_made.c2x0 (X.1,X.2.1,X.2.2.1,V,X.2.2.2)))
def whole_made.cc_ (mag:List (Int))(n:Int)(Z:(Int)⊕(Int)→Option ρ):Option ρ:=
  bnd (whole_made.c2 mag n some) fun y=>
  br y
   (Z (.inl (i64.wrap (n-1))))
   (Z (.inr n))
def whole_made.cc_r:Ck:=Ck.ofLoop (S:=Int) (T:=Int) whole_made.c2s (fun X=>X.2.2.1) (fun ρ X Q Z=>whole_made.cc_ X.2.1 Q Z) (fun ρ X V Z=>Z 2 (Shape.inj whole_made.c2s (X.1,X.2.1,V,X.2.2.2)))
def whole_made (neg:Bool) (mag:List (Int)):Option (Bool×(List Int)):=
  bnd (iter (fun s↦whole_made.cc_ mag s some) ↑(mag.length)) fun y=>
  br (y==0)
   (some (false,[]))
   (bnd (okIf (decide ((0:Int)≤y)&&decide (y≤y)&&decide (y≤(mag.length:Int)))) fun y1=>
    some (neg,List.take (Int.toNat y) mag))
def whole_made.ce:Go.Ql.Callee:=⟨[.bool,(.sl (.int .u32))],[(.st (.pair .bool (.sl (.int .u32))))],fun X=>whole_made X.1 X.2⟩
def whole_made.G:Env:=⟨29,tab,[],[0,1,4,5,17,21],[],[],[(100002,whole_made.cc_r),(2,whole_made.c2r)],[],jI,[]⟩
theorem whole_made.p0:PcA whole_made.G Tryz.f121 0:=
  Jf (s:=whole_made.cc_r) (by kernel_rfl) (by kernel_rfl) (jW (sh:=whole_made.c2s) (I:=fun X Q=>(X.1,X.2.1,Q,X.2.2.2)) (fun X=>rfl) (fun ρ X Q Z=>(jb fun _=>(jg jc jc))) (fun ρ X t k=>(by kernel_rfl)) (fun X s=>by kernel_rfl))
theorem whole_made.p1:PcA whole_made.G Tryz.f121 1:=
  js (s:=whole_made.c2r) (by kernel_rfl) (by kernel_rfl) (jp (sh:=whole_made.c2s) (fun ρ X Z=>(jg (jb fun _=>jc) jc)) (fun ρ X t k=>(by kernel_rfl)) (fun X=>by kernel_rfl))
theorem whole_made.ok:CalleeOk Tryz.prog 121 whole_made.ce:=fn_ok (G:=whole_made.G) jX mixed Tryz.func121 ⟨jK,jE,jq,jD⟩ (m:=2) (by kernel_rfl) ⟨⟨trivial,whole_made.p0⟩,whole_made.p1⟩ (by kernel_rfl) (fun _=>by kernel_rfl)
abbrev sa22:SD:=.one (.val (.int .u64))
def whole_Of.cm_ (n:Int)(u:Int)(Z:Int→Option ρ):Option ρ:=
  br (decide (n<0))
   (Z (u64.wrap ((0:Int)-u)))
   (Z u)
def whole_Of.cm_s:Shape:=⟨[(0,sa2),(2,sa6),(3,sa22)],[(2,sa21)]⟩
def whole_Of.cm_r:Ck:=Ck.of (T:=Int) whole_Of.cm_s (fun ρ X Z=>whole_Of.cm_ X.1 X.2.1 Z) (fun ρ X V Z=>Z 0 (Shape.inj whole_Of.cm_s (X.1,V,X.2.2)))
def whole_Of (n:Int):Option (Bool×(List Int)):=
  bnd (whole_Of.cm_ n (IntKind.wrap IntKind.u64 n) some) fun y=>
  bnd (whole_made (decide (n<0)) [IntKind.wrap IntKind.u32 y,u32.wrap (Int.fdiv y ((2:Int) ^32))]) fun y1=>
  some (y1.1,y1.2)
def whole_Of.ce:Go.Ql.Callee:=⟨[(.int .i64)],[(.st (.pair .bool (.sl (.int .u32))))],fun X=>whole_Of X⟩
def whole_Of.G:Env:=⟨19,tab,[(121,whole_made.ce)],[0,2,3,7],[],[],[(208197,whole_Of.cm_r)],[],jI,[]⟩
theorem whole_Of.p0:PcA whole_Of.G Tryz.f152 0:=
  JR (s:=whole_Of.cm_r) (by kernel_rfl) (by kernel_rfl) (jp (sh:=whole_Of.cm_s) (fun ρ X Z=>(jg jc jc)) (fun ρ X t k=>(by kernel_rfl)) (fun X=>by kernel_rfl))
theorem whole_Of.ok:CalleeOk Tryz.prog 152 whole_Of.ce:=fn_ok (G:=whole_Of.G) jX mixed Tryz.func152 ⟨(jn whole_made.ok jK),jE,jq,jD⟩ (m:=1) (by kernel_rfl) ⟨trivial,whole_Of.p0⟩ (by kernel_rfl) (fun _=>by kernel_rfl)
def kS  : Option YN:=
  bnd (whole_Of (1:Int)) fun y=>
  some (List.set (List.replicate (8:Nat) (false,[])) (0:Nat) y,(0:Int))
def kS.ce:Go.Ql.Callee:=⟨[],[(.st (.pair (.ar 8 (.st (.pair .bool (.sl (.int .u32))))) (.int .i64)))],fun X=>kS⟩
def kS.G:Env:=⟨4,tab,[(152,whole_Of.ce)],[0],[0,3],[],[],[],jI,[]⟩
theorem kS.ok:CalleeOk Tryz.prog 140 kS.ce:=fn_ok (G:=kS.G) jX mixed Tryz.func140 ⟨(jn whole_Of.ok jK),jE,jq,jD⟩ (m:=0) (by kernel_rfl) trivial (by kernel_rfl) (fun _=>by kernel_rfl)
def whole_Int_Neg (a:Bool×(List Int)):Option (Bool×(List Int)):=
  bnd (whole_made (!a.1) a.2) fun y=>
  some (y.1,y.2)
def whole_Int_Neg.ce:Go.Ql.Callee:=⟨[(.st (.pair .bool (.sl (.int .u32))))],[(.st (.pair .bool (.sl (.int .u32))))],fun X=>whole_Int_Neg X⟩
def whole_Int_Neg.G:Env:=⟨9,tab,[(121,whole_made.ce)],[0,1,2],[],[],[],[],jI,[]⟩
theorem whole_Int_Neg.ok:CalleeOk Tryz.prog 116 whole_Int_Neg.ce:=fn_ok (G:=whole_Int_Neg.G) jX mixed Tryz.func116 ⟨(jn whole_made.ok jK),jE,jq,jD⟩ (m:=0) (by kernel_rfl) trivial (by kernel_rfl) (fun _=>by kernel_rfl)
abbrev sa23:SD:=.one (.val (.st (.pair (.ar 8 (.st (.pair .bool (.sl (.int .u32))))) (.int .i64))))
abbrev sa24:SD:=.one (.fptr (.st (.pair (.ar 8 (.st (.pair .bool (.sl (.int .u32))))) (.int .i64))))
abbrev sa25:SD:=.one (.aptr 4 0)
abbrev sa26:SD:=.one (.ref 7 0)
abbrev sa27:SD:=.one (.val (.ar 8 (.st (.pair .bool (.sl (.int .u32))))))
abbrev sa28:SO:=.arr 0 false 71 (.st (.pair (.ar 8 (.st (.pair .bool (.sl (.int .u32))))) (.int .i64)))
def jA.cs_ (t1:Int)(i:Int)(x0:Bool)(x1:List (Int))(Z:Bool×(List Int)→Option ρ):Option ρ:=
  br (ibits BinOp.and IntKind.i64 (i64.wrap (i+t1)) (8:Int) !=0)
   (bnd (whole_Int_Neg (x0,x1)) fun y=>
    Z (y.1,y.2))
   (Z (x0,x1))
def jA.cs_s:Shape:=⟨[(0,sa23),(1,sa2),(2,sa24),(4,sa25),(5,sa15),(6,sa2),(7,sa26),(14,sa27),(15,sa2)],[(4,sa28),(5,sa28),(7,sa21)]⟩
def jA.cs_r:Ck:=Ck.of (T:=Bool×(List Int)) jA.cs_s (fun ρ X Z=>jA.cs_ X.2.1 X.2.2.2.1 (q8 X).1 (q8 X).2.1 Z) (fun ρ X V Z=>Z 0 (Shape.inj jA.cs_s (X.1,X.2.1,X.2.2.1,X.2.2.2.1,(q4 X).1,(q4 X).2.1,(q4 X).2.2.1,(q4 X).2.2.2.1,V.1,V.2,())))
def jA.cb_ (t1:Int)(t14:List (Bool×(List Int)))(t15:Int)(out:List YN)(Z:((Int)×(List YN))⊕((Int)×(List YN))→Option ρ):Option ρ:=
  br (decide (t15<8))
   (bnd (idx t14 t15) fun y=>
    bnd (jA.cs_ t1 t15 y.1 y.2 some) fun y1=>
    bnd (inR (out.length) (0:Int)) fun y2=>
    bnd (okIf (decide ((0:Ty.den (Ty.int IntKind.i64))≤ibits BinOp.and IntKind.i64 (i64.wrap (t15+t1)) (7:Int))&&decide (ibits BinOp.and IntKind.i64 (i64.wrap (t15+t1)) (7:Int)<(↑(8:Nat):Int)))) fun y3=>
    bnd (idx out (0:Int)) fun y4=>
    bnd (idx y4.1 (ibits BinOp.and IntKind.i64 (i64.wrap (t15+t1)) (7:Int))) fun y5=>
    Z (.inl ((i64.wrap (t15+1)),(List.set out (0:Nat) (List.set y4.1 (Int.toNat (ibits BinOp.and IntKind.i64 (i64.wrap (t15+t1)) (7:Int))) (y1.1,y1.2),y4.2)))))
   (Z (.inr (t15,out)))
def jA.cb_s:Shape:=⟨[(0,sa23),(1,sa2),(2,sa24),(4,sa25),(5,sa15),(14,sa27),(15,sa2)],[(4,sa28),(5,sa28)]⟩
def jA.cb_r:Ck:=Ck.ofLoop (S:=(Int)×(List YN)) (T:=(Int)×(List YN)) jA.cb_s (fun X=>((q4 X).1,(q4 X).2.2.1)) (fun ρ X Q Z=>jA.cb_ X.2.1 X.2.2.2.1 Q.1 Q.2 Z) (fun ρ X V Z=>Z 2 (Shape.inj jA.cb_s (X.1,X.2.1,X.2.2.1,X.2.2.2.1,V.1,(q4 X).2.1,V.2,())))
def jA (a:YN) (t1:Int):Option YN:=
  bnd (iter (fun s↦jA.cb_ (ibits BinOp.and IntKind.i64 t1 (15:Int)) a.1 s.1 s.2 some) ((0:Int),[(List.replicate (8:Nat) (false,[]),a.2)])) fun y=>
  bnd (idx y.2 (0:Int)) fun y1=>
  some y1
def jA.ce:Go.Ql.Callee:=⟨[(.st (.pair (.ar 8 (.st (.pair .bool (.sl (.int .u32))))) (.int .i64))),(.int .i64)],[(.st (.pair (.ar 8 (.st (.pair .bool (.sl (.int .u32))))) (.int .i64)))],fun X=>jA X.1 X.2⟩
def jA.G:Env:=⟨35,tab,[(116,whole_Int_Neg.ce)],[0,1,2,4,5,6,7,14,15,16,23],[4,5,12,8000002],[],[(100004,jA.cb_r),(224581,jA.cs_r)],[],jI,[]⟩
theorem jA.p0:PcA jA.G Tryz.f134 0:=
  Jf (s:=jA.cb_r) (by kernel_rfl) (by kernel_rfl) (jW (sh:=jA.cb_s) (I:=fun X Q=>(X.1,X.2.1,X.2.2.1,X.2.2.2.1,Q.1,(q4 X).2.1,Q.2,())) (fun X=>rfl) (fun ρ X Q Z=>(jg (jb fun _=>(jb fun _=>(jb fun _=>(jb fun _=>(jb fun _=>(jb fun _=>jc)))))) jc)) (fun ρ X t k=>(by kernel_rfl)) (fun X s=>by kernel_rfl))
theorem jA.p1:PcA jA.G Tryz.f134 1:=
  JR (s:=jA.cs_r) (by kernel_rfl) (by kernel_rfl) (jp (sh:=jA.cs_s) (fun ρ X Z=>(jg (jb fun _=>jc) jc)) (fun ρ X t k=>(by kernel_rfl)) (fun X=>by kernel_rfl))
theorem jA.ok:CalleeOk Tryz.prog 134 jA.ce:=fn_ok (G:=jA.G) jX mixed Tryz.func134 ⟨(jn whole_Int_Neg.ok jK),jE,jq,jD⟩ (m:=2) (by kernel_rfl) ⟨⟨trivial,jA.p0⟩,jA.p1⟩ (by kernel_rfl) (fun _=>by kernel_rfl)
def kK (t0:Int):Option YN:=
  bnd kS fun y=>
  bnd (jA y t0) fun y1=>
  some y1
def kK.ce:Go.Ql.Callee:=⟨[(.int .i64)],[(.st (.pair (.ar 8 (.st (.pair .bool (.sl (.int .u32))))) (.int .i64)))],fun X=>kK X⟩
def kK.G:Env:=⟨6,tab,[(140,kS.ce),(134,jA.ce)],[0,2],[2],[],[],[],jI,[]⟩
theorem kK.ok:CalleeOk Tryz.prog 112 kK.ce:=fn_ok (G:=kK.G) jX mixed Tryz.func112 ⟨(jn kS.ok (jn jA.ok jK)),jE,jq,jD⟩ (m:=0) (by kernel_rfl) trivial (by kernel_rfl) (fun _=>by kernel_rfl)
abbrev sa29:SD:=.one (.own 0 0)
def JY.pre:Shape:=⟨[(0,sa2),(1,sa2)],[]⟩
def JY.post:Shape:=⟨[(0,sa29)],[(0,sa28)]⟩
def JY (qubits:Int) (t1:Int):Option ((List YN)×Unit):=
  bnd (okIf (decide ((0:Int)≤qubits))) fun y=>
  bnd (okIf (decide ((0:Int)≤i64.wrap ((1:Int)*2^Min.min (Int.toNat qubits) (64:Nat)))&&decide (i64.wrap ((1:Int)*2^Min.min (Int.toNat qubits) (64:Nat))≤i64.wrap ((1:Int)*2^Min.min (Int.toNat qubits) (64:Nat)))&&decide (i64.wrap ((1:Int)*2^Min.min (Int.toNat qubits) (64:Nat))*(↑(264:Nat):Int)≤140737488355328)&&decide (i64.wrap ((1:Int)*2^Min.min (Int.toNat qubits) (64:Nat))≤140737488355328))) fun y1=>
  bnd (kK (0:Int)) fun y2=>
  bnd (inR (List.length (List.replicate (Int.toNat (i64.wrap ((1:Int)*2^Min.min (Int.toNat qubits) (64:Nat)))) (List.replicate (8:Nat) (false,([]:List (Ty.den (Ty.int IntKind.u32)))),(0:Int)))) t1) fun y3=>
  bnd (idx (List.replicate (Int.toNat (i64.wrap ((1:Int)*2^Min.min (Int.toNat qubits) (64:Nat)))) (List.replicate (8:Nat) (false,([]:List (Ty.den (Ty.int IntKind.u32)))),(0:Int))) t1) fun y4=>
  some (List.set (List.replicate (Int.toNat (i64.wrap ((1:Int)*2^Min.min (Int.toNat qubits) (64:Nat)))) (List.replicate (8:Nat) (false,([]:List (Ty.den (Ty.int IntKind.u32)))),(0:Int))) (Int.toNat t1) y2,())
def JY.mc:MCallee:=⟨79,JY.pre,JY.post,fun X=>JY X.1 X.2.1⟩
def JY.G:Env:=⟨14,tab,[(112,kK.ce)],[0,1,4,5],[4,8],[],[],[],jI,[]⟩
theorem JY.ok:MOk Tryz.prog 79 JY.mc:=YU (mc:=JY.mc) (G:=JY.G) jX mixed Tryz.func79 ⟨(jn kK.ok jK),jE,jq,jD⟩ (m:=0) (by kernel_rfl) trivial (by kernel_rfl) (fun _=>by kernel_rfl)
abbrev sa30:SD:=.one (.ref 0 0)
abbrev sa31:SD:=.one (.val (.st (.pair (.int .i64) (.int .i64))))
abbrev sa32:SO:=.box [.val (.int .i64),.val (.int .i64),.val (.sl (.st (.pair (.int .i64) (.pair (.int .i64) (.pair (.sl (.int .i64)) (.pair (.int .i64) (.pair (.int .i64) (.sl (.int .i64))))))))),.own 1 0,.own 2 0,.val (.int .i64),.val (.int .i64)]
abbrev sa33:SD:=.one (.val (.nilv 0))
abbrev sa34:SD:=.one (.ref 5 0)
abbrev sa35:SD:=.one (.ref 6 0)
abbrev sa36:SD:=.one (.ref 32 0)
abbrev sx33:SO:=.box [.val (.int .i64),.val (.int .i64),.val (.sl (.st (.pair (.int .i64) (.pair (.int .i64) (.pair (.sl (.int .i64)) (.pair (.int .i64) (.pair (.int .i64) (.sl (.int .i64))))))))),.own 27 0,.own 30 0,.val (.int .i64),.val (.int .i64)]
def jF.pre:Shape:=⟨[(0,sa4),(1,sa2)],[]⟩
def jF.post:Shape:=⟨[(0,sa30),(1,sa31)],[(0,sa32),(1,sa28),(2,sa3)]⟩
def jF.post2:Shape:=⟨[(0,sa33),(1,sa31)],[]⟩
def jF.c3  (Z:Unit→Option ρ):Option ρ:=
  Z ()
def jF.c3s:Shape:=⟨[(0,sa4),(1,sa2),(2,sa6),(4,sa33),(5,sa34),(6,sa35)],[(2,sa8),(5,sa17),(6,sa17)]⟩
def jF.c3r:Ck:=Ck.of (T:=Unit) jF.c3s (fun ρ X Z=>jF.c3  Z) (fun ρ X V Z=>Z 0 (Shape.inj jF.c3s (X.1,X.2.1,(),X.2.2.2.1,(q4 X).1,(q4 X).2.1,(q8 X).1,(q8 X).2.1,(q8 X))))
def jF.c4 (t1:Int)(c0:Int)(Z:Bool→Option ρ):Option ρ:=
  br (decide (t1<0))
   (Z true)
   (bnd (okIf (decide ((0:Int)≤c0))) fun y=>
    Z (decide (t1≥i64.wrap ((1:Int)*2^Min.min (Int.toNat c0) (64:Nat)))))
def jF.c4x0:Shape:=⟨[(0,sa4),(1,sa2),(2,sa6),(4,sa33),(5,sa34),(6,sa35),(21,sa11)],[(2,sa8),(5,sa17),(6,sa17)]⟩
def jF.c4r:Ck:=Ck.of (T:=Bool) jF.c3s (fun ρ X Z=>jF.c4 X.2.1 X.2.2.2.1 Z) (fun ρ X V Z=>Z 0 (Shape.inj jF.c4x0 (X.1,X.2.1,X.2.2.1,V,X.2.2.2)))
def jF.c6 (t1:Int)(c0:Int)(c1:Int)(Z:List YN→Option ρ):Option ρ:=
  bnd (JY c0 t1) fun y=>
  bnd (okIf (decide ((0:Int)≤c1)&&decide (c1≤c1)&&decide (c1*(↑(8:Nat):Int)≤140737488355328)&&decide (c1≤140737488355328))) fun y1=>
  Z y.1
def jF.c6x0:Shape:=⟨[(0,sa4),(1,sa2),(2,sa6),(4,sa36),(5,sa34),(6,sa35)],[(2,sa8),(5,sa17),(6,sa17),(27,sa28),(30,sa3),(32,sx33)]⟩
def jF.c6r:Ck:=Ck.of (T:=List YN) jF.c3s (fun ρ X Z=>jF.c6 X.2.1 X.2.2.2.1 (q4 X).1 Z) (fun ρ X V Z=>Z 0 (Shape.inj jF.c6x0 (X.1,X.2.1,X.2.2.2.1,(q4 X).1,(q4 X).2.1,(0:Int),(0:Int),(q8 X).1,(q8 X).2.1,V,(List.replicate (Int.toNat (q4 X).1) (0:Int)),X.2.2.2.1,(q4 X).1,(q4 X).2.1,(0:Int),(0:Int),())))
def jF (c:(Int)×((Int)×(List YO))) (t1:Int):Option ((((Int)×(Int))×(Int)×(Int)×(List YO)×(Int)×(Int)×(List YN)×(List Int)×Unit)⊕((Unit)×((Int)×(Int))×Unit)):=
  bnd (jP (c.1,c.2.1,c.2.2)) fun y=>
  br (y.1 !=0)
   (bnd (jF.c3 some) fun y1=>
    some (Sum.inr ((),(y.1,y.2),())))
   (bnd (jF.c4 t1 c.1 some) fun y2=>
    br y2
     (bnd (JZ (18:Int) (0:Int)) fun y3=>
      some (Sum.inr ((),(y3.1,y3.2),())))
     (bnd (jF.c6 t1 c.1 c.2.1 some) fun y4=>
      some (Sum.inl (((0:Int),(0:Int)),c.1,c.2.1,c.2.2,(0:Int),(0:Int),y4,List.replicate (Int.toNat c.2.1) (0:Int),()))))
def jF.ma:MAlt:=⟨45,jF.pre,jF.post,false,jF.post2,fun X=>jF X.1 X.2.1⟩
def jF.G:Env:=⟨34,tab,[(78,jP.ce),(48,JZ.ce)],[0,1,2,4,5,6,11,21],[27,30,32],[(6,[⟨[],[],[24,25,26,27,28,29,30,33],[27,30]⟩,⟨[],[],[23,26,28,29,30,33],[30]⟩,⟨[1],[],[23,26,28,29,30,33],[30]⟩,⟨[],[],[23,24,25,28,29,30,33],[30]⟩,⟨[2,1,3],[27],[23,28,29,30,33],[30]⟩,⟨[],[],[23,24,25,26,27,33],[27]⟩,⟨[5],[],[23,24,25,26,27,33],[27]⟩,⟨[6,5],[30],[23,24,25,26,27,33],[27]⟩,⟨[0,4,2,1,3,7,6,5],[],[33],[]⟩,⟨[8,0,4,2,1,3,7,6,5],[32],[33],[]⟩,⟨[],[],[23,24,25,26,27,28,29,30,31,32,4],[27,30,32]⟩,⟨[9,8,0,4,2,1,3,7,6,5],[],[33],[]⟩,⟨[10,11,9,8,0,4,2,1,3,7,6,5],[5],[],[]⟩]),
  (3,[⟨[],[],[4],[]⟩,⟨[],[],[12],[]⟩,⟨[0,1],[5],[],[]⟩])],[(6,jF.c6r),(4,jF.c4r),(3,jF.c3r)],[(79,JY.mc)],jI,[]⟩
theorem jF.p0:PcA jF.G Tryz.f45 0:=
  js (s:=jF.c3r) (by kernel_rfl) (by kernel_rfl) (jp (sh:=jF.c3s) (fun ρ X Z=>jc) (fun ρ X t k=>(by kernel_rfl)) (fun X=>by kernel_rfl))
theorem jF.p1:PcA jF.G Tryz.f45 1:=
  js (s:=jF.c4r) (by kernel_rfl) (by kernel_rfl) (jp (sh:=jF.c3s) (fun ρ X Z=>(jg jc (jb fun _=>jc))) (fun ρ X t k=>(by kernel_rfl)) (fun X=>by kernel_rfl))
theorem jF.p2:PcA jF.G Tryz.f45 2:=
  js (s:=jF.c6r) (by kernel_rfl) (by kernel_rfl) (jp (sh:=jF.c3s) (fun ρ X Z=>(jb fun _=>(jb fun _=>jc))) (fun ρ X t k=>(by kernel_rfl)) (fun X=>by kernel_rfl))
theorem jF.ok:AltOk Tryz.prog 45 jF.ma:=fna_ok (ma:=jF.ma) (G:=jF.G) jX mixed Tryz.func45 ⟨(jn jP.ok (jn JZ.ok jK)),(kP JY.ok jE),jq,jD⟩ (m:=3) (by kernel_rfl) ⟨⟨⟨trivial,jF.p0⟩,jF.p1⟩,jF.p2⟩ (by kernel_rfl) (fun _=>by kernel_rfl)
abbrev sa38:SD:=.one (.ref 1000700 0)
abbrev sa39:SO:=.box [.val (.int .i64),.val (.int .i64),.val (.sl (.st (.pair (.int .i64) (.pair (.int .i64) (.pair (.sl (.int .i64)) (.pair (.int .i64) (.pair (.int .i64) (.sl (.int .i64))))))))),.own 2000701 0,.own 2000702 0,.val (.int .i64),.val (.int .i64)]
def jC.pre:Shape:=⟨[(0,sa38),(1,sa12)],[(1000700,sa39),(2000701,sa28),(2000702,sa3)]⟩
def jC.post:Shape:=⟨[(0,sa11)],[(1000700,sa39),(2000701,sa28),(2000702,sa3)]⟩
def jC.c4 (c:Int)(um:List (Int))(Z:Bool→Option ρ):Option ρ:=
  br (decide (c>0))
   (bnd (inR (um.length) (i64.wrap (c-1))) fun y=>
    bnd (idx um (i64.wrap (c-1))) fun y1=>
    br (y1==0)
     (Z true)
     (br (decide (c<0))
       (bnd (inR (um.length) (i64.wrap (i64.wrap ((0:Int)-c)-1))) fun y2=>
        bnd (idx um (i64.wrap (i64.wrap ((0:Int)-c)-1))) fun y3=>
        Z (y3==1))
       (Z false)))
   (br (decide (c<0))
     (bnd (inR (um.length) (i64.wrap (i64.wrap ((0:Int)-c)-1))) fun y4=>
      bnd (idx um (i64.wrap (i64.wrap ((0:Int)-c)-1))) fun y5=>
      Z (y5==1))
     (Z false))
def jC.c4s:Shape:=⟨[(0,sa38),(1,sa12),(3,sa7),(4,sa11),(6,sa2),(8,sa0),(9,sa2),(10,sa2)],[(3,sa14),(1000700,sa39),(2000701,sa28),(2000702,sa3)]⟩
def jC.c4x0:Shape:=⟨[(0,sa38),(1,sa12),(3,sa7),(4,sa11),(6,sa2),(8,sa0),(9,sa2),(10,sa2),(42,sa11)],[(3,sa14),(1000700,sa39),(2000701,sa28),(2000702,sa3)]⟩
def jC.c4r:Ck:=Ck.of (T:=Bool) jC.c4s (fun ρ X Z=>jC.c4 X.2.2.1 (q8 (q8 X)).2.2.1 Z) (fun ρ X V Z=>Z 0 (Shape.inj jC.c4x0 (X.1,X.2.1,X.2.2.1,X.2.2.2.1,(q4 X).1,(q4 X).2.1,V,(q4 X).2.2)))
def jC.cc_ (t8:List (Int))(t9:Int)(t10:Int)(um:List (Int))(Z:(Int)⊕((Int)⊕(Int))→Option ρ):Option ρ:=
  br (decide (t10<t9))
   (bnd (idx t8 t10) fun y=>
    bnd (jC.c4 y um some) fun y1=>
    br y1
     (Z (.inr (.inl t10)))
     (Z (.inl (i64.wrap (t10+1)))))
   (Z (.inr (.inr t10)))
def jC.cc_s:Shape:=⟨[(0,sa38),(1,sa12),(3,sa7),(4,sa11),(8,sa0),(9,sa2),(10,sa2)],[(3,sa14),(1000700,sa39),(2000701,sa28),(2000702,sa3)]⟩
def jC.cc_r:Ck:=Ck.ofLoop (S:=Int) (T:=(Int)⊕(Int)) jC.cc_s (fun X=>(q4 X).1) (fun ρ X Q Z=>jC.cc_ X.2.2.1 X.2.2.2.1 Q (q8 (q8 X)).2.1 Z) (fun ρ X V Z=>sel V (fun V=>Z 1 (Shape.inj jC.cc_s (X.1,false,X.2.2.1,X.2.2.2.1,V,(q4 X).2))) (fun V=>Z 2 (Shape.inj jC.cc_s (X.1,X.2.1,X.2.2.1,X.2.2.2.1,V,(q4 X).2))))
def jC (o:YO) (ue:Int) (uf:Int) (ug:List YO) (uh:Int) (ui:Int) (ul:List YN) (um:List (Int)):Option (Bool×(Int)×(Int)×(List YO)×(Int)×(Int)×(List YN)×(List Int)×Unit):=
  bnd (iter (fun s↦jC.cc_ o.2.2.2.2.2 (↑(List.length o.2.2.2.2.2):Int) s um some) (0:Int)) fun y=>
  sel y
   (fun u=>some (false,ue,uf,ug,uh,ui,ul,um,()))
   (fun v=>some (true,ue,uf,ug,uh,ui,ul,um,()))
def jC.mc:MCallee:=⟨99,jC.pre,jC.post,fun X=>jC X.1 X.2.1 X.2.2.1 X.2.2.2.1 (q4 X).1 (q4 X).2.1 (q4 X).2.2.1 (q4 X).2.2.2.1⟩
def jC.G:Env:=⟨44,tab,[],[0,1,3,4,6,8,9,10,11,42],[1000700,2000701,2000702],[],[(100002,jC.cc_r),(4,jC.c4r)],[],jI,[]⟩
theorem jC.p0:PcA jC.G Tryz.f99 0:=
  Jf (s:=jC.cc_r) (by kernel_rfl) (by kernel_rfl) (jW (sh:=jC.cc_s) (I:=fun X Q=>(X.1,X.2.1,X.2.2.1,X.2.2.2.1,Q,(q4 X).2)) (fun X=>rfl) (fun ρ X Q Z=>(jg (jb fun _=>(jb fun _=>(jg jc jc))) jc)) (fun ρ X t k=>(kr (fun _=>(by kernel_rfl)) (fun _=>(by kernel_rfl)))) (fun X s=>by kernel_rfl))
theorem jC.p1:PcA jC.G Tryz.f99 1:=
  js (s:=jC.c4r) (by kernel_rfl) (by kernel_rfl) (jp (sh:=jC.c4s) (fun ρ X Z=>(jg (jb fun _=>(jb fun _=>(jg jc (jg (jb fun _=>(jb fun _=>jc)) jc)))) (jg (jb fun _=>(jb fun _=>jc)) jc))) (fun ρ X t k=>(by kernel_rfl)) (fun X=>by kernel_rfl))
theorem jC.ok:MOk Tryz.prog 99 jC.mc:=YU (mc:=jC.mc) (G:=jC.G) jX mixed Tryz.func99 ⟨jK,jE,jq,jD⟩ (m:=2) (by kernel_rfl) ⟨⟨trivial,jC.p0⟩,jC.p1⟩ (by kernel_rfl) (fun _=>by kernel_rfl)
def JE.ca_ (m:Int)(t6:List (Int))(t7:Int)(t8:Int)(Z:((Int)×(Int))⊕((Int)×(Int))→Option ρ):Option ρ:=
  br (decide (t8<t7))
   (bnd (idx t6 t8) fun y=>
    bnd (okIf (decide ((0:Int)≤y))) fun y1=>
    Z (.inl ((ibits BinOp.or IntKind.i64 m (i64.wrap ((1:Int)*2^Min.min (Int.toNat y) (64:Nat)))),(i64.wrap (t8+1)))))
   (Z (.inr (m,t8)))
def JE.ca_s:Shape:=⟨[(0,sa0),(2,sa2),(3,sa2),(6,sa0),(7,sa2),(8,sa2)],[]⟩
def JE.ca_r:Ck:=Ck.ofLoop (S:=(Int)×(Int)) (T:=(Int)×(Int)) JE.ca_s (fun X=>(X.2.2.1,(q4 X).2.1)) (fun ρ X Q Z=>JE.ca_ Q.1 X.2.2.2.1 (q4 X).1 Q.2 Z) (fun ρ X V Z=>Z 2 (Shape.inj JE.ca_s (X.1,X.2.1,V.1,X.2.2.2.1,(q4 X).1,V.2,())))
def JE (qs:List (Int)):Option (Int):=
  bnd (iter (fun s↦JE.ca_ s.1 qs (qs.length:Int) s.2 some) ((0:Int),(0:Int))) fun y=>
  some y.1
def JE.ce:Go.Ql.Callee:=⟨[(.sl (.int .i64))],[(.int .i64)],fun X=>JE X⟩
def JE.G:Env:=⟨18,tab,[],[0,2,3,5,6,7,8,9],[],[],[(100003,JE.ca_r)],[],jI,[]⟩
theorem JE.p0:PcA JE.G Tryz.f133 0:=
  Jf (s:=JE.ca_r) (by kernel_rfl) (by kernel_rfl) (jW (sh:=JE.ca_s) (I:=fun X Q=>(X.1,X.2.1,Q.1,X.2.2.2.1,(q4 X).1,Q.2,())) (fun X=>rfl) (fun ρ X Q Z=>(jg (jb fun _=>(jb fun _=>jc)) jc)) (fun ρ X t k=>(by kernel_rfl)) (fun X s=>by kernel_rfl))
theorem JE.ok:CalleeOk Tryz.prog 133 JE.ce:=fn_ok (G:=JE.G) jX mixed Tryz.func133 ⟨jK,jE,jq,jD⟩ (m:=1) (by kernel_rfl) ⟨trivial,JE.p0⟩ (by kernel_rfl) (fun _=>by kernel_rfl)
abbrev sa40:SD:=.one (.win 2000000 0)
abbrev sa41:SD:=.one (.clo 0)
abbrev sa42:SO:=.clo 163 [] [.fptr .len,.fptr (.int .i64)]
def Jr.pre:Shape:=⟨[(0,sa40),(1,sa2)],[(2000000,sa28)]⟩
def Jr.post:Shape:=⟨[(0,sa41)],[(0,sa42),(2000000,sa28)]⟩
def Jr (vlo:Int) (vn:Int) (m:Int) (uj:List YN):Option ((Int)×(Int)×(List YN)×Unit):=
  some (vn,m,uj,())
def Jr.mc:MCallee:=⟨135,Jr.pre,Jr.post,fun X=>Jr X.1 X.2.1 X.2.2.1 X.2.2.2.1⟩
def Jr.G:Env:=⟨6,tab,[],[0,1,2,3,4],[2000000,8500002,8600003],[],[],[],jI,[]⟩
theorem Jr.ok:MOk Tryz.prog 135 Jr.mc:=YU (mc:=Jr.mc) (G:=Jr.G) jX mixed Tryz.func135 ⟨jK,jE,jq,jD⟩ (m:=0) (by kernel_rfl) trivial (by kernel_rfl) (fun _=>by kernel_rfl)
def whole_Int_Sign (a:Bool×(List Int)):Option (Int):=
  br ((↑(List.length a.2):Int)==0)
   (some (0:Int))
   (br a.1
     (some (-1:Int))
     (some (1:Int)))
def whole_Int_Sign.ce:Go.Ql.Callee:=⟨[(.st (.pair .bool (.sl (.int .u32))))],[(.int .i64)],fun X=>whole_Int_Sign X⟩
def whole_Int_Sign.G:Env:=⟨11,tab,[],[0,1,2,3,8],[],[],[],[],jI,[]⟩
theorem whole_Int_Sign.ok:CalleeOk Tryz.prog 60 whole_Int_Sign.ce:=fn_ok (G:=whole_Int_Sign.G) jX mixed Tryz.func60 ⟨jK,jE,jq,jD⟩ (m:=0) (by kernel_rfl) trivial (by kernel_rfl) (fun _=>by kernel_rfl)
def Jd.cc_ (t6:List (Bool×(List Int)))(t7:Int)(Z:(Int)⊕((Int)⊕(Int))→Option ρ):Option ρ:=
  br (decide (t7<8))
   (bnd (idx t6 t7) fun y=>
    bnd (whole_Int_Sign (y.1,y.2)) fun y1=>
    br (y1 !=0)
     (Z (.inr (.inl t7)))
     (Z (.inl (i64.wrap (t7+1)))))
   (Z (.inr (.inr t7)))
def Jd.cc_s:Shape:=⟨[(0,sa23),(1,sa24),(2,sa11),(6,sa27),(7,sa2)],[]⟩
def Jd.cc_r:Ck:=Ck.ofLoop (S:=Int) (T:=(Int)⊕(Int)) Jd.cc_s (fun X=>(q4 X).1) (fun ρ X Q Z=>Jd.cc_ X.2.2.2.1 Q Z) (fun ρ X V Z=>sel V (fun V=>Z 1 (Shape.inj Jd.cc_s (X.1,X.2.1,false,X.2.2.2.1,V,()))) (fun V=>Z 2 (Shape.inj Jd.cc_s (X.1,X.2.1,X.2.2.1,X.2.2.2.1,V,()))))
def Jd (a:YN):Option Bool:=
  bnd (iter (fun s↦Jd.cc_ a.1 s some) (0:Int)) fun y=>
  sel y
   (fun u=>some false)
   (fun v=>some true)
def Jd.ce:Go.Ql.Callee:=⟨[(.st (.pair (.ar 8 (.st (.pair .bool (.sl (.int .u32))))) (.int .i64)))],[.bool],fun X=>Jd X⟩
def Jd.G:Env:=⟨14,tab,[(60,whole_Int_Sign.ce)],[0,1,2,4,6,7,8,12],[8000001],[],[(100002,Jd.cc_r)],[],jI,[]⟩
theorem Jd.p0:PcA Jd.G Tryz.f66 0:=
  Jf (s:=Jd.cc_r) (by kernel_rfl) (by kernel_rfl) (jW (sh:=Jd.cc_s) (I:=fun X Q=>(X.1,X.2.1,X.2.2.1,X.2.2.2.1,Q,())) (fun X=>rfl) (fun ρ X Q Z=>(jg (jb fun _=>(jb fun _=>(jg jc jc))) jc)) (fun ρ X t k=>(kr (fun _=>(by kernel_rfl)) (fun _=>(by kernel_rfl)))) (fun X s=>by kernel_rfl))
theorem Jd.ok:CalleeOk Tryz.prog 66 Jd.ce:=fn_ok (G:=Jd.G) jX mixed Tryz.func66 ⟨(jn whole_Int_Sign.ok jK),jE,jq,jD⟩ (m:=1) (by kernel_rfl) ⟨trivial,Jd.p0⟩ (by kernel_rfl) (fun _=>by kernel_rfl)
abbrev sa43:SO:=.arr 0 false 148 (.int .u32)
abbrev sa44:SD:=.one (.own 4 0)
abbrev sa45:SD:=.one (.own 15 0)
def whole_left.pre:Shape:=⟨[(0,sa19),(1,sa2)],[]⟩
def whole_left.post:Shape:=⟨[(0,sa29)],[(0,sa43)]⟩
def whole_left.ca_ (n:Int)(t16:List (Int))(t17:Int)(t18:Int)(t15:List (Int))(Z:((Int)×(List Int))⊕((Int)×(List Int))→Option ρ):Option ρ:=
  br (decide (t18<t17))
   (bnd (idx t16 t18) fun y=>
    bnd (okIf (decide ((0:Int)≤Int.tmod n (32:Int)))) fun y1=>
    bnd (inR (t15.length) (i64.wrap (t18+i64.wrap (Int.tdiv n (32:Int))))) fun y2=>
    bnd (idx t15 (i64.wrap (t18+i64.wrap (Int.tdiv n (32:Int))))) fun y3=>
    bnd (inR (t15.length) (i64.wrap (t18+i64.wrap (Int.tdiv n (32:Int))))) fun y4=>
    bnd (idx t15 (i64.wrap (t18+i64.wrap (Int.tdiv n (32:Int))))) fun y5=>
    bnd (inR (List.length (List.set t15 (Int.toNat (i64.wrap (t18+i64.wrap (Int.tdiv n (32:Int))))) (ibits BinOp.or IntKind.u32 y3 (u32.wrap (u64.wrap (IntKind.wrap IntKind.u64 y*2^Min.min (Int.toNat (Int.tmod n (32:Int))) (64:Nat))))))) (i64.wrap (i64.wrap (t18+i64.wrap (Int.tdiv n (32:Int)))+1))) fun y6=>
    bnd (idx (List.set t15 (Int.toNat (i64.wrap (t18+i64.wrap (Int.tdiv n (32:Int))))) (ibits BinOp.or IntKind.u32 y3 (u32.wrap (u64.wrap (IntKind.wrap IntKind.u64 y*2^Min.min (Int.toNat (Int.tmod n (32:Int))) (64:Nat)))))) (i64.wrap (i64.wrap (t18+i64.wrap (Int.tdiv n (32:Int)))+1))) fun y7=>
    bnd (inR (List.length (List.set t15 (Int.toNat (i64.wrap (t18+i64.wrap (Int.tdiv n (32:Int))))) (ibits BinOp.or IntKind.u32 y3 (u32.wrap (u64.wrap (IntKind.wrap IntKind.u64 y*2^Min.min (Int.toNat (Int.tmod n (32:Int))) (64:Nat))))))) (i64.wrap (i64.wrap (t18+i64.wrap (Int.tdiv n (32:Int)))+1))) fun y8=>
    bnd (idx (List.set t15 (Int.toNat (i64.wrap (t18+i64.wrap (Int.tdiv n (32:Int))))) (ibits BinOp.or IntKind.u32 y3 (u32.wrap (u64.wrap (IntKind.wrap IntKind.u64 y*2^Min.min (Int.toNat (Int.tmod n (32:Int))) (64:Nat)))))) (i64.wrap (i64.wrap (t18+i64.wrap (Int.tdiv n (32:Int)))+1))) fun y9=>
    Z (.inl ((i64.wrap (t18+1)),(List.set (List.set t15 (Int.toNat (i64.wrap (t18+i64.wrap (Int.tdiv n (32:Int))))) (ibits BinOp.or IntKind.u32 y3 (u32.wrap (u64.wrap (IntKind.wrap IntKind.u64 y*2^Min.min (Int.toNat (Int.tmod n (32:Int))) (64:Nat)))))) (Int.toNat (i64.wrap (i64.wrap (t18+i64.wrap (Int.tdiv n (32:Int)))+1))) (ibits BinOp.or IntKind.u32 y7 (u32.wrap (Int.fdiv (u64.wrap (IntKind.wrap IntKind.u64 y*2^Min.min (Int.toNat (Int.tmod n (32:Int))) (64:Nat))) ((2:Int) ^32))))))))
   (Z (.inr (t18,t15)))
def whole_left.ca_s:Shape:=⟨[(0,sa19),(1,sa2),(4,sa44),(5,sa45),(16,sa19),(17,sa2),(18,sa2)],[(4,sa43),(15,sa43)]⟩
def whole_left.ca_r:Ck:=Ck.ofLoop (S:=(Int)×(List Int)) (T:=(Int)×(List Int)) whole_left.ca_s (fun X=>((q4 X).1,(q4 X).2.2.1)) (fun ρ X Q Z=>whole_left.ca_ X.2.1 X.2.2.1 X.2.2.2.1 Q.1 Q.2 Z) (fun ρ X V Z=>Z 2 (Shape.inj whole_left.ca_s (X.1,X.2.1,X.2.2.1,X.2.2.2.1,V.1,(q4 X).2.1,V.2,())))
def whole_left (a:List (Int)) (n:Int):Option ((List Int)×Unit):=
  bnd (okIf (decide ((0:Int)≤i64.wrap (i64.wrap ((a.length:Int)+i64.wrap (Int.tdiv n (32:Int)))+1))&&decide (i64.wrap (i64.wrap ((a.length:Int)+i64.wrap (Int.tdiv n (32:Int)))+1)≤i64.wrap (i64.wrap ((a.length:Int)+i64.wrap (Int.tdiv n (32:Int)))+1))&&decide (i64.wrap (i64.wrap ((a.length:Int)+i64.wrap (Int.tdiv n (32:Int)))+1)*(↑(4:Nat):Int)≤140737488355328)&&decide (i64.wrap (i64.wrap ((a.length:Int)+i64.wrap (Int.tdiv n (32:Int)))+1)≤140737488355328))) fun y=>
  bnd (iter (fun s↦whole_left.ca_ n a (a.length:Int) s.1 s.2 some) ((0:Int),List.replicate (Int.toNat (i64.wrap (i64.wrap ((a.length:Int)+i64.wrap (Int.tdiv n (32:Int)))+1))) (0:Int))) fun y1=>
  some (y1.2,())
def whole_left.mc:MCallee:=⟨149,whole_left.pre,whole_left.post,fun X=>whole_left X.1 X.2.1⟩
def whole_left.G:Env:=⟨54,tab,[],[0,1,4,5,6,7,8,16,17,18,19],[4,15],[],[(100003,whole_left.ca_r)],[],jI,[]⟩
theorem whole_left.p0:PcA whole_left.G Tryz.f149 0:=
  Jf (s:=whole_left.ca_r) (by kernel_rfl) (by kernel_rfl) (jW (sh:=whole_left.ca_s) (I:=fun X Q=>(X.1,X.2.1,X.2.2.1,X.2.2.2.1,Q.1,(q4 X).2.1,Q.2,())) (fun X=>rfl) (fun ρ X Q Z=>(jg (jb fun _=>(jb fun _=>(jb fun _=>(jb fun _=>(jb fun _=>(jb fun _=>(jb fun _=>(jb fun _=>(jb fun _=>(jb fun _=>jc)))))))))) jc)) (fun ρ X t k=>(by kernel_rfl)) (fun X s=>by kernel_rfl))
theorem whole_left.ok:MOk Tryz.prog 149 whole_left.mc:=YU (mc:=whole_left.mc) (G:=whole_left.G) jX mixed Tryz.func149 ⟨jK,jE,jq,jD⟩ (m:=1) (by kernel_rfl) ⟨trivial,whole_left.p0⟩ (by kernel_rfl) (fun _=>by kernel_rfl)
abbrev sa46:SD:=.one (.val (.int .u32))
abbrev sa47:SD:=.one (.own 54 0)
def whole_right.c3 (a:List (Int))(n:Int)(Z:Bool→Option ρ):Option ρ:=
  bnd (idx a (i64.wrap (Int.tdiv n (32:Int)))) fun y=>
  bnd (okIf (decide ((0:Int)≤i64.wrap ((32:Int)-Int.tmod n (32:Int))))) fun y1=>
  br (u32.wrap (y*2^Min.min (Int.toNat (i64.wrap ((32:Int)-Int.tmod n (32:Int)))) (32:Nat)) !=0)
   (Z (decide (Int.tmod n (32:Int)>0)))
   (Z false)
def whole_right.c3s:Shape:=⟨[(0,sa19),(1,sa2),(4,sa19),(5,sa11)],[]⟩
def whole_right.c3x0:Shape:=⟨[(0,sa19),(1,sa2),(4,sa19),(5,sa11),(6,sa11)],[]⟩
def whole_right.c3r:Ck:=Ck.of (T:=Bool) whole_right.c3s (fun ρ X Z=>whole_right.c3 X.1 X.2.1 Z) (fun ρ X V Z=>Z 0 (Shape.inj whole_right.c3x0 (X.1,X.2.1,X.2.2.1,X.2.2.2.1,V,())))
def whole_right.c7 (lost:Bool)(x:Int)(Z:Bool→Option ρ):Option ρ:=
  br lost
   (Z true)
   (Z (x !=0))
def whole_right.c7s:Shape:=⟨[(0,sa19),(1,sa2),(4,sa19),(5,sa11),(6,sa11),(8,sa46),(37,sa19),(38,sa2),(39,sa2)],[]⟩
def whole_right.c7r:Ck:=Ck.of (T:=Bool) whole_right.c7s (fun ρ X Z=>whole_right.c7 (q4 X).1 (q4 X).2.1 Z) (fun ρ X V Z=>Z 0 (Shape.inj whole_right.c7s (X.1,X.2.1,X.2.2.1,X.2.2.2.1,V,(q4 X).2)))
def whole_right.cg_ (lost:Bool)(t37:List (Int))(t38:Int)(t39:Int)(Z:(Bool×(Int))⊕(Bool×(Int))→Option ρ):Option ρ:=
  br (decide (t39<t38))
   (bnd (idx t37 t39) fun y=>
    bnd (whole_right.c7 lost y some) fun y1=>
    Z (.inl (y1,(i64.wrap (t39+1)))))
   (Z (.inr (lost,t39)))
def whole_right.cg_s:Shape:=⟨[(0,sa19),(1,sa2),(4,sa19),(5,sa11),(6,sa11),(37,sa19),(38,sa2),(39,sa2)],[]⟩
def whole_right.cg_r:Ck:=Ck.ofLoop (S:=Bool×(Int)) (T:=Bool×(Int)) whole_right.cg_s (fun X=>((q4 X).1,(q4 X).2.2.2.1)) (fun ρ X Q Z=>whole_right.cg_ Q.1 (q4 X).2.1 (q4 X).2.2.1 Q.2 Z) (fun ρ X V Z=>Z 2 (Shape.inj whole_right.cg_s (X.1,X.2.1,X.2.2.1,X.2.2.2.1,V.1,(q4 X).2.1,(q4 X).2.2.1,V.2,())))
def whole_right.c14 (a:List (Int))(n:Int)(i:Int)(Z:Bool→Option ρ):Option ρ:=
  br (decide (i64.wrap (i64.wrap (i+i64.wrap (Int.tdiv n (32:Int)))+1)<(a.length:Int)))
   (Z (decide (Int.tmod n (32:Int)>0)))
   (Z false)
def whole_right.c14s:Shape:=⟨[(0,sa19),(1,sa2),(4,sa19),(5,sa11),(6,sa11),(9,sa47),(10,sa2),(37,sa19),(38,sa2),(39,sa2),(56,sa2),(57,sa2)],[(54,sa43)]⟩
def whole_right.c14x0:Shape:=⟨[(0,sa19),(1,sa2),(4,sa19),(5,sa11),(6,sa11),(9,sa47),(10,sa2),(37,sa19),(38,sa2),(39,sa2),(56,sa2),(57,sa2),(85,sa11)],[(54,sa43)]⟩
def whole_right.c14r:Ck:=Ck.of (T:=Bool) whole_right.c14s (fun ρ X Z=>whole_right.c14 X.1 X.2.1 (q4 X).2.1 Z) (fun ρ X V Z=>Z 0 (Shape.inj whole_right.c14x0 (X.1,X.2.1,X.2.2.1,X.2.2.2.1,(q4 X).1,(q4 X).2.1,(q4 X).2.2.1,(q4 X).2.2.2.1,(q8 X).1,(q8 X).2.1,(q8 X).2.2.1,V,(q8 X).2.2.2)))
def whole_right.c15 (a:List (Int))(n:Int)(i:Int)(t54:List (Int))(Z:List (Int)→Option ρ):Option ρ:=
  bnd (inR (t54.length) i) fun y=>
  bnd (idx t54 i) fun y1=>
  bnd (idx a (i64.wrap (i64.wrap (i+i64.wrap (Int.tdiv n (32:Int)))+1))) fun y2=>
  bnd (okIf (decide ((0:Int)≤i64.wrap ((32:Int)-Int.tmod n (32:Int))))) fun y3=>
  bnd (inR (t54.length) i) fun y4=>
  bnd (idx t54 i) fun y5=>
  Z (List.set t54 (Int.toNat i) (ibits BinOp.or IntKind.u32 y1 (u32.wrap (y2*2^Min.min (Int.toNat (i64.wrap ((32:Int)-Int.tmod n (32:Int)))) (32:Nat)))))
def whole_right.c15r:Ck:=Ck.of (T:=List (Int)) whole_right.c14s (fun ρ X Z=>whole_right.c15 X.1 X.2.1 (q4 X).2.1 (q8 X).2.2.2.1 Z) (fun ρ X V Z=>Z 0 (Shape.inj whole_right.c14s (X.1,X.2.1,X.2.2.1,X.2.2.2.1,(q4 X).1,(q4 X).2.1,(q4 X).2.2.1,(q4 X).2.2.2.1,(q8 X).1,(q8 X).2.1,(q8 X).2.2.1,V,())))
def whole_right.cx_ (a:List (Int))(n:Int)(t57:Int)(t54:List (Int))(Z:List (Int)→Option ρ):Option ρ:=
  bnd (idx a (i64.wrap (t57+i64.wrap (Int.tdiv n (32:Int))))) fun y=>
  bnd (okIf (decide ((0:Int)≤Int.tmod n (32:Int)))) fun y1=>
  bnd (inR (t54.length) t57) fun y2=>
  bnd (idx t54 t57) fun y3=>
  bnd (whole_right.c14 a n t57 some) fun y4=>
  br y4
   (bnd (whole_right.c15 a n t57 (List.set t54 (Int.toNat t57) (Int.fdiv y ((2:Int)^Min.min (Int.toNat (Int.tmod n (32:Int))) (32:Nat)))) some) fun y5=>
    Z y5)
   (Z (List.set t54 (Int.toNat t57) (Int.fdiv y ((2:Int)^Min.min (Int.toNat (Int.tmod n (32:Int))) (32:Nat)))))
def whole_right.cx_s:Shape:=⟨[(0,sa19),(1,sa2),(4,sa19),(5,sa11),(6,sa11),(9,sa47),(37,sa19),(38,sa2),(39,sa2),(56,sa2),(57,sa2)],[(54,sa43)]⟩
def whole_right.cx_r:Ck:=Ck.of (T:=List (Int)) whole_right.cx_s (fun ρ X Z=>whole_right.cx_ X.1 X.2.1 (q8 X).2.1 (q8 X).2.2.1 Z) (fun ρ X V Z=>Z 0 (Shape.inj whole_right.cx_s (X.1,X.2.1,X.2.2.1,X.2.2.2.1,(q4 X).1,(q4 X).2.1,(q4 X).2.2.1,(q4 X).2.2.2.1,(q8 X).1,(q8 X).2.1,V,())))
def whole_right.cj_ (a:List (Int))(n:Int)(t56:Int)(t57:Int)(t54:List (Int))(Z:((Int)×(List Int))⊕((Int)×(List Int))→Option ρ):Option ρ:=
  br (decide (t57<t56))
   (bnd (whole_right.cx_ a n t57 t54 some) fun y=>
    Z (.inl ((i64.wrap (t57+1)),y)))
   (Z (.inr (t57,t54)))
def whole_right.cj_r:Ck:=Ck.ofLoop (S:=(Int)×(List Int)) (T:=(Int)×(List Int)) whole_right.cx_s (fun X=>((q8 X).2.1,(q8 X).2.2.1)) (fun ρ X Q Z=>whole_right.cj_ X.1 X.2.1 (q8 X).1 Q.1 Q.2 Z) (fun ρ X V Z=>Z 4 (Shape.inj whole_right.cx_s (X.1,X.2.1,X.2.2.1,X.2.2.2.1,(q4 X).1,(q4 X).2.1,(q4 X).2.2.1,(q4 X).2.2.2.1,(q8 X).1,V.1,V.2,())))
def whole_right (a:List (Int)) (n:Int):Option ((List Int)×Bool):=
  br (decide (i64.wrap (Int.tdiv n (32:Int))≥(a.length:Int)))
   (some ([],decide ((a.length:Int)>0)))
   (bnd (whole_right.c3 a n some) fun y=>
    bnd (okIf (decide ((0:Int)≤i64.wrap (Int.tdiv n (32:Int)))&&decide (i64.wrap (Int.tdiv n (32:Int))≤(a.length:Int)))) fun y1=>
    bnd (iter (fun s↦whole_right.cg_ s.1 (List.take (Int.toNat (i64.wrap (Int.tdiv n (32:Int)))) a) (↑(List.length (List.take (Int.toNat (i64.wrap (Int.tdiv n (32:Int)))) a)):Int) s.2 some) (y,(0:Int))) fun y2=>
    bnd (okIf (decide ((0:Int)≤i64.wrap ((a.length:Int)-i64.wrap (Int.tdiv n (32:Int))))&&decide (i64.wrap ((a.length:Int)-i64.wrap (Int.tdiv n (32:Int)))≤i64.wrap ((a.length:Int)-i64.wrap (Int.tdiv n (32:Int))))&&decide (i64.wrap ((a.length:Int)-i64.wrap (Int.tdiv n (32:Int)))*(↑(4:Nat):Int)≤140737488355328)&&decide (i64.wrap ((a.length:Int)-i64.wrap (Int.tdiv n (32:Int)))≤140737488355328))) fun y3=>
    bnd (iter (fun s↦whole_right.cj_ a n (↑(List.length (List.replicate (Int.toNat (i64.wrap ((a.length:Int)-i64.wrap (Int.tdiv n (32:Int))))) (0:Int))):Int) s.1 s.2 some) ((0:Int),List.replicate (Int.toNat (i64.wrap ((a.length:Int)-i64.wrap (Int.tdiv n (32:Int))))) (0:Int))) fun y4=>
    some (y4.2,y2.1))
def whole_right.ce:Go.Ql.Callee:=⟨[(.sl (.int .u32)),(.int .i64)],[(.sl (.int .u32)),.bool],fun X=>whole_right X.1 X.2⟩
def whole_right.G:Env:=⟨107,tab,[],[0,1,4,5,6,8,9,10,15,37,38,39,40,56,57,58,85],[54],[(15,[⟨[],[],[87,90,91,92,93,94,95,96,97,98,99,100,101],[]⟩,⟨[],[],[86,90,91,92,93,94,95,96,97,98,99,100,101],[]⟩,⟨[0,1],[],[90,91,92,93,94,95,96,97,98,99,100,101],[]⟩,⟨[2,0,1],[],[90,91,92,93,94,95,96,97,98,99,100,101],[]⟩,⟨[],[],[86,87,88,89,91,92,93,94,95,98,99,100],[]⟩,⟨[],[],[86,87,88,89,90,92,93,98,99,100],[]⟩,⟨[],[],[86,87,88,89,90,91,98,99,100],[]⟩,⟨[6],[],[86,87,88,89,90,91,98,99,100],[]⟩,⟨[5,7,6],[],[86,87,88,89,90,98,99,100],[]⟩,⟨[8,5,7,6],[],[86,87,88,89,90,98,99,100],[]⟩,⟨[4,9,8,5,7,6],[],[86,87,88,89,98,99,100],[]⟩,⟨[10,4,9,8,5,7,6],[],[86,87,88,89,98,99,100],[]⟩,⟨[],[],[86,87,88,89,90,91,92,93,94,95,96,97],[]⟩,⟨[12],[],[86,87,88,89,90,91,92,93,94,95,96,97],[]⟩,⟨[13,12],[],[86,87,88,89,90,91,92,93,94,95,96,97],[]⟩,⟨[11,10,4,9,8,5,7,6,14,13,12],[],[86,87,88,89],[]⟩,⟨[3,2,0,1,15,11,10,4,9,8,5,7,6,14,13,12],[],[],[]⟩,⟨[0,1,2,3,4,5,6,7,8,9,10,11,12,13,14,15,16],[],[],[]⟩,⟨[17,0,1,2,3,4,5,6,7,8,9,10,11,12,13,14,15,16],[54],[],[]⟩])],[(100011,whole_right.cj_r),(249162,whole_right.cx_r),(15,whole_right.c15r),(14,whole_right.c14r),(100005,whole_right.cg_r),(7,whole_right.c7r),(3,whole_right.c3r)],[],jI,[]⟩
theorem whole_right.p0:PcA whole_right.G Tryz.f150 0:=
  js (s:=whole_right.c3r) (by kernel_rfl) (by kernel_rfl) (jp (sh:=whole_right.c3s) (fun ρ X Z=>(jb fun _=>(jb fun _=>(jg jc jc)))) (fun ρ X t k=>(by kernel_rfl)) (fun X=>by kernel_rfl))
theorem whole_right.p1:PcA whole_right.G Tryz.f150 1:=
  Jf (s:=whole_right.cg_r) (by kernel_rfl) (by kernel_rfl) (jW (sh:=whole_right.cg_s) (I:=fun X Q=>(X.1,X.2.1,X.2.2.1,X.2.2.2.1,Q.1,(q4 X).2.1,(q4 X).2.2.1,Q.2,())) (fun X=>rfl) (fun ρ X Q Z=>(jg (jb fun _=>(jb fun _=>jc)) jc)) (fun ρ X t k=>(by kernel_rfl)) (fun X s=>by kernel_rfl))
theorem whole_right.p2:PcA whole_right.G Tryz.f150 2:=
  js (s:=whole_right.c7r) (by kernel_rfl) (by kernel_rfl) (jp (sh:=whole_right.c7s) (fun ρ X Z=>(jg jc jc)) (fun ρ X t k=>(by kernel_rfl)) (fun X=>by kernel_rfl))
theorem whole_right.p3:PcA whole_right.G Tryz.f150 3:=
  Jf (s:=whole_right.cj_r) (by kernel_rfl) (by kernel_rfl) (jW (sh:=whole_right.cx_s) (I:=fun X Q=>(X.1,X.2.1,X.2.2.1,X.2.2.2.1,(q4 X).1,(q4 X).2.1,(q4 X).2.2.1,(q4 X).2.2.2.1,(q8 X).1,Q.1,Q.2,())) (fun X=>rfl) (fun ρ X Q Z=>(jg (jb fun _=>jc) jc)) (fun ρ X t k=>(by kernel_rfl)) (fun X s=>by kernel_rfl))
theorem whole_right.p4:PcA whole_right.G Tryz.f150 4:=
  JR (s:=whole_right.cx_r) (by kernel_rfl) (by kernel_rfl) (jp (sh:=whole_right.cx_s) (fun ρ X Z=>(jb fun _=>(jb fun _=>(jb fun _=>(jb fun _=>(jb fun _=>(jg (jb fun _=>jc) jc))))))) (fun ρ X t k=>(by kernel_rfl)) (fun X=>by kernel_rfl))
theorem whole_right.p5:PcA whole_right.G Tryz.f150 5:=
  js (s:=whole_right.c14r) (by kernel_rfl) (by kernel_rfl) (jp (sh:=whole_right.c14s) (fun ρ X Z=>(jg jc jc)) (fun ρ X t k=>(by kernel_rfl)) (fun X=>by kernel_rfl))
theorem whole_right.p6:PcA whole_right.G Tryz.f150 6:=
  js (s:=whole_right.c15r) (by kernel_rfl) (by kernel_rfl) (jp (sh:=whole_right.c14s) (fun ρ X Z=>(jb fun _=>(jb fun _=>(jb fun _=>(jb fun _=>(jb fun _=>(jb fun _=>jc))))))) (fun ρ X t k=>(by kernel_rfl)) (fun X=>by kernel_rfl))
theorem whole_right.ok:CalleeOk Tryz.prog 150 whole_right.ce:=fn_ok (G:=whole_right.G) jX mixed Tryz.func150 ⟨jK,jE,jq,jD⟩ (m:=7) (by kernel_rfl) ⟨⟨⟨⟨⟨⟨⟨trivial,whole_right.p0⟩,whole_right.p1⟩,whole_right.p2⟩,whole_right.p3⟩,whole_right.p4⟩,whole_right.p5⟩,whole_right.p6⟩ (by kernel_rfl) (fun _=>by kernel_rfl)
def kB (x:Int) (y:Int) (carry:Int):Option ((Int)×(Int)):=
  some (u32.wrap (u64.wrap (u64.wrap (IntKind.wrap IntKind.u64 x+IntKind.wrap IntKind.u64 y)+IntKind.wrap IntKind.u64 carry)),u32.wrap (Int.fdiv (u64.wrap (u64.wrap (IntKind.wrap IntKind.u64 x+IntKind.wrap IntKind.u64 y)+IntKind.wrap IntKind.u64 carry)) ((2:Int) ^32)))
def kB.ce:Go.Ql.Callee:=⟨[(.int .u32),(.int .u32),(.int .u32)],[(.int .u32),(.int .u32)],fun X=>kB X.1 X.2.1 X.2.2⟩
def kB.G:Env:=⟨22,tab,[],[0,1,2,6,7,8],[],[],[],[],jI,[]⟩
theorem kB.ok:CalleeOk Tryz.prog 153 kB.ce:=fn_ok (G:=kB.G) jX mixed Tryz.func153 ⟨jK,jE,jq,jD⟩ (m:=0) (by kernel_rfl) trivial (by kernel_rfl) (fun _=>by kernel_rfl)
abbrev sa48:SD:=.one (.own 20 0)
def whole_sum.cF_ (a:List (Int))(b:List (Int))(Z:(List Int)×(List Int)→Option ρ):Option ρ:=
  br (decide ((a.length:Int)<(b.length:Int)))
   (Z (b,a))
   (Z (a,b))
def whole_sum.cF_s:Shape:=⟨[(0,sa19),(1,sa19),(4,sa19)],[]⟩
def whole_sum.cF_r:Ck:=Ck.of (T:=(List Int)×(List Int)) whole_sum.cF_s (fun ρ X Z=>whole_sum.cF_ X.1 X.2.1 Z) (fun ρ X V Z=>Z 0 (Shape.inj whole_sum.cF_s (V.1,V.2,X.2.2)))
def whole_sum.cD_ (b:List (Int))(i:Int)(y:Int)(Z:Int→Option ρ):Option ρ:=
  br (decide (i<(b.length:Int)))
   (bnd (idx b i) fun y1=>
    Z y1)
   (Z y)
def whole_sum.cD_s:Shape:=⟨[(0,sa19),(1,sa19),(4,sa19),(5,sa48),(6,sa46),(7,sa2),(8,sa46),(9,sa46),(21,sa19),(22,sa2),(23,sa2)],[(20,sa43)]⟩
def whole_sum.cD_r:Ck:=Ck.of (T:=Int) whole_sum.cD_s (fun ρ X Z=>whole_sum.cD_ X.2.1 (q4 X).1 (q4 X).2.2.1 Z) (fun ρ X V Z=>Z 0 (Shape.inj whole_sum.cD_s (X.1,X.2.1,X.2.2.1,X.2.2.2.1,(q4 X).1,(q4 X).2.1,V,(q4 X).2.2.2)))
def whole_sum.ci_ (b:List (Int))(c:Int)(t21:List (Int))(t22:Int)(t23:Int)(t20:List (Int))(Z:((Int)×(Int)×(List Int))⊕((Int)×(Int)×(List Int))→Option ρ):Option ρ:=
  br (decide (t23<t22))
   (bnd (idx t21 t23) fun y=>
    bnd (whole_sum.cD_ b t23 (0:Int) some) fun y1=>
    bnd (kB y y1 c) fun y2=>
    bnd (inR (t20.length) t23) fun y3=>
    bnd (idx t20 t23) fun y4=>
    Z (.inl (y2.2,(i64.wrap (t23+1)),(List.set t20 (Int.toNat t23) y2.1))))
   (Z (.inr (c,t23,t20)))
def whole_sum.ci_s:Shape:=⟨[(0,sa19),(1,sa19),(4,sa19),(5,sa48),(6,sa46),(21,sa19),(22,sa2),(23,sa2)],[(20,sa43)]⟩
def whole_sum.ci_r:Ck:=Ck.ofLoop (S:=(Int)×(Int)×(List Int)) (T:=(Int)×(Int)×(List Int)) whole_sum.ci_s (fun X=>(X.2.2.2.1,(q4 X).2.2.1,(q4 X).2.2.2.1)) (fun ρ X Q Z=>whole_sum.ci_ X.2.1 Q.1 (q4 X).1 (q4 X).2.1 Q.2.1 Q.2.2 Z) (fun ρ X V Z=>Z 2 (Shape.inj whole_sum.ci_s (X.1,X.2.1,X.2.2.1,V.1,(q4 X).1,(q4 X).2.1,V.2.1,V.2.2,())))
def whole_sum (a:List (Int)) (b:List (Int)):Option (List Int):=
  bnd (whole_sum.cF_ a b some) fun y=>
  bnd (okIf (decide ((0:Int)≤i64.wrap ((↑(List.length y.1):Int)+1))&&decide (i64.wrap ((↑(List.length y.1):Int)+1)≤i64.wrap ((↑(List.length y.1):Int)+1))&&decide (i64.wrap ((↑(List.length y.1):Int)+1)*(↑(4:Nat):Int)≤140737488355328)&&decide (i64.wrap ((↑(List.length y.1):Int)+1)≤140737488355328))) fun y1=>
  bnd (iter (fun s↦whole_sum.ci_ y.2 s.1 y.1 (↑(List.length y.1):Int) s.2.1 s.2.2 some) ((0:Int),(0:Int),List.replicate (Int.toNat (i64.wrap ((↑(List.length y.1):Int)+1))) (0:Int))) fun y2=>
  bnd (inR (List.length y2.2.2) (↑(List.length y.1):Int)) fun y3=>
  bnd (idx y2.2.2 (↑(List.length y.1):Int)) fun y4=>
  some (List.set y2.2.2 (Int.toNat (↑(List.length y.1):Int)) y2.1)
def whole_sum.ce:Go.Ql.Callee:=⟨[(.sl (.int .u32)),(.sl (.int .u32))],[(.sl (.int .u32))],fun X=>whole_sum X.1 X.2⟩
def whole_sum.G:Env:=⟨53,tab,[(153,kB.ce)],[0,1,4,5,6,7,8,9,14,21,22,23,24,31],[20],[],[(100006,whole_sum.ci_r),(236869,whole_sum.cD_r),(204101,whole_sum.cF_r)],[],jI,[]⟩
theorem whole_sum.p0:PcA whole_sum.G Tryz.f127 0:=
  JR (s:=whole_sum.cF_r) (by kernel_rfl) (by kernel_rfl) (jp (sh:=whole_sum.cF_s) (fun ρ X Z=>(jg jc jc)) (fun ρ X t k=>(by kernel_rfl)) (fun X=>by kernel_rfl))
theorem whole_sum.p1:PcA whole_sum.G Tryz.f127 1:=
  Jf (s:=whole_sum.ci_r) (by kernel_rfl) (by kernel_rfl) (jW (sh:=whole_sum.ci_s) (I:=fun X Q=>(X.1,X.2.1,X.2.2.1,Q.1,(q4 X).1,(q4 X).2.1,Q.2.1,Q.2.2,())) (fun X=>rfl) (fun ρ X Q Z=>(jg (jb fun _=>(jb fun _=>(jb fun _=>(jb fun _=>(jb fun _=>jc))))) jc)) (fun ρ X t k=>(by kernel_rfl)) (fun X s=>by kernel_rfl))
theorem whole_sum.p2:PcA whole_sum.G Tryz.f127 2:=
  JR (s:=whole_sum.cD_r) (by kernel_rfl) (by kernel_rfl) (jp (sh:=whole_sum.cD_s) (fun ρ X Z=>(jg (jb fun _=>jc) jc)) (fun ρ X t k=>(by kernel_rfl)) (fun X=>by kernel_rfl))
theorem whole_sum.ok:CalleeOk Tryz.prog 127 whole_sum.ce:=fn_ok (G:=whole_sum.G) jX mixed Tryz.func127 ⟨(jn kB.ok jK),jE,jq,jD⟩ (m:=3) (by kernel_rfl) ⟨⟨⟨trivial,whole_sum.p0⟩,whole_sum.p1⟩,whole_sum.p2⟩ (by kernel_rfl) (fun _=>by kernel_rfl)
def cmp_isNaN_int (x:Int):Option Bool:=
  some (x !=x)
def cmp_isNaN_int.ce:Go.Ql.Callee:=⟨[(.int .i64)],[.bool],fun X=>cmp_isNaN_int X⟩
def cmp_isNaN_int.G:Env:=⟨6,tab,[],[0,2],[],[],[],[],jI,[]⟩
theorem cmp_isNaN_int.ok:CalleeOk Tryz.prog 169 cmp_isNaN_int.ce:=fn_ok (G:=cmp_isNaN_int.G) jX mixed Tryz.func169 ⟨jK,jE,jq,jD⟩ (m:=0) (by kernel_rfl) trivial (by kernel_rfl) (fun _=>by kernel_rfl)
def cmp_Compare_int (x:Int) (y:Int):Option (Int):=
  bnd (cmp_isNaN_int x) fun y1=>
  bnd (cmp_isNaN_int y) fun y2=>
  br y1
   (br y2
     (some (0:Int))
     (some (-1:Int)))
   (br y2
     (some (1:Int))
     (br (decide (x<y))
       (some (-1:Int))
       (br (decide (x>y))
         (some (1:Int))
         (some (0:Int)))))
def cmp_Compare_int.ce:Go.Ql.Callee:=⟨[(.int .i64),(.int .i64)],[(.int .i64)],fun X=>cmp_Compare_int X.1 X.2⟩
def cmp_Compare_int.G:Env:=⟨20,tab,[(169,cmp_isNaN_int.ce)],[0,1,4,5,6,11,12,13,16,19],[],[],[],[],jI,[]⟩
theorem cmp_Compare_int.ok:CalleeOk Tryz.prog 154 cmp_Compare_int.ce:=fn_ok (G:=cmp_Compare_int.G) jX mixed Tryz.func154 ⟨(jn cmp_isNaN_int.ok jK),jE,jq,jD⟩ (m:=0) (by kernel_rfl) trivial (by kernel_rfl) (fun _=>by kernel_rfl)
def cmp_isNaN_uint32 (x:Int):Option Bool:=
  some (x !=x)
def cmp_isNaN_uint32.ce:Go.Ql.Callee:=⟨[(.int .u32)],[.bool],fun X=>cmp_isNaN_uint32 X⟩
def cmp_isNaN_uint32.G:Env:=⟨6,tab,[],[0,2],[],[],[],[],jI,[]⟩
theorem cmp_isNaN_uint32.ok:CalleeOk Tryz.prog 170 cmp_isNaN_uint32.ce:=fn_ok (G:=cmp_isNaN_uint32.G) jX mixed Tryz.func170 ⟨jK,jE,jq,jD⟩ (m:=0) (by kernel_rfl) trivial (by kernel_rfl) (fun _=>by kernel_rfl)
def cmp_Compare_uint32 (x:Int) (y:Int):Option (Int):=
  bnd (cmp_isNaN_uint32 x) fun y1=>
  bnd (cmp_isNaN_uint32 y) fun y2=>
  br y1
   (br y2
     (some (0:Int))
     (some (-1:Int)))
   (br y2
     (some (1:Int))
     (br (decide (x<y))
       (some (-1:Int))
       (br (decide (x>y))
         (some (1:Int))
         (some (0:Int)))))
def cmp_Compare_uint32.ce:Go.Ql.Callee:=⟨[(.int .u32),(.int .u32)],[(.int .i64)],fun X=>cmp_Compare_uint32 X.1 X.2⟩
def cmp_Compare_uint32.G:Env:=⟨20,tab,[(170,cmp_isNaN_uint32.ce)],[0,1,4,5,6,11,12,13,16,19],[],[],[],[],jI,[]⟩
theorem cmp_Compare_uint32.ok:CalleeOk Tryz.prog 155 cmp_Compare_uint32.ce:=fn_ok (G:=cmp_Compare_uint32.G) jX mixed Tryz.func155 ⟨(jn cmp_isNaN_uint32.ok jK),jE,jq,jD⟩ (m:=0) (by kernel_rfl) trivial (by kernel_rfl) (fun _=>by kernel_rfl)
def whole_order.c7 (a:List (Int))(b:List (Int))(i:Int)(Z:Int→Option ρ):Option ρ:=
  bnd (idx a i) fun y=>
  bnd (idx b i) fun y1=>
  bnd (cmp_Compare_uint32 y y1) fun y2=>
  Z y2
def whole_order.c7s:Shape:=⟨[(0,sa19),(1,sa19),(4,sa2),(5,sa2),(6,sa2)],[]⟩
def whole_order.c7x0:Shape:=⟨[(0,sa19),(1,sa19),(4,sa2),(5,sa2),(6,sa2),(7,sa2)],[]⟩
def whole_order.c7r:Ck:=Ck.of (T:=Int) whole_order.c7s (fun ρ X Z=>whole_order.c7 X.1 X.2.1 (q4 X).1 Z) (fun ρ X V Z=>Z 0 (Shape.inj whole_order.c7x0 (X.1,X.2.1,X.2.2.1,X.2.2.2.1,(q4 X).1,V,())))
def whole_order.cg_ (a:List (Int))(b:List (Int))(i:Int)(Z:(Int)⊕(((Int)×(Int))⊕(Int))→Option ρ):Option ρ:=
  br (decide (i≥0))
   (bnd (whole_order.c7 a b i some) fun y=>
    br (y !=0)
     (Z (.inr (.inl (y,i))))
     (Z (.inl (i64.wrap (i-1)))))
   (Z (.inr (.inr i)))
def whole_order.cg_r:Ck:=Ck.ofLoop (S:=Int) (T:=((Int)×(Int))⊕(Int)) whole_order.c7s (fun X=>(q4 X).1) (fun ρ X Q Z=>whole_order.cg_ X.1 X.2.1 Q Z) (fun ρ X V Z=>sel V (fun V=>Z 1 (Shape.inj whole_order.c7s (X.1,X.2.1,V.1,X.2.2.2.1,V.2,()))) (fun V=>Z 2 (Shape.inj whole_order.c7s (X.1,X.2.1,X.2.2.1,X.2.2.2.1,V,()))))
def whole_order (a:List (Int)) (b:List (Int)):Option (Int):=
  bnd (cmp_Compare_int (a.length:Int) (b.length:Int)) fun y=>
  br (y !=0)
   (some y)
   (bnd (iter (fun s↦whole_order.cg_ a b s some) (i64.wrap ((a.length:Int)-1))) fun y1=>
    sel y1
     (fun u=>some u.1)
     (fun v=>some (0:Int)))
def whole_order.ce:Go.Ql.Callee:=⟨[(.sl (.int .u32)),(.sl (.int .u32))],[(.int .i64)],fun X=>whole_order X.1 X.2⟩
def whole_order.G:Env:=⟨35,tab,[(154,cmp_Compare_int.ce),(155,cmp_Compare_uint32.ce)],[0,1,4,5,6,7,14,20,33],[],[(7,[⟨[],[],[24,27,28,29,30],[]⟩,⟨[],[],[23,27,28,29,30],[]⟩,⟨[0,1],[],[27,28,29,30],[]⟩,⟨[2,0,1],[],[27,28,29,30],[]⟩,⟨[],[],[23,24,25,26,28],[]⟩,⟨[],[],[23,24,25,26,27],[]⟩,⟨[4,5],[],[23,24,25,26],[]⟩,⟨[6,4,5],[],[23,24,25,26],[]⟩,⟨[3,2,0,1,7,6,4,5],[],[],[]⟩,⟨[8,3,2,0,1,7,6,4,5],[],[],[]⟩])],[(100005,whole_order.cg_r),(7,whole_order.c7r)],[],jI,[]⟩
theorem whole_order.p0:PcA whole_order.G Tryz.f128 0:=
  Jf (s:=whole_order.cg_r) (by kernel_rfl) (by kernel_rfl) (jW (sh:=whole_order.c7s) (I:=fun X Q=>(X.1,X.2.1,X.2.2.1,X.2.2.2.1,Q,())) (fun X=>rfl) (fun ρ X Q Z=>(jg (jb fun _=>(jg jc jc)) jc)) (fun ρ X t k=>(kr (fun _=>(by kernel_rfl)) (fun _=>(by kernel_rfl)))) (fun X s=>by kernel_rfl))
theorem whole_order.p1:PcA whole_order.G Tryz.f128 1:=
  js (s:=whole_order.c7r) (by kernel_rfl) (by kernel_rfl) (jp (sh:=whole_order.c7s) (fun ρ X Z=>(jb fun _=>(jb fun _=>(jb fun _=>jc)))) (fun ρ X t k=>(by kernel_rfl)) (fun X=>by kernel_rfl))
theorem whole_order.ok:CalleeOk Tryz.prog 128 whole_order.ce:=fn_ok (G:=whole_order.G) jX mixed Tryz.func128 ⟨(jn cmp_Compare_int.ok (jn cmp_Compare_uint32.ok jK)),jE,jq,jD⟩ (m:=2) (by kernel_rfl) ⟨⟨trivial,whole_order.p0⟩,whole_order.p1⟩ (by kernel_rfl) (fun _=>by kernel_rfl)
def kC (x:Int) (y:Int) (borrow:Int):Option ((Int)×(Int)):=
  some (u32.wrap (u32.wrap (x-y)-borrow),Int.fdiv (ibits BinOp.or IntKind.u32 (ibits BinOp.and IntKind.u32 (ibits BinOp.xor IntKind.u32 (Int.ofNat (nat_lit 2 ^32-Nat.succ (nat_lit 0))) x) y) (ibits BinOp.and IntKind.u32 (ibits BinOp.xor IntKind.u32 (Int.ofNat (nat_lit 2 ^32-Nat.succ (nat_lit 0))) (ibits BinOp.xor IntKind.u32 x y)) (u32.wrap (u32.wrap (x-y)-borrow)))) ((2:Int) ^31))
def kC.ce:Go.Ql.Callee:=⟨[(.int .u32),(.int .u32),(.int .u32)],[(.int .u32),(.int .u32)],fun X=>kC X.1 X.2.1 X.2.2⟩
def kC.G:Env:=⟨25,tab,[],[0,1,2,6,7],[],[],[],[],jI,[]⟩
theorem kC.ok:CalleeOk Tryz.prog 156 kC.ce:=fn_ok (G:=kC.G) jX mixed Tryz.func156 ⟨jK,jE,jq,jD⟩ (m:=0) (by kernel_rfl) trivial (by kernel_rfl) (fun _=>by kernel_rfl)
abbrev sa49:SD:=.one (.own 12 0)
def whole_less.cl_ (b:List (Int))(i:Int)(y:Int)(Z:Int→Option ρ):Option ρ:=
  br (decide (i<(b.length:Int)))
   (bnd (idx b i) fun y1=>
    Z y1)
   (Z y)
def whole_less.cl_s:Shape:=⟨[(0,sa19),(1,sa19),(4,sa19),(5,sa49),(6,sa46),(7,sa2),(8,sa46),(9,sa46),(13,sa19),(14,sa2),(15,sa2)],[(12,sa43)]⟩
def whole_less.cl_r:Ck:=Ck.of (T:=Int) whole_less.cl_s (fun ρ X Z=>whole_less.cl_ X.2.1 (q4 X).1 (q4 X).2.2.1 Z) (fun ρ X V Z=>Z 0 (Shape.inj whole_less.cl_s (X.1,X.2.1,X.2.2.1,X.2.2.2.1,(q4 X).1,(q4 X).2.1,V,(q4 X).2.2.2)))
def whole_less.cb_ (b:List (Int))(c:Int)(t13:List (Int))(t14:Int)(t15:Int)(t12:List (Int))(Z:((Int)×(Int)×(List Int))⊕((Int)×(Int)×(List Int))→Option ρ):Option ρ:=
  br (decide (t15<t14))
   (bnd (idx t13 t15) fun y=>
    bnd (whole_less.cl_ b t15 (0:Int) some) fun y1=>
    bnd (kC y y1 c) fun y2=>
    bnd (inR (t12.length) t15) fun y3=>
    bnd (idx t12 t15) fun y4=>
    Z (.inl (y2.2,(i64.wrap (t15+1)),(List.set t12 (Int.toNat t15) y2.1))))
   (Z (.inr (c,t15,t12)))
def whole_less.cb_s:Shape:=⟨[(0,sa19),(1,sa19),(4,sa19),(5,sa49),(6,sa46),(13,sa19),(14,sa2),(15,sa2)],[(12,sa43)]⟩
def whole_less.cb_r:Ck:=Ck.ofLoop (S:=(Int)×(Int)×(List Int)) (T:=(Int)×(Int)×(List Int)) whole_less.cb_s (fun X=>(X.2.2.2.1,(q4 X).2.2.1,(q4 X).2.2.2.1)) (fun ρ X Q Z=>whole_less.cb_ X.2.1 Q.1 (q4 X).1 (q4 X).2.1 Q.2.1 Q.2.2 Z) (fun ρ X V Z=>Z 2 (Shape.inj whole_less.cb_s (X.1,X.2.1,X.2.2.1,V.1,(q4 X).1,(q4 X).2.1,V.2.1,V.2.2,())))
def whole_less (a:List (Int)) (b:List (Int)):Option (List Int):=
  bnd (okIf (decide ((0:Int)≤(a.length:Int))&&decide ((a.length:Int)≤(a.length:Int))&&decide ((a.length:Int)*(↑(4:Nat):Int)≤140737488355328)&&decide ((a.length:Int)≤140737488355328))) fun y=>
  bnd (iter (fun s↦whole_less.cb_ b s.1 a (a.length:Int) s.2.1 s.2.2 some) ((0:Int),(0:Int),List.replicate (Int.toNat (a.length:Int)) (0:Int))) fun y1=>
  some y1.2.2
def whole_less.ce:Go.Ql.Callee:=⟨[(.sl (.int .u32)),(.sl (.int .u32))],[(.sl (.int .u32))],fun X=>whole_less X.1 X.2⟩
def whole_less.G:Env:=⟨40,tab,[(156,kC.ce)],[0,1,4,5,6,7,8,9,13,14,15,16,23],[12],[],[(100004,whole_less.cb_r),(228677,whole_less.cl_r)],[],jI,[]⟩
theorem whole_less.p0:PcA whole_less.G Tryz.f129 0:=
  Jf (s:=whole_less.cb_r) (by kernel_rfl) (by kernel_rfl) (jW (sh:=whole_less.cb_s) (I:=fun X Q=>(X.1,X.2.1,X.2.2.1,Q.1,(q4 X).1,(q4 X).2.1,Q.2.1,Q.2.2,())) (fun X=>rfl) (fun ρ X Q Z=>(jg (jb fun _=>(jb fun _=>(jb fun _=>(jb fun _=>(jb fun _=>jc))))) jc)) (fun ρ X t k=>(by kernel_rfl)) (fun X s=>by kernel_rfl))
theorem whole_less.p1:PcA whole_less.G Tryz.f129 1:=
  JR (s:=whole_less.cl_r) (by kernel_rfl) (by kernel_rfl) (jp (sh:=whole_less.cl_s) (fun ρ X Z=>(jg (jb fun _=>jc) jc)) (fun ρ X t k=>(by kernel_rfl)) (fun X=>by kernel_rfl))
theorem whole_less.ok:CalleeOk Tryz.prog 129 whole_less.ce:=fn_ok (G:=whole_less.G) jX mixed Tryz.func129 ⟨(jn kC.ok jK),jE,jq,jD⟩ (m:=2) (by kernel_rfl) ⟨⟨trivial,whole_less.p0⟩,whole_less.p1⟩ (by kernel_rfl) (fun _=>by kernel_rfl)
abbrev sa50:SD:=.one (.val (.st (.pair .bool (.sl (.int .u32)))))
def whole_Int_Add.c2 (a0:Bool)(a1:List (Int))(b1:List (Int))(Z:Bool×(List Int)→Option ρ):Option ρ:=
  bnd (whole_sum a1 b1) fun y=>
  bnd (whole_made a0 y) fun y1=>
  Z (y1.1,y1.2)
def whole_Int_Add.c2s:Shape:=⟨[(0,sa50),(1,sa50),(2,sa6),(3,sa7),(4,sa20)],[(2,sa21),(3,sa21),(4,sa21)]⟩
def whole_Int_Add.c2r:Ck:=Ck.of (T:=Bool×(List Int)) whole_Int_Add.c2s (fun ρ X Z=>whole_Int_Add.c2 X.2.2.1 X.2.2.2.1 (q4 X).2.1 Z) (fun ρ X V Z=>Z 0 (Shape.inj whole_Int_Add.c2s (X.1,X.2.1,X.2.2.1,X.2.2.2.1,(q4 X).1,(q4 X).2.1,V.1,V.2,())))
def whole_Int_Add.c4 (a0:Bool)(a1:List (Int))(b1:List (Int))(Z:Bool×(List Int)→Option ρ):Option ρ:=
  bnd (whole_less a1 b1) fun y=>
  bnd (whole_made a0 y) fun y1=>
  Z (y1.1,y1.2)
def whole_Int_Add.c4r:Ck:=Ck.of (T:=Bool×(List Int)) whole_Int_Add.c2s (fun ρ X Z=>whole_Int_Add.c4 X.2.2.1 X.2.2.2.1 (q4 X).2.1 Z) (fun ρ X V Z=>Z 0 (Shape.inj whole_Int_Add.c2s (X.1,X.2.1,X.2.2.1,X.2.2.2.1,(q4 X).1,(q4 X).2.1,V.1,V.2,())))
def whole_Int_Add.c5 (a1:List (Int))(b0:Bool)(b1:List (Int))(Z:Bool×(List Int)→Option ρ):Option ρ:=
  bnd (whole_less b1 a1) fun y=>
  bnd (whole_made b0 y) fun y1=>
  Z (y1.1,y1.2)
def whole_Int_Add.c5r:Ck:=Ck.of (T:=Bool×(List Int)) whole_Int_Add.c2s (fun ρ X Z=>whole_Int_Add.c5 X.2.2.2.1 (q4 X).1 (q4 X).2.1 Z) (fun ρ X V Z=>Z 0 (Shape.inj whole_Int_Add.c2s (X.1,X.2.1,X.2.2.1,X.2.2.2.1,(q4 X).1,(q4 X).2.1,V.1,V.2,())))
def whole_Int_Add (a:Bool×(List Int)) (b:Bool×(List Int)):Option (Bool×(List Int)):=
  br (a.1==b.1)
   (bnd (whole_Int_Add.c2 a.1 a.2 b.2 some) fun y=>
    some (y.1,y.2))
   (bnd (whole_order a.2 b.2) fun y1=>
    br (decide (y1≥0))
     (bnd (whole_Int_Add.c4 a.1 a.2 b.2 some) fun y2=>
      some (y2.1,y2.2))
     (bnd (whole_Int_Add.c5 a.2 b.1 b.2 some) fun y3=>
      some (y3.1,y3.2)))
def whole_Int_Add.ce:Go.Ql.Callee:=⟨[(.st (.pair .bool (.sl (.int .u32)))),(.st (.pair .bool (.sl (.int .u32))))],[(.st (.pair .bool (.sl (.int .u32))))],fun X=>whole_Int_Add X.1 X.2⟩
def whole_Int_Add.G:Env:=⟨40,tab,[(127,whole_sum.ce),(121,whole_made.ce),(128,whole_order.ce),(129,whole_less.ce)],[0,1,2,3,4,9,23],[],[(5,[⟨[],[],[34,35,36,37,38],[]⟩,⟨[0],[],[34,35,36,37,38],[]⟩,⟨[],[],[32,33,36,37],[]⟩,⟨[2],[],[32,33,36,37],[]⟩,⟨[],[],[32,33,34,35],[]⟩,⟨[4],[],[32,33,34,35],[]⟩,⟨[3,2,5,4],[],[32,33],[]⟩,⟨[1,0,6,3,2,5,4],[],[],[]⟩,⟨[7,1,0,6,3,2,5,4],[4],[],[]⟩]),
  (4,[⟨[],[],[26,27,28,29,30],[]⟩,⟨[0],[],[26,27,28,29,30],[]⟩,⟨[],[],[24,25,28,29],[]⟩,⟨[2],[],[24,25,28,29],[]⟩,⟨[],[],[24,25,26,27],[]⟩,⟨[4],[],[24,25,26,27],[]⟩,⟨[3,2,5,4],[],[24,25],[]⟩,⟨[1,0,6,3,2,5,4],[],[],[]⟩,⟨[7,1,0,6,3,2,5,4],[4],[],[]⟩]),
  (2,[⟨[],[],[12,13,14,15,16],[]⟩,⟨[0],[],[12,13,14,15,16],[]⟩,⟨[],[],[10,11,14,15],[]⟩,⟨[2],[],[10,11,14,15],[]⟩,⟨[],[],[10,11,12,13],[]⟩,⟨[4],[],[10,11,12,13],[]⟩,⟨[3,2,5,4],[],[10,11],[]⟩,⟨[1,0,6,3,2,5,4],[],[],[]⟩,⟨[7,1,0,6,3,2,5,4],[4],[],[]⟩])],[(5,whole_Int_Add.c5r),(4,whole_Int_Add.c4r),(2,whole_Int_Add.c2r)],[],jI,[]⟩
theorem whole_Int_Add.p0:PcA whole_Int_Add.G Tryz.f92 0:=
  js (s:=whole_Int_Add.c2r) (by kernel_rfl) (by kernel_rfl) (jp (sh:=whole_Int_Add.c2s) (fun ρ X Z=>(jb fun _=>(jb fun _=>jc))) (fun ρ X t k=>(by kernel_rfl)) (fun X=>by kernel_rfl))
theorem whole_Int_Add.p1:PcA whole_Int_Add.G Tryz.f92 1:=
  js (s:=whole_Int_Add.c4r) (by kernel_rfl) (by kernel_rfl) (jp (sh:=whole_Int_Add.c2s) (fun ρ X Z=>(jb fun _=>(jb fun _=>jc))) (fun ρ X t k=>(by kernel_rfl)) (fun X=>by kernel_rfl))
theorem whole_Int_Add.p2:PcA whole_Int_Add.G Tryz.f92 2:=
  js (s:=whole_Int_Add.c5r) (by kernel_rfl) (by kernel_rfl) (jp (sh:=whole_Int_Add.c2s) (fun ρ X Z=>(jb fun _=>(jb fun _=>jc))) (fun ρ X t k=>(by kernel_rfl)) (fun X=>by kernel_rfl))
theorem whole_Int_Add.ok:CalleeOk Tryz.prog 92 whole_Int_Add.ce:=fn_ok (G:=whole_Int_Add.G) jX mixed Tryz.func92 ⟨(jn whole_sum.ok (jn whole_made.ok (jn whole_order.ok (jn whole_less.ok jK)))),jE,jq,jD⟩ (m:=3) (by kernel_rfl) ⟨⟨⟨trivial,whole_Int_Add.p0⟩,whole_Int_Add.p1⟩,whole_Int_Add.p2⟩ (by kernel_rfl) (fun _=>by kernel_rfl)
def whole_Int_Sub.c1 (a0:Bool)(a1:List (Int))(b0:Bool)(b1:List (Int))(Z:Bool×(List Int)→Option ρ):Option ρ:=
  bnd (whole_Int_Neg (b0,b1)) fun y=>
  bnd (whole_Int_Add (a0,a1) y) fun y1=>
  Z (y1.1,y1.2)
def whole_Int_Sub.c1s:Shape:=⟨[(0,sa50),(1,sa50),(2,sa6),(3,sa7),(4,sa20)],[(2,sa21),(3,sa21),(4,sa21)]⟩
def whole_Int_Sub.c1r:Ck:=Ck.of (T:=Bool×(List Int)) whole_Int_Sub.c1s (fun ρ X Z=>whole_Int_Sub.c1 X.2.2.1 X.2.2.2.1 (q4 X).1 (q4 X).2.1 Z) (fun ρ X V Z=>Z 0 (Shape.inj whole_Int_Sub.c1s (X.1,X.2.1,X.2.2.1,X.2.2.2.1,(q4 X).1,(q4 X).2.1,V.1,V.2,())))
def whole_Int_Sub (a:Bool×(List Int)) (b:Bool×(List Int)):Option (Bool×(List Int)):=
  bnd (whole_Int_Sub.c1 a.1 a.2 b.1 b.2 some) fun y=>
  some (y.1,y.2)
def whole_Int_Sub.ce:Go.Ql.Callee:=⟨[(.st (.pair .bool (.sl (.int .u32)))),(.st (.pair .bool (.sl (.int .u32))))],[(.st (.pair .bool (.sl (.int .u32))))],fun X=>whole_Int_Sub X.1 X.2⟩
def whole_Int_Sub.G:Env:=⟨9,tab,[(116,whole_Int_Neg.ce),(92,whole_Int_Add.ce)],[0,1,2,3,4],[],[(1,[⟨[],[],[6,7],[]⟩,⟨[],[],[5],[]⟩,⟨[1],[],[5],[]⟩,⟨[0,2,1],[],[],[]⟩,⟨[3,0,2,1],[4],[],[]⟩])],[(1,whole_Int_Sub.c1r)],[],jI,[]⟩
theorem whole_Int_Sub.p0:PcA whole_Int_Sub.G Tryz.f151 0:=
  js (s:=whole_Int_Sub.c1r) (by kernel_rfl) (by kernel_rfl) (jp (sh:=whole_Int_Sub.c1s) (fun ρ X Z=>(jb fun _=>(jb fun _=>jc))) (fun ρ X t k=>(by kernel_rfl)) (fun X=>by kernel_rfl))
theorem whole_Int_Sub.ok:CalleeOk Tryz.prog 151 whole_Int_Sub.ce:=fn_ok (G:=whole_Int_Sub.G) jX mixed Tryz.func151 ⟨(jn whole_Int_Neg.ok (jn whole_Int_Add.ok jK)),jE,jq,jD⟩ (m:=1) (by kernel_rfl) ⟨trivial,whole_Int_Sub.p0⟩ (by kernel_rfl) (fun _=>by kernel_rfl)
abbrev sa51:SD:=.one (.ref 8 0)
def whole_Int_Shift.c1 (n:Int)(Z:Bool→Option ρ):Option ρ:=
  br (decide (n<(-10000:Int)))
   (Z true)
   (Z (decide (n>10000)))
def whole_Int_Shift.c1s:Shape:=⟨[(0,sa50),(1,sa2),(2,sa6),(4,sa20),(5,sa34)],[(2,sa21),(4,sa21),(5,sa17)]⟩
def whole_Int_Shift.c1x0:Shape:=⟨[(0,sa50),(1,sa2),(2,sa6),(4,sa20),(5,sa34),(14,sa11)],[(2,sa21),(4,sa21),(5,sa17)]⟩
def whole_Int_Shift.c1r:Ck:=Ck.of (T:=Bool) whole_Int_Shift.c1s (fun ρ X Z=>whole_Int_Shift.c1 X.2.1 Z) (fun ρ X V Z=>Z 0 (Shape.inj whole_Int_Shift.c1x0 (X.1,X.2.1,V,X.2.2)))
def whole_Int_Shift.c4 (n:Int)(a0:Bool)(a1:List (Int))(Z:Bool×(List Int)→Option ρ):Option ρ:=
  bnd (whole_left a1 n) fun y=>
  bnd (whole_made a0 y.1) fun y1=>
  Z (y1.1,y1.2)
def whole_Int_Shift.c4r:Ck:=Ck.of (T:=Bool×(List Int)) whole_Int_Shift.c1s (fun ρ X Z=>whole_Int_Shift.c4 X.2.1 X.2.2.1 X.2.2.2.1 Z) (fun ρ X V Z=>Z 0 (Shape.inj whole_Int_Shift.c1s (X.1,X.2.1,X.2.2.1,X.2.2.2.1,V.1,V.2,(0:Int),(0:Int),())))
def whole_Int_Shift.c7 (lost:Bool)(a0:Bool)(Z:Bool→Option ρ):Option ρ:=
  br lost
   (Z a0)
   (Z false)
def whole_Int_Shift.c7s:Shape:=⟨[(0,sa50),(1,sa2),(2,sa6),(4,sa20),(5,sa34),(6,sa19),(7,sa11),(8,sa51)],[(2,sa21),(4,sa21),(5,sa17),(8,sa21)]⟩
def whole_Int_Shift.c7x0:Shape:=⟨[(0,sa50),(1,sa2),(2,sa6),(4,sa20),(5,sa34),(6,sa19),(7,sa11),(8,sa51),(43,sa11)],[(2,sa21),(4,sa21),(5,sa17),(8,sa21)]⟩
def whole_Int_Shift.c7r:Ck:=Ck.of (T:=Bool) whole_Int_Shift.c7s (fun ρ X Z=>whole_Int_Shift.c7 X.2.2.2.1 (q4 X).1 Z) (fun ρ X V Z=>Z 0 (Shape.inj whole_Int_Shift.c7x0 (X.1,X.2.1,X.2.2.1,X.2.2.2.1,V,(q4 X))))
def whole_Int_Shift.c8 (out0:Bool)(out1:List (Int))(Z:Bool×(List Int)→Option ρ):Option ρ:=
  bnd (whole_Of (1:Int)) fun y=>
  bnd (whole_Int_Sub (out0,out1) y) fun y1=>
  Z (y1.1,y1.2)
def whole_Int_Shift.c8r:Ck:=Ck.of (T:=Bool×(List Int)) whole_Int_Shift.c7s (fun ρ X Z=>whole_Int_Shift.c8 (q8 X).2.2.1 (q8 X).2.2.2.1 Z) (fun ρ X V Z=>Z 0 (Shape.inj whole_Int_Shift.c7s (X.1,X.2.1,X.2.2.1,X.2.2.2.1,(q4 X).1,(q4 X).2.1,(q4 X).2.2.1,(q4 X).2.2.2.1,(q8 X).1,(q8 X).2.1,V.1,V.2,())))
def whole_Int_Shift.cl_ (lost:Bool)(a0:Bool)(out0:Bool)(out1:List (Int))(Z:Bool×(List Int)→Option ρ):Option ρ:=
  bnd (whole_Int_Shift.c7 lost a0 some) fun y=>
  br y
   (bnd (whole_Int_Shift.c8 out0 out1 some) fun y1=>
    Z (y1.1,y1.2))
   (Z (out0,out1))
def whole_Int_Shift.cl_r:Ck:=Ck.of (T:=Bool×(List Int)) whole_Int_Shift.c7s (fun ρ X Z=>whole_Int_Shift.cl_ X.2.2.2.1 (q4 X).1 (q8 X).2.2.1 (q8 X).2.2.2.1 Z) (fun ρ X V Z=>Z 0 (Shape.inj whole_Int_Shift.c7s (X.1,X.2.1,X.2.2.1,X.2.2.2.1,(q4 X).1,(q4 X).2.1,(q4 X).2.2.1,(q4 X).2.2.2.1,(q8 X).1,(q8 X).2.1,V.1,V.2,())))
def whole_Int_Shift (a:Bool×(List Int)) (n:Int):Option ((Bool×(List Int))×((Int)×(Int))):=
  bnd (whole_Int_Shift.c1 n some) fun y=>
  br y
   (some ((false,[]),(5:Int),(0:Int)))
   (br (decide (n≥0))
     (bnd (whole_Int_Shift.c4 n a.1 a.2 some) fun y1=>
      some ((y1.1,y1.2),(0:Int),(0:Int)))
     (bnd (whole_right a.2 (i64.wrap ((0:Int)-n))) fun y2=>
      bnd (whole_made a.1 y2.1) fun y3=>
      bnd (whole_Int_Shift.cl_ y2.2 a.1 y3.1 y3.2 some) fun y4=>
      some ((y4.1,y4.2),(0:Int),(0:Int))))
def whole_Int_Shift.ce:Go.Ql.Callee:=⟨[(.st (.pair .bool (.sl (.int .u32)))),(.int .i64)],[(.st (.pair .bool (.sl (.int .u32)))),(.st (.pair (.int .i64) (.int .i64)))],fun X=>whole_Int_Shift X.1 X.2⟩
def whole_Int_Shift.G:Env:=⟨49,tab,[(121,whole_made.ce),(150,whole_right.ce),(152,whole_Of.ce),(151,whole_Int_Sub.ce)],[0,1,2,4,5,6,7,8,14,18,43],[],[(8,[⟨[],[],[45],[]⟩,⟨[],[],[44],[]⟩,⟨[0,1],[],[],[]⟩,⟨[2,0,1],[8],[],[]⟩]),
  (4,[⟨[],[],[21,22,23,24,26],[24]⟩,⟨[0],[],[21,22,23,24,26],[24]⟩,⟨[],[],[19,20,23,26],[]⟩,⟨[2],[],[19,20,23,26],[]⟩,⟨[],[],[19,20,21,22,26],[]⟩,⟨[3,2,4],[24],[19,20,26],[]⟩,⟨[1,0,5,3,2,4],[24],[26],[]⟩,⟨[],[],[19,20,21,22,23,24,25],[24,4]⟩,⟨[6,1,0,5,3,2,4],[4],[26],[]⟩,⟨[7,8,6,1,0,5,3,2,4],[5],[],[]⟩])],[(228677,whole_Int_Shift.cl_r),(8,whole_Int_Shift.c8r),(7,whole_Int_Shift.c7r),(4,whole_Int_Shift.c4r),(1,whole_Int_Shift.c1r)],[(149,whole_left.mc)],jI,[]⟩
theorem whole_Int_Shift.p0:PcA whole_Int_Shift.G Tryz.f126 0:=
  js (s:=whole_Int_Shift.c1r) (by kernel_rfl) (by kernel_rfl) (jp (sh:=whole_Int_Shift.c1s) (fun ρ X Z=>(jg jc jc)) (fun ρ X t k=>(by kernel_rfl)) (fun X=>by kernel_rfl))
theorem whole_Int_Shift.p1:PcA whole_Int_Shift.G Tryz.f126 1:=
  js (s:=whole_Int_Shift.c4r) (by kernel_rfl) (by kernel_rfl) (jp (sh:=whole_Int_Shift.c1s) (fun ρ X Z=>(jb fun _=>(jb fun _=>jc))) (fun ρ X t k=>(by kernel_rfl)) (fun X=>by kernel_rfl))
theorem whole_Int_Shift.p2:PcA whole_Int_Shift.G Tryz.f126 2:=
  JR (s:=whole_Int_Shift.cl_r) (by kernel_rfl) (by kernel_rfl) (jp (sh:=whole_Int_Shift.c7s) (fun ρ X Z=>(jb fun _=>(jg (jb fun _=>jc) jc))) (fun ρ X t k=>(by kernel_rfl)) (fun X=>by kernel_rfl))
theorem whole_Int_Shift.p3:PcA whole_Int_Shift.G Tryz.f126 3:=
  js (s:=whole_Int_Shift.c7r) (by kernel_rfl) (by kernel_rfl) (jp (sh:=whole_Int_Shift.c7s) (fun ρ X Z=>(jg jc jc)) (fun ρ X t k=>(by kernel_rfl)) (fun X=>by kernel_rfl))
theorem whole_Int_Shift.p4:PcA whole_Int_Shift.G Tryz.f126 4:=
  js (s:=whole_Int_Shift.c8r) (by kernel_rfl) (by kernel_rfl) (jp (sh:=whole_Int_Shift.c7s) (fun ρ X Z=>(jb fun _=>(jb fun _=>jc))) (fun ρ X t k=>(by kernel_rfl)) (fun X=>by kernel_rfl))
theorem whole_Int_Shift.ok:CalleeOk Tryz.prog 126 whole_Int_Shift.ce:=fn_ok (G:=whole_Int_Shift.G) jX mixed Tryz.func126 ⟨(jn whole_made.ok (jn whole_right.ok (jn whole_Of.ok (jn whole_Int_Sub.ok jK)))),(kP whole_left.ok jE),jq,jD⟩ (m:=5) (by kernel_rfl) ⟨⟨⟨⟨⟨trivial,whole_Int_Shift.p0⟩,whole_Int_Shift.p1⟩,whole_Int_Shift.p2⟩,whole_Int_Shift.p3⟩,whole_Int_Shift.p4⟩ (by kernel_rfl) (fun _=>by kernel_rfl)
abbrev sa52:SD:=.one (.aptr 2000700 0)
def jt.pre:Shape:=⟨[(0,sa52),(1,sa2)],[(2000700,sa28)]⟩
def jt.post:Shape:=⟨[],[(2000700,sa28)]⟩
def jt.c6 (i:Int)(t6:Int)(uk:List YN)(Z:List YN→Option ρ):Option ρ:=
  bnd (okIf (decide ((0:Ty.den (Ty.int IntKind.i64))≤i)&&decide (i<(↑(8:Nat):Int)))) fun y=>
  bnd (inR (uk.length) (0:Int)) fun y1=>
  bnd (idx uk (0:Int)) fun y2=>
  bnd (idx y2.1 i) fun y3=>
  bnd (whole_Int_Shift y3 (i64.wrap ((0:Int)-t6))) fun y4=>
  bnd (okIf (decide ((0:Ty.den (Ty.int IntKind.i64))≤i)&&decide (i<(↑(8:Nat):Int)))) fun y5=>
  bnd (inR (uk.length) (0:Int)) fun y6=>
  bnd (idx uk (0:Int)) fun y7=>
  bnd (idx y7.1 i) fun y8=>
  Z (List.set uk (0:Nat) (List.set y7.1 (Int.toNat i) y4.1,y7.2))
def jt.c6s:Shape:=⟨[(0,sa52),(1,sa2),(4,sa2),(5,sa2),(6,sa2),(7,sa2)],[(2000700,sa28)]⟩
def jt.c6r:Ck:=Ck.of (T:=List YN) jt.c6s (fun ρ X Z=>jt.c6 X.2.1 X.2.2.2.1 (q4 X).2.1 Z) (fun ρ X V Z=>Z 0 (Shape.inj jt.c6s (X.1,X.2.1,X.2.2.1,X.2.2.2.1,(q4 X).1,V,())))
def jt.cb_ (i:Int)(t5:Int)(uk:List YN)(Z:((Int)×(List YN))⊕((Int)×(List YN))→Option ρ):Option ρ:=
  br (t5 !=0)
   (bnd (jt.c6 i (Max.max (-10000:Int) (Min.min (10000:Int) t5)) uk some) fun y=>
    Z (.inl ((i64.wrap (t5-Max.max (-10000:Int) (Min.min (10000:Int) t5))),y)))
   (Z (.inr (t5,uk)))
def jt.cb_s:Shape:=⟨[(0,sa52),(1,sa2),(4,sa2),(5,sa2),(7,sa2)],[(2000700,sa28)]⟩
def jt.cb_r:Ck:=Ck.ofLoop (S:=(Int)×(List YN)) (T:=(Int)×(List YN)) jt.cb_s (fun X=>(X.2.2.1,(q4 X).1)) (fun ρ X Q Z=>jt.cb_ X.2.1 Q.1 Q.2 Z) (fun ρ X V Z=>Z 4 (Shape.inj jt.cb_s (X.1,X.2.1,V.1,X.2.2.2.1,V.2,())))
def jt.ce_ (n:Int)(t7:Int)(uk:List YN)(Z:((Int)×(List YN))⊕((Int)×(List YN))→Option ρ):Option ρ:=
  br (decide (t7<8))
   (bnd (iter (fun s↦jt.cb_ t7 s.1 s.2 some) (n,uk)) fun y=>
    Z (.inl ((i64.wrap (t7+1)),y.2)))
   (Z (.inr (t7,uk)))
def jt.ce_s:Shape:=⟨[(0,sa52),(1,sa2),(7,sa2)],[(2000700,sa28)]⟩
def jt.ce_r:Ck:=Ck.ofLoop (S:=(Int)×(List YN)) (T:=(Int)×(List YN)) jt.ce_s (fun X=>(X.2.1,X.2.2.1)) (fun ρ X Q Z=>jt.ce_ X.1 Q.1 Q.2 Z) (fun ρ X V Z=>Z 2 (Shape.inj jt.ce_s (X.1,V.1,V.2,())))
def jt (n:Int) (uk:List YN):Option ((List YN)×Unit):=
  bnd (iter (fun s↦jt.ce_ n s.1 s.2 some) ((0:Int),uk)) fun y=>
  some (y.2,())
def jt.mc:MCallee:=⟨91,jt.pre,jt.post,fun X=>jt X.1 X.2.1⟩
def jt.G:Env:=⟨35,tab,[(126,whole_Int_Shift.ce)],[0,1,4,5,6,7,8,12],[2000700],[(6,[⟨[],[],[18,19,20,21,22,23,24,25,26,16,27,28],[]⟩,⟨[],[],[17,19,20,21,22,23,24,25,26,16,27,28,29],[]⟩,⟨[],[],[17,18,20,24,25,29],[]⟩,⟨[],[],[17,18,19,21,24,25,29],[]⟩,⟨[2],[],[17,18,20,24,25,29],[]⟩,⟨[4,2,3],[],[17,18,24,25,29],[]⟩,⟨[5,4,2,3],[],[17,18,24,25,29],[]⟩,⟨[],[],[17,18,19,20,21,22,23,29],[]⟩,⟨[7],[],[17,18,19,20,21,22,23,29],[]⟩,⟨[6,5,4,2,3,8,7],[],[17,18,29],[]⟩,⟨[9,6,5,4,2,3,8,7],[],[17,18,29],[]⟩,⟨[10,9,6,5,4,2,3,8,7],[],[17,18,28,29],[]⟩,⟨[10,9,6,5,4,2,3,8,7],[],[17,18,27,29,30],[2000700]⟩,⟨[0],[],[18,19,20,21,22,23,24,25,26,16,27,28],[]⟩,⟨[13,0,1,2,3,4,5,6,7,8,9,10,11],[],[28],[]⟩,⟨[14,13,0,1,2,3,4,5,6,7,8,9,10,11],[2000700],[28],[]⟩])],[(100001,jt.ce_r),(100004,jt.cb_r),(6,jt.c6r)],[],jI,[]⟩
theorem jt.p0:PcA jt.G Tryz.f91 0:=
  Jf (s:=jt.ce_r) (by kernel_rfl) (by kernel_rfl) (jW (sh:=jt.ce_s) (I:=fun X Q=>(X.1,Q.1,Q.2,())) (fun X=>rfl) (fun ρ X Q Z=>(jg (jb fun _=>jc) jc)) (fun ρ X t k=>(by kernel_rfl)) (fun X s=>by kernel_rfl))
theorem jt.p1:PcA jt.G Tryz.f91 1:=
  Jf (s:=jt.cb_r) (by kernel_rfl) (by kernel_rfl) (jW (sh:=jt.cb_s) (I:=fun X Q=>(X.1,X.2.1,Q.1,X.2.2.2.1,Q.2,())) (fun X=>rfl) (fun ρ X Q Z=>(jg (jb fun _=>jc) jc)) (fun ρ X t k=>(by kernel_rfl)) (fun X s=>by kernel_rfl))
theorem jt.p2:PcA jt.G Tryz.f91 2:=
  js (s:=jt.c6r) (by kernel_rfl) (by kernel_rfl) (jp (sh:=jt.c6s) (fun ρ X Z=>(jb fun _=>(jb fun _=>(jb fun _=>(jb fun _=>(jb fun _=>(jb fun _=>(jb fun _=>(jb fun _=>(jb fun _=>jc)))))))))) (fun ρ X t k=>(by kernel_rfl)) (fun X=>by kernel_rfl))
theorem jt.ok:MOk Tryz.prog 91 jt.mc:=YU (mc:=jt.mc) (G:=jt.G) jX mixed Tryz.func91 ⟨(jn whole_Int_Shift.ok jK),jE,jq,jD⟩ (m:=3) (by kernel_rfl) ⟨⟨⟨trivial,jt.p0⟩,jt.p1⟩,jt.p2⟩ (by kernel_rfl) (fun _=>by kernel_rfl)
def whole_Int_Twos.cc_ (t6:List (Int))(t7:Int)(t8:Int)(Z:(Int)⊕(((Int)×(Int))⊕(Int))→Option ρ):Option ρ:=
  br (decide (t8<t7))
   (bnd (idx t6 t8) fun y=>
    br (y !=0)
     (bnd (JS y) fun y1=>
      Z (.inr (.inl ((i64.wrap (i64.wrap ((32:Int)*t8)+y1)),t8))))
     (Z (.inl (i64.wrap (t8+1)))))
   (Z (.inr (.inr t8)))
def whole_Int_Twos.cc_s:Shape:=⟨[(0,sa50),(1,sa5),(2,sa2),(6,sa19),(7,sa2),(8,sa2)],[(1,sa21)]⟩
def whole_Int_Twos.cc_r:Ck:=Ck.ofLoop (S:=Int) (T:=((Int)×(Int))⊕(Int)) whole_Int_Twos.cc_s (fun X=>(q4 X).1) (fun ρ X Q Z=>whole_Int_Twos.cc_ X.2.2.1 X.2.2.2.1 Q Z) (fun ρ X V Z=>sel V (fun V=>Z 1 (Shape.inj whole_Int_Twos.cc_s (X.1,V.1,X.2.2.1,X.2.2.2.1,V.2,(q4 X).2))) (fun V=>Z 2 (Shape.inj whole_Int_Twos.cc_s (X.1,X.2.1,X.2.2.1,X.2.2.2.1,V,(q4 X).2))))
def whole_Int_Twos (a:Bool×(List Int)):Option (Int):=
  bnd (iter (fun s↦whole_Int_Twos.cc_ a.2 (↑(List.length a.2):Int) s some) (0:Int)) fun y=>
  sel y
   (fun u=>some u.1)
   (fun v=>some (0:Int))
def whole_Int_Twos.ce:Go.Ql.Callee:=⟨[(.st (.pair .bool (.sl (.int .u32))))],[(.int .i64)],fun X=>whole_Int_Twos X⟩
def whole_Int_Twos.G:Env:=⟨21,tab,[(148,JS.ce)],[0,1,2,3,4,6,7,8,9,14],[],[],[(100002,whole_Int_Twos.cc_r)],[],jI,[]⟩
theorem whole_Int_Twos.p0:PcA whole_Int_Twos.G Tryz.f125 0:=
  Jf (s:=whole_Int_Twos.cc_r) (by kernel_rfl) (by kernel_rfl) (jW (sh:=whole_Int_Twos.cc_s) (I:=fun X Q=>(X.1,X.2.1,X.2.2.1,X.2.2.2.1,Q,(q4 X).2)) (fun X=>rfl) (fun ρ X Q Z=>(jg (jb fun _=>(jg (jb fun _=>jc) jc)) jc)) (fun ρ X t k=>(kr (fun _=>(by kernel_rfl)) (fun _=>(by kernel_rfl)))) (fun X s=>by kernel_rfl))
theorem whole_Int_Twos.ok:CalleeOk Tryz.prog 125 whole_Int_Twos.ce:=fn_ok (G:=whole_Int_Twos.G) jX mixed Tryz.func125 ⟨(jn JS.ok jK),jE,jq,jD⟩ (m:=1) (by kernel_rfl) ⟨trivial,whole_Int_Twos.p0⟩ (by kernel_rfl) (fun _=>by kernel_rfl)
abbrev sa53:SO:=.arr 0 false 69 (.st (.pair .bool (.sl (.int .u32))))
def jU.pre:Shape:=⟨[(0,sa52),(1,sa2)],[(2000700,sa53)]⟩
def jU.post:Shape:=⟨[],[(2000700,sa53)]⟩
def jU.c6 (i:Int)(t6:Int)(uk:List (Bool×(List Int)))(Z:List (Bool×(List Int))→Option ρ):Option ρ:=
  bnd (okIf (decide ((0:Ty.den (Ty.int IntKind.i64))≤i)&&decide (i<(↑(8:Nat):Int)))) fun y=>
  bnd (inR (uk.length) i) fun y1=>
  bnd (idx uk i) fun y2=>
  bnd (whole_Int_Shift y2 (i64.wrap ((0:Int)-t6))) fun y3=>
  bnd (okIf (decide ((0:Ty.den (Ty.int IntKind.i64))≤i)&&decide (i<(↑(8:Nat):Int)))) fun y4=>
  bnd (inR (uk.length) i) fun y5=>
  bnd (idx uk i) fun y6=>
  Z (List.set uk (Int.toNat i) y3.1)
def jU.c6s:Shape:=⟨[(0,sa52),(1,sa2),(4,sa2),(5,sa2),(6,sa2),(7,sa2)],[(2000700,sa53)]⟩
def jU.c6r:Ck:=Ck.of (T:=List (Bool×(List Int))) jU.c6s (fun ρ X Z=>jU.c6 X.2.1 X.2.2.2.1 (q4 X).2.1 Z) (fun ρ X V Z=>Z 0 (Shape.inj jU.c6s (X.1,X.2.1,X.2.2.1,X.2.2.2.1,(q4 X).1,V,())))
def jU.cb_ (i:Int)(t5:Int)(uk:List (Bool×(List Int)))(Z:((Int)×(List (Bool×(List Int))))⊕((Int)×(List (Bool×(List Int))))→Option ρ):Option ρ:=
  br (t5 !=0)
   (bnd (jU.c6 i (Max.max (-10000:Int) (Min.min (10000:Int) t5)) uk some) fun y=>
    Z (.inl ((i64.wrap (t5-Max.max (-10000:Int) (Min.min (10000:Int) t5))),y)))
   (Z (.inr (t5,uk)))
def jU.cb_s:Shape:=⟨[(0,sa52),(1,sa2),(4,sa2),(5,sa2),(7,sa2)],[(2000700,sa53)]⟩
def jU.cb_r:Ck:=Ck.ofLoop (S:=(Int)×(List (Bool×(List Int)))) (T:=(Int)×(List (Bool×(List Int)))) jU.cb_s (fun X=>(X.2.2.1,(q4 X).1)) (fun ρ X Q Z=>jU.cb_ X.2.1 Q.1 Q.2 Z) (fun ρ X V Z=>Z 4 (Shape.inj jU.cb_s (X.1,X.2.1,V.1,X.2.2.2.1,V.2,())))
def jU.ce_ (n:Int)(t7:Int)(uk:List (Bool×(List Int)))(Z:((Int)×(List (Bool×(List Int))))⊕((Int)×(List (Bool×(List Int))))→Option ρ):Option ρ:=
  br (decide (t7<8))
   (bnd (iter (fun s↦jU.cb_ t7 s.1 s.2 some) (n,uk)) fun y=>
    Z (.inl ((i64.wrap (t7+1)),y.2)))
   (Z (.inr (t7,uk)))
def jU.ce_s:Shape:=⟨[(0,sa52),(1,sa2),(7,sa2)],[(2000700,sa53)]⟩
def jU.ce_r:Ck:=Ck.ofLoop (S:=(Int)×(List (Bool×(List Int)))) (T:=(Int)×(List (Bool×(List Int)))) jU.ce_s (fun X=>(X.2.1,X.2.2.1)) (fun ρ X Q Z=>jU.ce_ X.1 Q.1 Q.2 Z) (fun ρ X V Z=>Z 2 (Shape.inj jU.ce_s (X.1,V.1,V.2,())))
def jU (n:Int) (uk:List (Bool×(List Int))):Option ((List (Bool×(List Int)))×Unit):=
  bnd (iter (fun s↦jU.ce_ n s.1 s.2 some) ((0:Int),uk)) fun y=>
  some (y.2,())
def jU.mc:MCallee:=⟨91,jU.pre,jU.post,fun X=>jU X.1 X.2.1⟩
def jU.G:Env:=⟨35,tab,[(126,whole_Int_Shift.ce)],[0,1,4,5,6,7,8,12],[2000700],[(6,[⟨[],[],[18,19,20,21,22,23,24,25,26,16,27,28],[]⟩,⟨[],[],[17,19,20,21,22,23,24,25,26,16,27,28,29],[]⟩,⟨[],[],[17,18,20,24,25,29],[]⟩,⟨[],[],[17,18,19,21,24,25,29],[]⟩,⟨[2],[],[17,18,20,24,25,29],[]⟩,⟨[4,2,3],[],[17,18,24,25,29],[]⟩,⟨[5,4,2,3],[],[17,18,24,25,29],[]⟩,⟨[],[],[17,18,19,20,21,22,23,29],[]⟩,⟨[7],[],[17,18,19,20,21,22,23,29],[]⟩,⟨[6,5,4,2,3,8,7],[],[17,18,29],[]⟩,⟨[9,6,5,4,2,3,8,7],[],[17,18,29],[]⟩,⟨[10,9,6,5,4,2,3,8,7],[],[17,18,28,29],[]⟩,⟨[10,9,6,5,4,2,3,8,7],[],[17,18,27,29,30],[2000700]⟩,⟨[0],[],[18,19,20,21,22,23,24,25,26,16,27,28],[]⟩,⟨[13,0,1,2,3,4,5,6,7,8,9,10,11],[],[28],[]⟩,⟨[14,13,0,1,2,3,4,5,6,7,8,9,10,11],[2000700],[28],[]⟩])],[(100001,jU.ce_r),(100004,jU.cb_r),(6,jU.c6r)],[],jI,[]⟩
theorem jU.p0:PcA jU.G Tryz.f91 0:=
  Jf (s:=jU.ce_r) (by kernel_rfl) (by kernel_rfl) (jW (sh:=jU.ce_s) (I:=fun X Q=>(X.1,Q.1,Q.2,())) (fun X=>rfl) (fun ρ X Q Z=>(jg (jb fun _=>jc) jc)) (fun ρ X t k=>(by kernel_rfl)) (fun X s=>by kernel_rfl))
theorem jU.p1:PcA jU.G Tryz.f91 1:=
  Jf (s:=jU.cb_r) (by kernel_rfl) (by kernel_rfl) (jW (sh:=jU.cb_s) (I:=fun X Q=>(X.1,X.2.1,Q.1,X.2.2.2.1,Q.2,())) (fun X=>rfl) (fun ρ X Q Z=>(jg (jb fun _=>jc) jc)) (fun ρ X t k=>(by kernel_rfl)) (fun X s=>by kernel_rfl))
theorem jU.p2:PcA jU.G Tryz.f91 2:=
  js (s:=jU.c6r) (by kernel_rfl) (by kernel_rfl) (jp (sh:=jU.c6s) (fun ρ X Z=>(jb fun _=>(jb fun _=>(jb fun _=>(jb fun _=>(jb fun _=>(jb fun _=>(jb fun _=>jc)))))))) (fun ρ X t k=>(by kernel_rfl)) (fun X=>by kernel_rfl))
theorem jU.ok:MOk Tryz.prog 91 jU.mc:=YU (mc:=jU.mc) (G:=jU.G) jX mixed Tryz.func91 ⟨(jn whole_Int_Shift.ok jK),jE,jq,jD⟩ (m:=3) (by kernel_rfl) ⟨⟨⟨trivial,jU.p0⟩,jU.p1⟩,jU.p2⟩ (by kernel_rfl) (fun _=>by kernel_rfl)
abbrev sa54:SD:=.one (.aptr 2 0)
def jv.c5 (twos:Int)(any:Bool)(x0:Bool)(x1:List (Int))(Z:Bool→Option ρ):Option ρ:=
  bnd (whole_Int_Sign (x0,x1)) fun y=>
  br (y !=0)
   (br (!any)
     (Z true)
     (bnd (whole_Int_Twos (x0,x1)) fun y1=>
      Z (decide (y1<twos))))
   (Z false)
def jv.c5s:Shape:=⟨[(0,sa27),(1,sa2),(2,sa54),(4,sa25),(5,sa2),(6,sa11),(8,sa51),(10,sa27),(11,sa2)],[(2,sa53),(4,sa28),(8,sa21)]⟩
def jv.c5x0:Shape:=⟨[(0,sa27),(1,sa2),(2,sa54),(4,sa25),(5,sa2),(6,sa11),(8,sa51),(10,sa27),(11,sa2),(26,sa11)],[(2,sa53),(4,sa28),(8,sa21)]⟩
def jv.c5r:Ck:=Ck.of (T:=Bool) jv.c5s (fun ρ X Z=>jv.c5 X.2.2.1 X.2.2.2.1 (q8 X).1 (q8 X).2.1 Z) (fun ρ X V Z=>Z 0 (Shape.inj jv.c5x0 (X.1,X.2.1,X.2.2.1,X.2.2.2.1,(q4 X).1,(q4 X).2.1,V,(q4 X).2.2)))
def jv.ch_ (twos:Int)(any:Bool)(t10:List (Bool×(List Int)))(t11:Int)(Z:(Int)×Bool→Option ρ):Option ρ:=
  bnd (idx t10 t11) fun y=>
  bnd (jv.c5 twos any y.1 y.2 some) fun y1=>
  br y1
   (bnd (whole_Int_Twos (y.1,y.2)) fun y2=>
    Z (y2,true))
   (Z (twos,any))
def jv.ch_s:Shape:=⟨[(0,sa27),(1,sa2),(2,sa54),(4,sa25),(5,sa2),(6,sa11),(10,sa27),(11,sa2)],[(2,sa53),(4,sa28)]⟩
def jv.ch_r:Ck:=Ck.of (T:=(Int)×Bool) jv.ch_s (fun ρ X Z=>jv.ch_ X.2.2.1 X.2.2.2.1 (q4 X).1 (q4 X).2.1 Z) (fun ρ X V Z=>Z 0 (Shape.inj jv.ch_s (X.1,X.2.1,V.1,V.2,(q4 X))))
def jv.ca_ (twos:Int)(any:Bool)(t10:List (Bool×(List Int)))(t11:Int)(Z:((Int)×Bool×(Int))⊕((Int)×Bool×(Int))→Option ρ):Option ρ:=
  br (decide (t11<8))
   (bnd (jv.ch_ twos any t10 t11 some) fun y=>
    Z (.inl (y.1,y.2,(i64.wrap (t11+1)))))
   (Z (.inr (twos,any,t11)))
def jv.ca_r:Ck:=Ck.ofLoop (S:=(Int)×Bool×(Int)) (T:=(Int)×Bool×(Int)) jv.ch_s (fun X=>(X.2.2.1,X.2.2.2.1,(q4 X).2.1)) (fun ρ X Q Z=>jv.ca_ Q.1 Q.2.1 (q4 X).1 Q.2.2 Z) (fun ρ X V Z=>Z 2 (Shape.inj jv.ch_s (X.1,X.2.1,V.1,V.2.1,(q4 X).1,V.2.2,(q4 X).2.2)))
def jv.cK_ (e:Int)(twos:Int)(c_1:List (Bool×(List Int)))(Z:(Int)×(List (Bool×(List Int)))→Option ρ):Option ρ:=
  br (Min.min twos e !=0)
   (bnd (jU (Min.min twos e) c_1) fun y=>
    Z ((i64.wrap (e-Min.min twos e)),y.1))
   (Z (e,c_1))
def jv.cK_r:Ck:=Ck.of (T:=(Int)×(List (Bool×(List Int)))) jv.ch_s (fun ρ X Z=>jv.cK_ X.2.1 X.2.2.1 (q4 X).2.2.1 Z) (fun ρ X V Z=>Z 0 (Shape.inj jv.ch_s (X.1,V.1,X.2.2.1,X.2.2.2.1,(q4 X).1,(q4 X).2.1,V.2,(q4 X).2.2.2)))
def jv (c:List (Bool×(List Int))) (e:Int):Option YN:=
  bnd (okIf (decide (c.length=8))) fun y=>
  bnd (iter (fun s↦jv.ca_ s.1 s.2.1 c s.2.2 some) ((0:Int),false,(0:Int))) fun y1=>
  br (!y1.2.1)
   (some (List.replicate (8:Nat) (false,[]),(0:Int)))
   (bnd (jv.cK_ e y1.1 c some) fun y2=>
    bnd (okIf (decide (List.length y2.2=8))) fun y3=>
    some (y2.2,y2.1))
def jv.ce:Go.Ql.Callee:=⟨[(.ar 8 (.st (.pair .bool (.sl (.int .u32))))),(.int .i64)],[(.st (.pair (.ar 8 (.st (.pair .bool (.sl (.int .u32))))) (.int .i64)))],fun X=>jv X.1 X.2⟩
def jv.G:Env:=⟨46,tab,[(60,whole_Int_Sign.ce),(125,whole_Int_Twos.ce)],[0,1,2,4,5,6,8,9,10,11,12,26,31,37],[2,4,32,45],[],[(240969,jv.cK_r),(100003,jv.ca_r),(216392,jv.ch_r),(5,jv.c5r)],[(91,jU.mc)],jI,[]⟩
theorem jv.p0:PcA jv.G Tryz.f90 0:=
  Jf (s:=jv.ca_r) (by kernel_rfl) (by kernel_rfl) (jW (sh:=jv.ch_s) (I:=fun X Q=>(X.1,X.2.1,Q.1,Q.2.1,(q4 X).1,Q.2.2,(q4 X).2.2)) (fun X=>rfl) (fun ρ X Q Z=>(jg (jb fun _=>jc) jc)) (fun ρ X t k=>(by kernel_rfl)) (fun X s=>by kernel_rfl))
theorem jv.p1:PcA jv.G Tryz.f90 1:=
  JR (s:=jv.ch_r) (by kernel_rfl) (by kernel_rfl) (jp (sh:=jv.ch_s) (fun ρ X Z=>(jb fun _=>(jb fun _=>(jg (jb fun _=>jc) jc)))) (fun ρ X t k=>(by kernel_rfl)) (fun X=>by kernel_rfl))
theorem jv.p2:PcA jv.G Tryz.f90 2:=
  js (s:=jv.c5r) (by kernel_rfl) (by kernel_rfl) (jp (sh:=jv.c5s) (fun ρ X Z=>(jb fun _=>(jg (jg jc (jb fun _=>jc)) jc))) (fun ρ X t k=>(by kernel_rfl)) (fun X=>by kernel_rfl))
theorem jv.p3:PcA jv.G Tryz.f90 3:=
  JR (s:=jv.cK_r) (by kernel_rfl) (by kernel_rfl) (jp (sh:=jv.ch_s) (fun ρ X Z=>(jg (jb fun _=>jc) jc)) (fun ρ X t k=>(by kernel_rfl)) (fun X=>by kernel_rfl))
theorem jv.ok:CalleeOk Tryz.prog 90 jv.ce:=fn_ok (G:=jv.G) jX mixed Tryz.func90 ⟨(jn whole_Int_Sign.ok (jn whole_Int_Twos.ok jK)),(kP jU.ok jE),jq,jD⟩ (m:=4) (by kernel_rfl) ⟨⟨⟨⟨trivial,jv.p0⟩,jv.p1⟩,jv.p2⟩,jv.p3⟩ (by kernel_rfl) (fun _=>by kernel_rfl)
abbrev sa55:SD:=.one (.aptr 3 0)
def jz.cB_ (a_1:List YN)(b_1:List YN)(Z:(List YN)×(List YN)→Option ρ):Option ρ:=
  bnd (inR (a_1.length) (0:Int)) fun y=>
  bnd (idx a_1 (0:Int)) fun y1=>
  bnd (inR (b_1.length) (0:Int)) fun y2=>
  bnd (idx b_1 (0:Int)) fun y3=>
  br (decide (y1.2<y3.2))
   (bnd (inR (a_1.length) (0:Int)) fun y4=>
    bnd (inR (a_1.length) (0:Int)) fun y5=>
    bnd (idx a_1 (0:Int)) fun y6=>
    bnd (inR (b_1.length) (0:Int)) fun y7=>
    bnd (idx b_1 (0:Int)) fun y8=>
    bnd (jt (i64.wrap (y6.2-y8.2)) a_1) fun y9=>
    bnd (inR (b_1.length) (0:Int)) fun y10=>
    bnd (idx b_1 (0:Int)) fun y11=>
    bnd (inR (List.length y9.1) (0:Int)) fun y12=>
    bnd (idx y9.1 (0:Int)) fun y13=>
    Z ((List.set y9.1 (0:Nat) (y13.1,y11.2)),b_1))
   (bnd (inR (b_1.length) (0:Int)) fun y14=>
    bnd (idx b_1 (0:Int)) fun y15=>
    bnd (inR (a_1.length) (0:Int)) fun y16=>
    bnd (idx a_1 (0:Int)) fun y17=>
    br (decide (y15.2<y17.2))
     (bnd (inR (b_1.length) (0:Int)) fun y18=>
      bnd (inR (b_1.length) (0:Int)) fun y19=>
      bnd (idx b_1 (0:Int)) fun y20=>
      bnd (inR (a_1.length) (0:Int)) fun y21=>
      bnd (idx a_1 (0:Int)) fun y22=>
      bnd (jt (i64.wrap (y20.2-y22.2)) b_1) fun y23=>
      Z (a_1,y23.1))
     (Z (a_1,b_1)))
def jz.cB_s:Shape:=⟨[(0,sa23),(1,sa23),(2,sa54),(3,sa55),(4,sa25)],[(2,sa28),(3,sa28),(4,sa28)]⟩
def jz.cB_r:Ck:=Ck.of (T:=(List YN)×(List YN)) jz.cB_s (fun ρ X Z=>jz.cB_ X.2.2.1 X.2.2.2.1 Z) (fun ρ X V Z=>Z 0 (Shape.inj jz.cB_s (X.1,X.2.1,V.1,V.2,(q4 X))))
def jz.c9 (i:Int)(a_1:List YN)(b_1:List YN)(Z:List YN→Option ρ):Option ρ:=
  bnd (inR (a_1.length) (0:Int)) fun y=>
  bnd (okIf (decide ((0:Ty.den (Ty.int IntKind.i64))≤i)&&decide (i<(↑(8:Nat):Int)))) fun y1=>
  bnd (idx a_1 (0:Int)) fun y2=>
  bnd (idx y2.1 i) fun y3=>
  bnd (inR (b_1.length) (0:Int)) fun y4=>
  bnd (okIf (decide ((0:Ty.den (Ty.int IntKind.i64))≤i)&&decide (i<(↑(8:Nat):Int)))) fun y5=>
  bnd (idx b_1 (0:Int)) fun y6=>
  bnd (idx y6.1 i) fun y7=>
  bnd (whole_Int_Add y3 y7) fun y8=>
  bnd (inR (a_1.length) (0:Int)) fun y9=>
  bnd (okIf (decide ((0:Ty.den (Ty.int IntKind.i64))≤i)&&decide (i<(↑(8:Nat):Int)))) fun y10=>
  bnd (idx a_1 (0:Int)) fun y11=>
  bnd (idx y11.1 i) fun y12=>
  Z (List.set a_1 (0:Nat) (List.set y11.1 (Int.toNat i) y8,y11.2))
def jz.c9s:Shape:=⟨[(0,sa23),(1,sa23),(2,sa54),(3,sa55),(4,sa25),(5,sa2),(35,sa2)],[(2,sa28),(3,sa28),(4,sa28)]⟩
def jz.c9r:Ck:=Ck.of (T:=List YN) jz.c9s (fun ρ X Z=>jz.c9 X.2.2.1 (q4 X).1 (q4 X).2.1 Z) (fun ρ X V Z=>Z 0 (Shape.inj jz.c9s (X.1,X.2.1,X.2.2.1,X.2.2.2.1,V,(q4 X).2)))
def jz.cd_ (t35:Int)(a_1:List YN)(b_1:List YN)(Z:((Int)×(List YN))⊕((Int)×(List YN))→Option ρ):Option ρ:=
  br (decide (t35<8))
   (bnd (jz.c9 t35 a_1 b_1 some) fun y=>
    Z (.inl ((i64.wrap (t35+1)),y)))
   (Z (.inr (t35,a_1)))
def jz.cd_s:Shape:=⟨[(0,sa23),(1,sa23),(2,sa54),(3,sa55),(4,sa25),(35,sa2)],[(2,sa28),(3,sa28),(4,sa28)]⟩
def jz.cd_r:Ck:=Ck.ofLoop (S:=(Int)×(List YN)) (T:=(Int)×(List YN)) jz.cd_s (fun X=>(X.2.2.1,X.2.2.2.1)) (fun ρ X Q Z=>jz.cd_ Q.1 Q.2 (q4 X).1 Z) (fun ρ X V Z=>Z 3 (Shape.inj jz.cd_s (X.1,X.2.1,V.1,V.2,(q4 X))))
def jz (a:YN) (b:YN):Option YN:=
  bnd (jz.cB_ [a] [b] some) fun y=>
  bnd (iter (fun s↦jz.cd_ s.1 s.2 y.2 some) ((0:Int),y.1)) fun y1=>
  bnd (inR (List.length y1.2) (0:Int)) fun y2=>
  bnd (idx y1.2 (0:Int)) fun y3=>
  bnd (inR (List.length y1.2) (0:Int)) fun y4=>
  bnd (idx y1.2 (0:Int)) fun y5=>
  bnd (jv y3.1 y5.2) fun y6=>
  some y6
def jz.ce:Go.Ql.Callee:=⟨[(.st (.pair (.ar 8 (.st (.pair .bool (.sl (.int .u32))))) (.int .i64))),(.st (.pair (.ar 8 (.st (.pair .bool (.sl (.int .u32))))) (.int .i64)))],[(.st (.pair (.ar 8 (.st (.pair .bool (.sl (.int .u32))))) (.int .i64)))],fun X=>jz X.1 X.2⟩
def jz.G:Env:=⟨56,tab,[(92,whole_Int_Add.ce),(90,jv.ce)],[0,1,2,3,4,5,6,22,35,36],[2,3,4],[(9,[⟨[],[],[39,40,41,42,43,44,45,46,47,48],[]⟩,⟨[],[],[38,40,43,44,45,46,48],[]⟩,⟨[],[],[38,39,43,44,45,46,48],[]⟩,⟨[2,1],[],[38,43,44,45,46,48],[]⟩,⟨[3,2,1],[],[38,43,44,45,46,48],[]⟩,⟨[],[],[38,39,40,41,42,44,48],[]⟩,⟨[],[],[38,39,40,41,42,43,48],[]⟩,⟨[6,5],[],[38,39,40,41,42,48],[]⟩,⟨[7,6,5],[],[38,39,40,41,42,48],[]⟩,⟨[4,3,2,1,8,7,6,5],[],[38,48],[]⟩,⟨[],[],[38,39,40,41,42,43,44,45,46,47],[]⟩,⟨[10,0,1,2,3,4,5,6,7,8,9],[],[],[]⟩,⟨[11,10,0,1,2,3,4,5,6,7,8,9],[2],[],[]⟩])],[(100007,jz.cd_r),(9,jz.c9r),(204108,jz.cB_r)],[(91,jt.mc)],jI,[]⟩
theorem jz.p0:PcA jz.G Tryz.f59 0:=
  JR (s:=jz.cB_r) (by kernel_rfl) (by kernel_rfl) (jp (sh:=jz.cB_s) (fun ρ X Z=>(jb fun _=>(jb fun _=>(jb fun _=>(jb fun _=>(jg (jb fun _=>(jb fun _=>(jb fun _=>(jb fun _=>(jb fun _=>(jb fun _=>(jb fun _=>(jb fun _=>(jb fun _=>(jb fun _=>jc)))))))))) (jb fun _=>(jb fun _=>(jb fun _=>(jb fun _=>(jg (jb fun _=>(jb fun _=>(jb fun _=>(jb fun _=>(jb fun _=>(jb fun _=>jc)))))) jc))))))))))) (fun ρ X t k=>(by kernel_rfl)) (fun X=>by kernel_rfl))
theorem jz.p1:PcA jz.G Tryz.f59 1:=
  Jf (s:=jz.cd_r) (by kernel_rfl) (by kernel_rfl) (jW (sh:=jz.cd_s) (I:=fun X Q=>(X.1,X.2.1,Q.1,Q.2,(q4 X))) (fun X=>rfl) (fun ρ X Q Z=>(jg (jb fun _=>jc) jc)) (fun ρ X t k=>(by kernel_rfl)) (fun X s=>by kernel_rfl))
theorem jz.p2:PcA jz.G Tryz.f59 2:=
  js (s:=jz.c9r) (by kernel_rfl) (by kernel_rfl) (jp (sh:=jz.c9s) (fun ρ X Z=>(jb fun _=>(jb fun _=>(jb fun _=>(jb fun _=>(jb fun _=>(jb fun _=>(jb fun _=>(jb fun _=>(jb fun _=>(jb fun _=>(jb fun _=>(jb fun _=>(jb fun _=>jc)))))))))))))) (fun ρ X t k=>(by kernel_rfl)) (fun X=>by kernel_rfl))
theorem jz.ok:CalleeOk Tryz.prog 59 jz.ce:=fn_ok (G:=jz.G) jX mixed Tryz.func59 ⟨(jn whole_Int_Add.ok (jn jv.ok jK)),(kP jt.ok jE),jq,jD⟩ (m:=3) (by kernel_rfl) ⟨⟨⟨trivial,jz.p0⟩,jz.p1⟩,jz.p2⟩ (by kernel_rfl) (fun _=>by kernel_rfl)
def kh (a:YN):Option YN:=
  bnd (jA a (8:Int)) fun y=>
  some y
def kh.ce:Go.Ql.Callee:=⟨[(.st (.pair (.ar 8 (.st (.pair .bool (.sl (.int .u32))))) (.int .i64)))],[(.st (.pair (.ar 8 (.st (.pair .bool (.sl (.int .u32))))) (.int .i64)))],fun X=>kh X⟩
def kh.G:Env:=⟨5,tab,[(134,jA.ce)],[0,1,2],[2,8000001],[],[],[],jI,[]⟩
theorem kh.ok:CalleeOk Tryz.prog 164 kh.ce:=fn_ok (G:=kh.G) jX mixed Tryz.func164 ⟨(jn jA.ok jK),jE,jq,jD⟩ (m:=0) (by kernel_rfl) trivial (by kernel_rfl) (fun _=>by kernel_rfl)
def Jn.c1 (a_1:YN)(b_1:YN)(t4:List YN)(Z:List YN→Option ρ):Option ρ:=
  bnd (kh b_1) fun y=>
  bnd (jz a_1 y) fun y1=>
  bnd (idx t4 (0:Int)) fun y2=>
  Z (List.set t4 (0:Nat) y1)
def Jn.c1s:Shape:=⟨[(0,sa23),(1,sa23),(2,sa24),(3,sa24),(4,sa25)],[(4,sa28)]⟩
def Jn.c1r:Ck:=Ck.of (T:=List YN) Jn.c1s (fun ρ X Z=>Jn.c1 X.2.2.1 X.2.2.2.1 (q4 X).1 Z) (fun ρ X V Z=>Z 0 (Shape.inj Jn.c1s (X.1,X.2.1,X.2.2.1,X.2.2.2.1,V,())))
def Jn (a:YN) (b:YN):Option YN:=
  bnd (Jn.c1 a b [(List.replicate (8:Nat) (false,[]),(0:Int))] some) fun y=>
  bnd (idx y (0:Int)) fun y1=>
  some y1
def Jn.ce:Go.Ql.Callee:=⟨[(.st (.pair (.ar 8 (.st (.pair .bool (.sl (.int .u32))))) (.int .i64))),(.st (.pair (.ar 8 (.st (.pair .bool (.sl (.int .u32))))) (.int .i64)))],[(.st (.pair (.ar 8 (.st (.pair .bool (.sl (.int .u32))))) (.int .i64)))],fun X=>Jn X.1 X.2⟩
def Jn.G:Env:=⟨9,tab,[(164,kh.ce),(59,jz.ce)],[0,1,2,3,4],[4,8000002,8000003],[(1,[⟨[],[],[6,7],[]⟩,⟨[],[],[5],[]⟩,⟨[1],[],[5],[]⟩,⟨[0,2,1],[],[],[]⟩,⟨[3,0,2,1],[4],[],[]⟩])],[(1,Jn.c1r)],[],jI,[]⟩
theorem Jn.p0:PcA Jn.G Tryz.f137 0:=
  js (s:=Jn.c1r) (by kernel_rfl) (by kernel_rfl) (jp (sh:=Jn.c1s) (fun ρ X Z=>(jb fun _=>(jb fun _=>(jb fun _=>jc)))) (fun ρ X t k=>(by kernel_rfl)) (fun X=>by kernel_rfl))
theorem Jn.ok:CalleeOk Tryz.prog 137 Jn.ce:=fn_ok (G:=Jn.G) jX mixed Tryz.func137 ⟨(jn kh.ok (jn jz.ok jK)),jE,jq,jD⟩ (m:=1) (by kernel_rfl) ⟨trivial,Jn.p0⟩ (by kernel_rfl) (fun _=>by kernel_rfl)
def Jo.c1 (a_1:YN)(Z:List YN→Option ρ):Option ρ:=
  bnd (jA a_1 (2:Int)) fun y=>
  bnd (jA a_1 (6:Int)) fun y1=>
  bnd (Jn y y1) fun y2=>
  Z [y2]
def Jo.c1s:Shape:=⟨[(0,sa23),(1,sa24),(2,sa54)],[(2,sa28)]⟩
def Jo.c1x0:Shape:=⟨[(0,sa23),(1,sa24),(2,sa54),(3,sa55)],[(2,sa28),(3,sa28)]⟩
def Jo.c1r:Ck:=Ck.of (T:=List YN) Jo.c1s (fun ρ X Z=>Jo.c1 X.2.1 Z) (fun ρ X V Z=>Z 0 (Shape.inj Jo.c1x0 (X.1,X.2.1,X.2.2.1,V,())))
def Jo (a:YN):Option YN:=
  bnd (Jo.c1 a some) fun y=>
  bnd (inR (y.length) (0:Int)) fun y1=>
  bnd (idx y (0:Int)) fun y2=>
  bnd (inR (y.length) (0:Int)) fun y3=>
  bnd (idx y (0:Int)) fun y4=>
  bnd (jv y2.1 (i64.wrap (y4.2+1))) fun y5=>
  some y5
def Jo.ce:Go.Ql.Callee:=⟨[(.st (.pair (.ar 8 (.st (.pair .bool (.sl (.int .u32))))) (.int .i64)))],[(.st (.pair (.ar 8 (.st (.pair .bool (.sl (.int .u32))))) (.int .i64)))],fun X=>Jo X⟩
def Jo.G:Env:=⟨15,tab,[(134,jA.ce),(137,Jn.ce),(90,jv.ce)],[0,1,2,3],[2,3,8000001],[(1,[⟨[],[],[6,3],[3]⟩,⟨[0],[],[6,3],[3]⟩,⟨[],[],[4,5,3],[3]⟩,⟨[2,1,0],[],[3],[3]⟩,⟨[1,0,3,2],[],[3],[3]⟩,⟨[],[3],[4,5,6,7,8],[]⟩,⟨[5,4,1,0,3,2],[3],[],[]⟩])],[(1,Jo.c1r)],[],jI,[]⟩
theorem Jo.p0:PcA Jo.G Tryz.f136 0:=
  js (s:=Jo.c1r) (by kernel_rfl) (by kernel_rfl) (jp (sh:=Jo.c1s) (fun ρ X Z=>(jb fun _=>(jb fun _=>(jb fun _=>jc)))) (fun ρ X t k=>(by kernel_rfl)) (fun X=>by kernel_rfl))
theorem Jo.ok:CalleeOk Tryz.prog 136 Jo.ce:=fn_ok (G:=Jo.G) jX mixed Tryz.func136 ⟨(jn jA.ok (jn Jn.ok (jn jv.ok jK))),jE,jq,jD⟩ (m:=1) (by kernel_rfl) ⟨trivial,Jo.p0⟩ (by kernel_rfl) (fun _=>by kernel_rfl)
abbrev sa56:SO:=.box [.win 2000000 0]
abbrev sa57:SO:=.box [.val (.int .i64)]
abbrev sa58:SD:=.one (.clo 44)
abbrev sa59:SD:=.one (.clo 62)
abbrev sa60:SD:=.one (.clo 88)
abbrev sa61:SD:=.one (.aptr 10 0)
abbrev sa62:SD:=.one (.aptr 11 0)
def jd.pre:Shape:=⟨[(0,sa40),(1,sa12)],[(2000000,sa28)]⟩
def jd.post:Shape:=⟨[],[(2000000,sa28)]⟩
def jd.c1 (o2:List (Int))(o3:Int)(Z:Int→Option ρ):Option ρ:=
  bnd (JE o2) fun y=>
  bnd (okIf (decide ((0:Int)≤o3))) fun y1=>
  Z y
def jd.c1s:Shape:=⟨[(0,sa40),(1,sa12),(2,sa6),(3,sa7)],[(2,sa56),(3,sa14),(2000000,sa28)]⟩
def jd.c1x0:Shape:=⟨[(0,sa40),(1,sa12),(2,sa6),(3,sa7),(4,sa2),(5,sa34)],[(2,sa56),(3,sa14),(5,sa57),(2000000,sa28)]⟩
def jd.c1r:Ck:=Ck.of (T:=Int) jd.c1s (fun ρ X Z=>jd.c1 (q4 X).2.2.2.1 (q8 X).1 Z) (fun ρ X V Z=>Z 0 (Shape.inj jd.c1x0 (X.1,X.2.1,X.2.2.1,V,X.2.2.2.1,(q4 X).1,(q4 X).2.1,(q4 X).2.2.1,(q4 X).2.2.2.1,(q8 X).1,(q8 X).2.1,(q8 X).2.2.1,(i64.wrap ((1:Int)*2^Min.min (Int.toNat (q8 X).1) (64:Nat))),(q8 X).2.2.2)))
def jd.c7 (x:Int)(v0lo:Int)(v0n:Int)(o1:Int)(uj:List YN)(Z:List YN→Option ρ):Option ρ:=
  bnd (okIf (decide ((0:Ty.den (Ty.int IntKind.i64))≤x)&&decide (x<v0n))) fun y=>
  bnd (idx uj (v0lo+x)) fun y1=>
  bnd (jA y1 o1) fun y2=>
  bnd (okIf (decide ((0:Ty.den (Ty.int IntKind.i64))≤x)&&decide (x<v0n))) fun y3=>
  bnd (idx uj (v0lo+x)) fun y4=>
  Z (List.set uj (Int.toNat (v0lo+x)) y2)
def jd.c7s:Shape:=⟨[(0,sa40),(1,sa12),(2,sa6),(3,sa7),(4,sa2),(5,sa34),(6,sa2),(19,sa2),(23,sa2),(24,sa2)],[(2,sa56),(3,sa14),(5,sa57),(2000000,sa28)]⟩
def jd.c7r:Ck:=Ck.of (T:=List YN) jd.c7s (fun ρ X Z=>jd.c7 (q4 X).1 (q8 X).1 (q8 X).2.1 (q8 X).2.2.2.1 (q8 (q8 X)).2.1 Z) (fun ρ X V Z=>Z 0 (Shape.inj jd.c7s (X.1,X.2.1,X.2.2.1,X.2.2.2.1,(q4 X).1,(q4 X).2.1,(q4 X).2.2.1,(q4 X).2.2.2.1,(q8 X).1,(q8 X).2.1,(q8 X).2.2.1,(q8 X).2.2.2.1,(q4 (q8 X)).1,(q4 (q8 X)).2.1,(q4 (q8 X)).2.2.1,(q4 (q8 X)).2.2.2.1,(q8 (q8 X)).1,V,())))
def jd.cg_ (t23:Int)(t24:Int)(v0lo:Int)(v0n:Int)(o1:Int)(uj:List YN)(Z:((Int)×(List YN))⊕((Int)×(List YN))→Option ρ):Option ρ:=
  br (decide (t24<t23))
   (bnd (jd.c7 t24 v0lo v0n o1 uj some) fun y=>
    Z (.inl ((i64.wrap (t24+1)),y)))
   (Z (.inr (t24,uj)))
def jd.cg_s:Shape:=⟨[(0,sa40),(1,sa12),(2,sa6),(3,sa7),(4,sa2),(5,sa34),(19,sa2),(23,sa2),(24,sa2)],[(2,sa56),(3,sa14),(5,sa57),(2000000,sa28)]⟩
def jd.cg_r:Ck:=Ck.ofLoop (S:=(Int)×(List YN)) (T:=(Int)×(List YN)) jd.cg_s (fun X=>((q4 X).2.2.1,(q8 (q8 X)).1)) (fun ρ X Q Z=>jd.cg_ (q4 X).2.1 Q.1 (q4 X).2.2.2.1 (q8 X).1 (q8 X).2.2.1 Q.2 Z) (fun ρ X V Z=>Z 3 (Shape.inj jd.cg_s (X.1,X.2.1,X.2.2.1,X.2.2.2.1,(q4 X).1,(q4 X).2.1,V.1,(q4 X).2.2.2.1,(q8 X).1,(q8 X).2.1,(q8 X).2.2.1,(q8 X).2.2.2.1,(q4 (q8 X)).1,(q4 (q8 X)).2.1,(q4 (q8 X)).2.2.1,(q4 (q8 X)).2.2.2.1,V.2,())))
def jd.c12 (x:Int)(v0lo:Int)(v0n:Int)(o1:Int)(uj:List YN)(Z:List YN→Option ρ):Option ρ:=
  bnd (okIf (decide ((0:Ty.den (Ty.int IntKind.i64))≤x)&&decide (x<v0n))) fun y=>
  bnd (idx uj (v0lo+x)) fun y1=>
  bnd (jA y1 o1) fun y2=>
  bnd (okIf (decide ((0:Ty.den (Ty.int IntKind.i64))≤x)&&decide (x<v0n))) fun y3=>
  bnd (idx uj (v0lo+x)) fun y4=>
  Z (List.set uj (Int.toNat (v0lo+x)) y2)
def jd.c12s:Shape:=⟨[(0,sa40),(1,sa12),(2,sa6),(3,sa7),(4,sa2),(5,sa34),(7,sa2),(19,sa2),(44,sa58),(45,sa2)],[(2,sa56),(3,sa14),(5,sa57),(44,sa42),(2000000,sa28)]⟩
def jd.c12r:Ck:=Ck.of (T:=List YN) jd.c12s (fun ρ X Z=>jd.c12 (q4 X).1 (q4 X).2.2.2.1 (q8 X).1 (q8 X).2.2.1 (q8 (q8 X)).2.2.1 Z) (fun ρ X V Z=>Z 0 (Shape.inj jd.c12s (X.1,X.2.1,X.2.2.1,X.2.2.2.1,(q4 X).1,(q4 X).2.1,(q4 X).2.2.1,(q4 X).2.2.2.1,(q8 X).1,(q8 X).2.1,(q8 X).2.2.1,(q8 X).2.2.2.1,(q4 (q8 X)).1,(q4 (q8 X)).2.1,(q4 (q8 X)).2.2.1,(q4 (q8 X)).2.2.2.1,(q8 (q8 X)).1,(q8 (q8 X)).2.1,V,())))
def jd.cQ_ (ua:List (Int))(v0lo:Int)(v0n:Int)(o1:Int)(uj:List YN)(Z:((List Int)×(List YN))⊕(List YN)→Option ρ):Option ρ:=
  br (List.isEmpty ua)
   (Z (.inr uj))
   (bnd (idx ua (0:Int)) fun y=>
    bnd (jd.c12 y v0lo v0n o1 uj some) fun y1=>
    Z (.inl ((List.drop (1:Nat) ua),y1)))
def jd.cQ_s:Shape:=⟨[(0,sa40),(1,sa12),(2,sa6),(3,sa7),(4,sa2),(5,sa34),(19,sa2),(44,sa58),(10000000,sa0)],[(2,sa56),(3,sa14),(5,sa57),(44,sa42),(2000000,sa28)]⟩
def jd.cQ_x0:Shape:=⟨[(0,sa40),(1,sa12),(2,sa6),(3,sa7),(4,sa2),(5,sa34),(19,sa2),(44,sa58)],[(2,sa56),(3,sa14),(5,sa57),(44,sa42),(2000000,sa28)]⟩
def jd.cQ_r:Ck:=Ck.ofLoop (S:=(List Int)×(List YN)) (T:=List YN) jd.cQ_s (fun X=>((q4 X).2.1,(q8 (q8 X)).2.1)) (fun ρ X Q Z=>jd.cQ_ Q.1 (q4 X).2.2.1 (q4 X).2.2.2.1 (q8 X).2.1 Q.2 Z) (fun ρ X V Z=>Z 0 (Shape.inj jd.cQ_x0 (X.1,X.2.1,X.2.2.1,X.2.2.2.1,(q4 X).1,(q4 X).2.2.1,(q4 X).2.2.2.1,(q8 X).1,(q8 X).2.1,(q8 X).2.2.1,(q8 X).2.2.2.1,(q4 (q8 X)).1,(q4 (q8 X)).2.1,(q4 (q8 X)).2.2.1,(q4 (q8 X)).2.2.2.1,(q8 (q8 X)).1,V,())))
def jd.c16 (x:Int)(v0lo:Int)(v0n:Int)(bit0:Int)(uj:List YN)(Z:List YN→Option ρ):Option ρ:=
  bnd (okIf (decide ((0:Ty.den (Ty.int IntKind.i64))≤ibits BinOp.xor IntKind.i64 x bit0)&&decide (ibits BinOp.xor IntKind.i64 x bit0<v0n))) fun y=>
  bnd (idx uj (v0lo+ibits BinOp.xor IntKind.i64 x bit0)) fun y1=>
  bnd (okIf (decide ((0:Ty.den (Ty.int IntKind.i64))≤x)&&decide (x<v0n))) fun y2=>
  bnd (idx uj (v0lo+x)) fun y3=>
  bnd (okIf (decide ((0:Ty.den (Ty.int IntKind.i64))≤x)&&decide (x<v0n))) fun y4=>
  bnd (idx uj (v0lo+x)) fun y5=>
  bnd (okIf (decide ((0:Ty.den (Ty.int IntKind.i64))≤ibits BinOp.xor IntKind.i64 x bit0)&&decide (ibits BinOp.xor IntKind.i64 x bit0<v0n))) fun y6=>
  bnd (idx (List.set uj (Int.toNat (v0lo+x)) y1) (v0lo+ibits BinOp.xor IntKind.i64 x bit0)) fun y7=>
  Z (List.set (List.set uj (Int.toNat (v0lo+x)) y1) (Int.toNat (v0lo+ibits BinOp.xor IntKind.i64 x bit0)) y3)
def jd.c16s:Shape:=⟨[(0,sa40),(1,sa12),(2,sa6),(3,sa7),(4,sa2),(5,sa34),(8,sa2),(19,sa2),(62,sa59),(63,sa2)],[(2,sa56),(3,sa14),(5,sa57),(62,sa42),(2000000,sa28)]⟩
def jd.c16r:Ck:=Ck.of (T:=List YN) jd.c16s (fun ρ X Z=>jd.c16 (q4 X).1 (q4 X).2.2.2.1 (q8 X).1 (q4 (q8 X)).2.2.2.1 (q8 (q8 X)).2.2.1 Z) (fun ρ X V Z=>Z 0 (Shape.inj jd.c16s (X.1,X.2.1,X.2.2.1,X.2.2.2.1,(q4 X).1,(q4 X).2.1,(q4 X).2.2.1,(q4 X).2.2.2.1,(q8 X).1,(q8 X).2.1,(q8 X).2.2.1,(q8 X).2.2.2.1,(q4 (q8 X)).1,(q4 (q8 X)).2.1,(q4 (q8 X)).2.2.1,(q4 (q8 X)).2.2.2.1,(q8 (q8 X)).1,(q8 (q8 X)).2.1,V,())))
def jd.cR_ (ua:List (Int))(v0lo:Int)(v0n:Int)(bit0:Int)(uj:List YN)(Z:((List Int)×(List YN))⊕(List YN)→Option ρ):Option ρ:=
  br (List.isEmpty ua)
   (Z (.inr uj))
   (bnd (idx ua (0:Int)) fun y=>
    bnd (jd.c16 y v0lo v0n bit0 uj some) fun y1=>
    Z (.inl ((List.drop (1:Nat) ua),y1)))
def jd.cR_s:Shape:=⟨[(0,sa40),(1,sa12),(2,sa6),(3,sa7),(4,sa2),(5,sa34),(19,sa2),(62,sa59),(10000000,sa0)],[(2,sa56),(3,sa14),(5,sa57),(62,sa42),(2000000,sa28)]⟩
def jd.cR_x0:Shape:=⟨[(0,sa40),(1,sa12),(2,sa6),(3,sa7),(4,sa2),(5,sa34),(19,sa2),(62,sa59)],[(2,sa56),(3,sa14),(5,sa57),(62,sa42),(2000000,sa28)]⟩
def jd.cR_r:Ck:=Ck.ofLoop (S:=(List Int)×(List YN)) (T:=List YN) jd.cR_s (fun X=>((q4 X).2.1,(q8 (q8 X)).2.1)) (fun ρ X Q Z=>jd.cR_ Q.1 (q4 X).2.2.1 (q4 X).2.2.2.1 (q4 (q8 X)).2.2.1 Q.2 Z) (fun ρ X V Z=>Z 0 (Shape.inj jd.cR_x0 (X.1,X.2.1,X.2.2.1,X.2.2.2.1,(q4 X).1,(q4 X).2.2.1,(q4 X).2.2.2.1,(q8 X).1,(q8 X).2.1,(q8 X).2.2.1,(q8 X).2.2.2.1,(q4 (q8 X)).1,(q4 (q8 X)).2.1,(q4 (q8 X)).2.2.1,(q4 (q8 X)).2.2.2.1,(q8 (q8 X)).1,V,())))
def jd.c20 (x:Int)(v0lo:Int)(v0n:Int)(bit0:Int)(uj:List YN)(Z:(List YN)×(List YN)→Option ρ):Option ρ:=
  bnd (okIf (decide ((0:Ty.den (Ty.int IntKind.i64))≤ibits BinOp.xor IntKind.i64 x bit0)&&decide (ibits BinOp.xor IntKind.i64 x bit0<v0n))) fun y=>
  bnd (idx uj (v0lo+ibits BinOp.xor IntKind.i64 x bit0)) fun y1=>
  bnd (okIf (decide ((0:Ty.den (Ty.int IntKind.i64))≤x)&&decide (x<v0n))) fun y2=>
  bnd (idx uj (v0lo+x)) fun y3=>
  Z ([y1],[y3])
def jd.c20s:Shape:=⟨[(0,sa40),(1,sa12),(2,sa6),(3,sa7),(4,sa2),(5,sa34),(9,sa2),(19,sa2),(88,sa60),(89,sa2)],[(2,sa56),(3,sa14),(5,sa57),(88,sa42),(2000000,sa28)]⟩
def jd.c20x0:Shape:=⟨[(0,sa40),(1,sa12),(2,sa6),(3,sa7),(4,sa2),(5,sa34),(9,sa2),(10,sa61),(11,sa62),(19,sa2),(88,sa60),(89,sa2)],[(2,sa56),(3,sa14),(5,sa57),(10,sa28),(11,sa28),(88,sa42),(2000000,sa28)]⟩
def jd.c20r:Ck:=Ck.of (T:=(List YN)×(List YN)) jd.c20s (fun ρ X Z=>jd.c20 (q4 X).1 (q4 X).2.2.2.1 (q8 X).1 (q4 (q8 X)).2.2.2.1 (q8 (q8 X)).2.2.1 Z) (fun ρ X V Z=>Z 0 (Shape.inj jd.c20x0 (X.1,X.2.1,X.2.2.1,X.2.2.2.1,(q4 X).1,(q4 X).2.1,(q4 X).2.2.1,(q4 X).2.2.2.1,(q8 X).1,(q8 X).2.1,(q8 X).2.2.1,(q8 X).2.2.2.1,(q4 (q8 X)).1,(q4 (q8 X)).2.1,(q4 (q8 X)).2.2.1,(q4 (q8 X)).2.2.2.1,V.1,V.2,(q8 (q8 X)))))
def jd.c21 (a:List YN)(b:List YN)(Z:Bool→Option ρ):Option ρ:=
  bnd (idx a (0:Int)) fun y=>
  bnd (Jd y) fun y1=>
  br y1
   (bnd (idx b (0:Int)) fun y2=>
    bnd (Jd y2) fun y3=>
    Z y3)
   (Z false)
def jd.c21x0:Shape:=⟨[(0,sa40),(1,sa12),(2,sa6),(3,sa7),(4,sa2),(5,sa34),(9,sa2),(10,sa61),(11,sa62),(19,sa2),(88,sa60),(89,sa2),(105,sa11)],[(2,sa56),(3,sa14),(5,sa57),(10,sa28),(11,sa28),(88,sa42),(2000000,sa28)]⟩
def jd.c21r:Ck:=Ck.of (T:=Bool) jd.c20x0 (fun ρ X Z=>jd.c21 (q8 (q8 X)).1 (q8 (q8 X)).2.1 Z) (fun ρ X V Z=>Z 0 (Shape.inj jd.c21x0 (X.1,X.2.1,X.2.2.1,X.2.2.2.1,(q4 X).1,(q4 X).2.1,(q4 X).2.2.1,V,(q4 X).2.2.2)))
def jd.c22 (x:Int)(v0lo:Int)(v0n:Int)(bit0:Int)(a:List YN)(b:List YN)(uj:List YN)(Z:List YN→Option ρ):Option ρ:=
  bnd (idx a (0:Int)) fun y=>
  bnd (idx b (0:Int)) fun y1=>
  bnd (jz y y1) fun y2=>
  bnd (Jo y2) fun y3=>
  bnd (idx a (0:Int)) fun y4=>
  bnd (idx b (0:Int)) fun y5=>
  bnd (Jn y4 y5) fun y6=>
  bnd (Jo y6) fun y7=>
  bnd (okIf (decide ((0:Ty.den (Ty.int IntKind.i64))≤ibits BinOp.xor IntKind.i64 x bit0)&&decide (ibits BinOp.xor IntKind.i64 x bit0<v0n))) fun y8=>
  bnd (idx uj (v0lo+ibits BinOp.xor IntKind.i64 x bit0)) fun y9=>
  bnd (okIf (decide ((0:Ty.den (Ty.int IntKind.i64))≤x)&&decide (x<v0n))) fun y10=>
  bnd (idx (List.set uj (Int.toNat (v0lo+ibits BinOp.xor IntKind.i64 x bit0)) y3) (v0lo+x)) fun y11=>
  Z (List.set (List.set uj (Int.toNat (v0lo+ibits BinOp.xor IntKind.i64 x bit0)) y3) (Int.toNat (v0lo+x)) y7)
def jd.c22r:Ck:=Ck.of (T:=List YN) jd.c20x0 (fun ρ X Z=>jd.c22 (q4 X).1 (q4 X).2.2.2.1 (q8 X).1 (q4 (q8 X)).2.2.2.1 (q8 (q8 X)).1 (q8 (q8 X)).2.1 (q4 (q8 (q8 X))).1 Z) (fun ρ X V Z=>Z 0 (Shape.inj jd.c20x0 (X.1,X.2.1,X.2.2.1,X.2.2.2.1,(q4 X).1,(q4 X).2.1,(q4 X).2.2.1,(q4 X).2.2.2.1,(q8 X).1,(q8 X).2.1,(q8 X).2.2.1,(q8 X).2.2.2.1,(q4 (q8 X)).1,(q4 (q8 X)).2.1,(q4 (q8 X)).2.2.1,(q4 (q8 X)).2.2.2.1,(q8 (q8 X)).1,(q8 (q8 X)).2.1,(q8 (q8 X)).2.2.1,(q8 (q8 X)).2.2.2.1,V,())))
def jd.cE_ (ua:List (Int))(v0lo:Int)(v0n:Int)(bit0:Int)(uj:List YN)(Z:((List Int)×(List YN))⊕(List YN)→Option ρ):Option ρ:=
  br (List.isEmpty ua)
   (Z (.inr uj))
   (bnd (idx ua (0:Int)) fun y=>
    bnd (jd.c20 y v0lo v0n bit0 uj some) fun y1=>
    bnd (jd.c21 y1.1 y1.2 some) fun y2=>
    br y2
     (Z (.inl ((List.drop (1:Nat) ua),uj)))
     (bnd (jd.c22 y v0lo v0n bit0 y1.1 y1.2 uj some) fun y3=>
      Z (.inl ((List.drop (1:Nat) ua),y3))))
def jd.cE_s:Shape:=⟨[(0,sa40),(1,sa12),(2,sa6),(3,sa7),(4,sa2),(5,sa34),(19,sa2),(88,sa60),(10000000,sa0)],[(2,sa56),(3,sa14),(5,sa57),(88,sa42),(2000000,sa28)]⟩
def jd.cE_x0:Shape:=⟨[(0,sa40),(1,sa12),(2,sa6),(3,sa7),(4,sa2),(5,sa34),(19,sa2),(88,sa60)],[(2,sa56),(3,sa14),(5,sa57),(88,sa42),(2000000,sa28)]⟩
def jd.cE_r:Ck:=Ck.ofLoop (S:=(List Int)×(List YN)) (T:=List YN) jd.cE_s (fun X=>((q4 X).2.1,(q8 (q8 X)).2.1)) (fun ρ X Q Z=>jd.cE_ Q.1 (q4 X).2.2.1 (q4 X).2.2.2.1 (q4 (q8 X)).2.2.1 Q.2 Z) (fun ρ X V Z=>Z 0 (Shape.inj jd.cE_x0 (X.1,X.2.1,X.2.2.1,X.2.2.2.1,(q4 X).1,(q4 X).2.2.1,(q4 X).2.2.2.1,(q8 X).1,(q8 X).2.1,(q8 X).2.2.1,(q8 X).2.2.2.1,(q4 (q8 X)).1,(q4 (q8 X)).2.1,(q4 (q8 X)).2.2.1,(q4 (q8 X)).2.2.2.1,(q8 (q8 X)).1,V,())))
def jd (vlo:Int) (vn:Int) (o:YO) (uj:List YN):Option ((List YN)×Unit):=
  bnd (jd.c1 o.2.2.1 o.2.2.2.1 some) fun y=>
  br (o.1==1)
   (bnd (iter (fun s↦jd.cg_ (↑(List.length (part vlo vn uj)):Int) s.1 vlo vn o.2.1 s.2 some) ((0:Int),uj)) fun y1=>
    some (y1.2,()))
   (br (o.1==4)
     (bnd (Jr vlo vn (ibits BinOp.or IntKind.i64 y (i64.wrap ((1:Int)*2^Min.min (Int.toNat o.2.2.2.1) (64:Nat)))) uj) fun y2=>
      bnd (iter (fun s↦jd.cQ_ s.1 vlo vn o.2.1 s.2 some) (SeqC.L ones_sc (y2.1,y2.2.1),y2.2.2.1)) fun y3=>
      some (y3,()))
     (br (o.1==2)
       (bnd (Jr vlo vn (ibits BinOp.or IntKind.i64 y (i64.wrap ((1:Int)*2^Min.min (Int.toNat o.2.2.2.1) (64:Nat)))) uj) fun y4=>
        bnd (iter (fun s↦jd.cR_ s.1 vlo vn (i64.wrap ((1:Int)*2^Min.min (Int.toNat o.2.2.2.1) (64:Nat))) s.2 some) (SeqC.L ones_sc (y4.1,y4.2.1),y4.2.2.1)) fun y5=>
        some (y5,()))
       (br (o.1==3)
         (bnd (Jr vlo vn (ibits BinOp.or IntKind.i64 y (i64.wrap ((1:Int)*2^Min.min (Int.toNat o.2.2.2.1) (64:Nat)))) uj) fun y6=>
          bnd (iter (fun s↦jd.cE_ s.1 vlo vn (i64.wrap ((1:Int)*2^Min.min (Int.toNat o.2.2.2.1) (64:Nat))) s.2 some) (SeqC.L ones_sc (y6.1,y6.2.1),y6.2.2.1)) fun y7=>
          some (y7,()))
         (some (uj,())))))
def jd.mc:MCallee:=⟨100,jd.pre,jd.post,fun X=>jd X.1 X.2.1 X.2.2.1 X.2.2.2.1⟩
def jd.G:Env:=⟨122,tab,[(133,JE.ce),(134,jA.ce),(66,Jd.ce),(59,jz.ce),(136,Jo.ce),(137,Jn.ce)],[0,1,2,3,4,5,6,7,8,9,10,11,19,20,23,24,25,38,44,45,56,62,63,82,88,89,105],[2,10,11,1002,2000000],[(22,[⟨[],[],[107,108,109,110,111,112,113,114,115,116,117,118,119],[]⟩,⟨[],[],[106,108,110,111,112,113,114,115,116,117,118,119],[]⟩,⟨[],[],[106,107,110,111,112,113,114,115,116,117,118,119],[]⟩,⟨[1,2],[],[106,110,111,112,113,114,115,116,117,118,119],[]⟩,⟨[],[],[106,107,108,109,111,112,113,114,115,116,117,118,119,120],[2000000]⟩,⟨[],[],[106,107,108,109,110,112,113,114,115,116,117,118,119,120],[2000000]⟩,⟨[],[],[106,107,108,109,110,111,113,116,117],[]⟩,⟨[],[],[106,107,108,109,110,111,112,116,117],[]⟩,⟨[6,7],[],[106,107,108,109,110,111,116,117],[]⟩,⟨[8,6,7],[],[106,107,108,109,110,111,116,117],[]⟩,⟨[],[],[106,107,108,109,110,111,112,113,114,115,117],[]⟩,⟨[],[],[106,107,108,109,110,111,112,113,114,115,116],[]⟩,⟨[10,11,9,8,6,7],[],[106,107,108,109,110,111],[]⟩,⟨[12,10,11,9,8,6,7],[],[106,107,108,109,110,111],[]⟩,⟨[0,3,1,2,6,7,8,9,12,10,11,13],[],[110,111],[]⟩,⟨[14,0,3,1,2,6,7,8,9,12,10,11,13],[2000000],[110,111],[]⟩,⟨[4,5,0,1,2,3,6,7,8,9,10,11,12,13,14,15],[],[],[]⟩,⟨[16,4,5,0,1,2,3,6,7,8,9,10,11,12,13,14,15],[2000000],[],[]⟩]),
  (20,[⟨[],[],[91,92,93,96,97,98,99,10,11],[10,11]⟩,⟨[],[],[90,92,96,97,98,99,10,11],[10,11]⟩,⟨[],[],[90,91,96,97,98,99,10,11],[10,11]⟩,⟨[1,2],[],[90,96,97,98,99,10,11],[10,11]⟩,⟨[0,3,1,2],[],[96,97,98,99,10,11],[10,11]⟩,⟨[4,0,3,1,2],[],[96,97,98,99,10,11],[10,11]⟩,⟨[],[],[90,91,92,93,94,95,97,10,11],[10,11]⟩,⟨[],[],[90,91,92,93,94,95,96,10,11],[10,11]⟩,⟨[6,7],[],[90,91,92,93,94,95,10,11],[10,11]⟩,⟨[8,6,7],[],[90,91,92,93,94,95,10,11],[10,11]⟩,⟨[],[10],[90,91,92,93,94,95,96,97,98,99,11],[11]⟩,⟨[],[11],[90,91,92,93,94,95,96,97,98,99,10],[10]⟩,⟨[10,5,4,0,3,1,2,11],[10],[96,97,98,99],[]⟩,⟨[11,9,8,6,7,12,10,5,4,0,3,1,2],[11],[],[]⟩]),
  (16,[⟨[],[],[65,66,67,68,69,70,71,72,73,74,75,76,77,78,79],[]⟩,⟨[],[],[64,66,67,68,69,70,71,72,73,74,75,76,77,78,79],[]⟩,⟨[],[],[64,65,67,68,69,70,71,72,73,74,75,76,77,78,79,80],[2000000]⟩,⟨[],[],[64,65,66,68,70,71,72,73,74,75,76,77,78,79,80],[2000000]⟩,⟨[],[],[64,65,66,67,70,71,72,73,74,75,76,77,78,79,80],[2000000]⟩,⟨[3,4],[],[64,65,66,70,71,72,73,74,75,76,77,78,79,80],[2000000]⟩,⟨[],[],[64,65,66,67,68,69,71,72,73,76,77,78,79],[]⟩,⟨[],[],[64,65,66,67,68,69,70,72,76,77,78,79],[]⟩,⟨[],[],[64,65,66,67,68,69,70,71,76,77,78,79],[]⟩,⟨[7,8],[],[64,65,66,67,68,69,70,76,77,78,79],[]⟩,⟨[6,9,7,8],[],[64,65,66,67,68,69,76,77,78,79],[]⟩,⟨[10,6,9,7,8],[],[64,65,66,67,68,69,76,77,78,79],[]⟩,⟨[],[],[64,65,66,67,68,69,70,71,72,73,74,75,77],[]⟩,⟨[],[],[64,65,66,67,68,69,70,71,72,73,74,75,76],[]⟩,⟨[12,13],[],[64,65,66,67,68,69,70,71,72,73,74,75],[]⟩,⟨[14,12,13],[],[64,65,66,67,68,69,70,71,72,73,74,75],[]⟩,⟨[0,1,6,7,8,9,10,11,15,14,12,13],[],[66,67,68,69],[]⟩,⟨[16,0,1,6,7,8,9,10,11,15,14,12,13],[2000000],[66,67,68,69],[]⟩,⟨[2,5,3,4,0,1,6,7,8,9,10,11,12,13,14,15,16,17],[],[],[]⟩,⟨[18,2,5,3,4,0,1,6,7,8,9,10,11,12,13,14,15,16,17],[2000000],[],[]⟩]),
  (12,[⟨[],[],[47,48,49,50,51,52,53,54],[]⟩,⟨[],[],[46,48,49,50,51,52,53,54],[]⟩,⟨[],[],[46,47,49,52,53],[]⟩,⟨[],[],[46,47,48,52,53],[]⟩,⟨[2,3],[],[46,47,52,53],[]⟩,⟨[4,2,3],[],[46,47,52,53],[]⟩,⟨[],[],[46,47,48,49,50,51],[]⟩,⟨[6],[],[46,47,48,49,50,51],[]⟩,⟨[5,4,2,3,7,6],[],[46,47],[]⟩,⟨[0,1,2,3,4,5,6,7,8],[],[],[]⟩,⟨[9,0,1,2,3,4,5,6,7,8],[2000000],[],[]⟩]),
  (7,[⟨[],[],[28,29,30,31,32,33,34,35],[]⟩,⟨[],[],[27,29,30,31,32,33,34,35],[]⟩,⟨[],[],[27,28,30,33,34],[]⟩,⟨[],[],[27,28,29,33,34],[]⟩,⟨[2,3],[],[27,28,33,34],[]⟩,⟨[4,2,3],[],[27,28,33,34],[]⟩,⟨[],[],[27,28,29,30,31,32],[]⟩,⟨[6],[],[27,28,29,30,31,32],[]⟩,⟨[5,4,2,3,7,6],[],[27,28],[]⟩,⟨[0,1,2,3,4,5,6,7,8],[],[],[]⟩,⟨[9,0,1,2,3,4,5,6,7,8],[2000000],[],[]⟩]),
  (1,[⟨[],[],[15,16,17,5],[5]⟩,⟨[0],[],[15,16,17,5],[5]⟩,⟨[1,0],[],[15,16,17,5],[5]⟩,⟨[],[],[12,13,14,5,4],[5]⟩,⟨[3],[],[12,13,14,5,4],[5]⟩,⟨[4,3],[],[12,13,14,5,4],[5]⟩,⟨[],[5],[12,13,14,15,16,17],[]⟩,⟨[2,1,0,6],[],[15,16,17],[]⟩,⟨[6,5,4,3,7,2,1,0],[5],[],[]⟩])],[(300020,jd.cE_r),(22,jd.c22r),(21,jd.c21r),(20,jd.c20r),(300016,jd.cR_r),(16,jd.c16r),(300012,jd.cQ_r),(12,jd.c12r),(100005,jd.cg_r),(7,jd.c7r),(1,jd.c1r)],[(135,Jr.mc)],jI,[]⟩
theorem jd.p0:PcA jd.G Tryz.f100 0:=
  js (s:=jd.c1r) (by kernel_rfl) (by kernel_rfl) (jp (sh:=jd.c1s) (fun ρ X Z=>(jb fun _=>(jb fun _=>jc))) (fun ρ X t k=>(by kernel_rfl)) (fun X=>by kernel_rfl))
theorem jd.p1:PcA jd.G Tryz.f100 1:=
  Jf (s:=jd.cg_r) (by kernel_rfl) (by kernel_rfl) (jW (sh:=jd.cg_s) (I:=fun X Q=>(X.1,X.2.1,X.2.2.1,X.2.2.2.1,(q4 X).1,(q4 X).2.1,Q.1,(q4 X).2.2.2.1,(q8 X).1,(q8 X).2.1,(q8 X).2.2.1,(q8 X).2.2.2.1,(q4 (q8 X)).1,(q4 (q8 X)).2.1,(q4 (q8 X)).2.2.1,(q4 (q8 X)).2.2.2.1,Q.2,())) (fun X=>rfl) (fun ρ X Q Z=>(jg (jb fun _=>jc) jc)) (fun ρ X t k=>(by kernel_rfl)) (fun X s=>by kernel_rfl))
theorem jd.p2:PcA jd.G Tryz.f100 2:=
  js (s:=jd.c7r) (by kernel_rfl) (by kernel_rfl) (jp (sh:=jd.c7s) (fun ρ X Z=>(jb fun _=>(jb fun _=>(jb fun _=>(jb fun _=>(jb fun _=>jc)))))) (fun ρ X t k=>(by kernel_rfl)) (fun X=>by kernel_rfl))
theorem jd.p3:PcA jd.G Tryz.f100 3:=
  range_ok (s:=jd.cQ_r) (by kernel_rfl) (by kernel_rfl) (jW (sh:=jd.cQ_s) (I:=fun X Q=>(X.1,X.2.1,X.2.2.1,X.2.2.2.1,(q4 X).1,Q.1,(q4 X).2.2.1,(q4 X).2.2.2.1,(q8 X).1,(q8 X).2.1,(q8 X).2.2.1,(q8 X).2.2.2.1,(q4 (q8 X)).1,(q4 (q8 X)).2.1,(q4 (q8 X)).2.2.1,(q4 (q8 X)).2.2.2.1,(q8 (q8 X)).1,Q.2,())) (fun X=>rfl) (fun ρ X Q Z=>(jg jc (jb fun _=>(jb fun _=>jc)))) (fun ρ X t k=>(by kernel_rfl)) (fun X s=>by kernel_rfl))
theorem jd.p4:PcA jd.G Tryz.f100 4:=
  js (s:=jd.c12r) (by kernel_rfl) (by kernel_rfl) (jp (sh:=jd.c12s) (fun ρ X Z=>(jb fun _=>(jb fun _=>(jb fun _=>(jb fun _=>(jb fun _=>jc)))))) (fun ρ X t k=>(by kernel_rfl)) (fun X=>by kernel_rfl))
theorem jd.p5:PcA jd.G Tryz.f100 5:=
  range_ok (s:=jd.cR_r) (by kernel_rfl) (by kernel_rfl) (jW (sh:=jd.cR_s) (I:=fun X Q=>(X.1,X.2.1,X.2.2.1,X.2.2.2.1,(q4 X).1,Q.1,(q4 X).2.2.1,(q4 X).2.2.2.1,(q8 X).1,(q8 X).2.1,(q8 X).2.2.1,(q8 X).2.2.2.1,(q4 (q8 X)).1,(q4 (q8 X)).2.1,(q4 (q8 X)).2.2.1,(q4 (q8 X)).2.2.2.1,(q8 (q8 X)).1,Q.2,())) (fun X=>rfl) (fun ρ X Q Z=>(jg jc (jb fun _=>(jb fun _=>jc)))) (fun ρ X t k=>(by kernel_rfl)) (fun X s=>by kernel_rfl))
theorem jd.p6:PcA jd.G Tryz.f100 6:=
  js (s:=jd.c16r) (by kernel_rfl) (by kernel_rfl) (jp (sh:=jd.c16s) (fun ρ X Z=>(jb fun _=>(jb fun _=>(jb fun _=>(jb fun _=>(jb fun _=>(jb fun _=>(jb fun _=>(jb fun _=>jc))))))))) (fun ρ X t k=>(by kernel_rfl)) (fun X=>by kernel_rfl))
theorem jd.p7:PcA jd.G Tryz.f100 7:=
  range_ok (s:=jd.cE_r) (by kernel_rfl) (by kernel_rfl) (jW (sh:=jd.cE_s) (I:=fun X Q=>(X.1,X.2.1,X.2.2.1,X.2.2.2.1,(q4 X).1,Q.1,(q4 X).2.2.1,(q4 X).2.2.2.1,(q8 X).1,(q8 X).2.1,(q8 X).2.2.1,(q8 X).2.2.2.1,(q4 (q8 X)).1,(q4 (q8 X)).2.1,(q4 (q8 X)).2.2.1,(q4 (q8 X)).2.2.2.1,(q8 (q8 X)).1,Q.2,())) (fun X=>rfl) (fun ρ X Q Z=>(jg jc (jb fun _=>(jb fun _=>(jb fun _=>(jg jc (jb fun _=>jc))))))) (fun ρ X t k=>(by kernel_rfl)) (fun X s=>by kernel_rfl))
theorem jd.p8:PcA jd.G Tryz.f100 8:=
  js (s:=jd.c20r) (by kernel_rfl) (by kernel_rfl) (jp (sh:=jd.c20s) (fun ρ X Z=>(jb fun _=>(jb fun _=>(jb fun _=>(jb fun _=>jc))))) (fun ρ X t k=>(by kernel_rfl)) (fun X=>by kernel_rfl))
theorem jd.p9:PcA jd.G Tryz.f100 9:=
  js (s:=jd.c21r) (by kernel_rfl) (by kernel_rfl) (jp (sh:=jd.c20x0) (fun ρ X Z=>(jb fun _=>(jb fun _=>(jg (jb fun _=>(jb fun _=>jc)) jc)))) (fun ρ X t k=>(by kernel_rfl)) (fun X=>by kernel_rfl))
theorem jd.p10:PcA jd.G Tryz.f100 10:=
  js (s:=jd.c22r) (by kernel_rfl) (by kernel_rfl) (jp (sh:=jd.c20x0) (fun ρ X Z=>(jb fun _=>(jb fun _=>(jb fun _=>(jb fun _=>(jb fun _=>(jb fun _=>(jb fun _=>(jb fun _=>(jb fun _=>(jb fun _=>(jb fun _=>(jb fun _=>jc))))))))))))) (fun ρ X t k=>(by kernel_rfl)) (fun X=>by kernel_rfl))
theorem jd.ok:MOk Tryz.prog 100 jd.mc:=YU (mc:=jd.mc) (G:=jd.G) jX mixed Tryz.func100 ⟨(jn JE.ok (jn jA.ok (jn Jd.ok (jn jz.ok (jn Jo.ok (jn Jn.ok jK)))))),(kP Jr.ok jE),jq,jD⟩ (m:=11) (by kernel_rfl) ⟨⟨⟨⟨⟨⟨⟨⟨⟨⟨⟨trivial,jd.p0⟩,jd.p1⟩,jd.p2⟩,jd.p3⟩,jd.p4⟩,jd.p5⟩,jd.p6⟩,jd.p7⟩,jd.p8⟩,jd.p9⟩,jd.p10⟩ (by kernel_rfl) (fun _=>by kernel_rfl)
def je.pre:Shape:=⟨[(0,sa38)],[(1000700,sa39),(2000701,sa28),(2000702,sa3)]⟩
def je.post:Shape:=⟨[(0,sa11)],[(1000700,sa39),(2000701,sa28),(2000702,sa3)]⟩
def je.c1  (Z:Unit→Option ρ):Option ρ:=
  Z ()
def je.c1s:Shape:=⟨[(0,sa38),(2,sa11)],[(1000700,sa39),(2000701,sa28),(2000702,sa3)]⟩
def je.c1x0:Shape:=⟨[(0,sa38),(2,sa11),(14,sa11)],[(1000700,sa39),(2000701,sa28),(2000702,sa3)]⟩
def je.c1r:Ck:=Ck.of (T:=Unit) je.c1s (fun ρ X Z=>je.c1  Z) (fun ρ X V Z=>Z 0 (Shape.inj je.c1x0 (X.1,(decide ((q4 X).2.1<(X.2.2.2.1.length:Int))),X.2)))
def je.c3 (ug:List YO)(ui:Int)(Z:(Int)×(Int)×(List Int)×(Int)×(Int)×(List Int)→Option ρ):Option ρ:=
  bnd (idx ug ui) fun y=>
  Z (y.1,y.2.1,y.2.2.1,y.2.2.2.1,y.2.2.2.2.1,y.2.2.2.2.2)
def je.c3x0:Shape:=⟨[(0,sa38),(2,sa11),(3,sa7)],[(3,sa14),(1000700,sa39),(2000701,sa28),(2000702,sa3)]⟩
def je.c3r:Ck:=Ck.of (T:=(Int)×(Int)×(List Int)×(Int)×(Int)×(List Int)) je.c1s (fun ρ X Z=>je.c3 X.2.2.2.1 (q4 X).2.1 Z) (fun ρ X V Z=>Z 0 (Shape.inj je.c3x0 (X.1,V.1,V.2.1,V.2.2.1,V.2.2.2.1,V.2.2.2.2.1,V.2.2.2.2.2,X.2)))
def je.c5 (o0:Int)(Z:Bool→Option ρ):Option ρ:=
  br (o0==5)
   (Z true)
   (Z (o0==6))
def je.c5x0:Shape:=⟨[(0,sa38),(2,sa11),(3,sa7),(44,sa11)],[(3,sa14),(1000700,sa39),(2000701,sa28),(2000702,sa3)]⟩
def je.c5r:Ck:=Ck.of (T:=Bool) je.c3x0 (fun ρ X Z=>je.c5 X.2.1 Z) (fun ρ X V Z=>Z 0 (Shape.inj je.c5x0 (X.1,V,X.2)))
def je.c7 (o0:Int)(o1:Int)(o2:List (Int))(o3:Int)(o4:Int)(o5:List (Int))(ul:List YN)(Z:List YN→Option ρ):Option ρ:=
  bnd (jd (0:Int) (ul.length:Int) (o0,o1,o2,o3,o4,o5) ul) fun y=>
  Z y.1
def je.c7r:Ck:=Ck.of (T:=List YN) je.c3x0 (fun ρ X Z=>je.c7 X.2.1 X.2.2.1 X.2.2.2.1 (q4 X).1 (q4 X).2.1 (q4 X).2.2.1 (q4 (q8 X)).1 Z) (fun ρ X V Z=>Z 0 (Shape.inj je.c3x0 (X.1,X.2.1,X.2.2.1,X.2.2.2.1,(q4 X).1,(q4 X).2.1,(q4 X).2.2.1,(q4 X).2.2.2.1,(q8 X).1,(q8 X).2.1,(q8 X).2.2.1,(q8 X).2.2.2.1,V,(q4 (q8 X)).2)))
def je.cC_ (ue:Int)(uf:Int)(ug:List YO)(uh:Int)(ui:Int)(ul:List YN)(um:List (Int))(Z:((Int)×(Int)×(List YO)×(Int)×(Int)×(List YN)×(List Int))⊕((Int)×(Int)×(List YO)×(Int)×(Int)×(List YN)×(List Int))→Option ρ):Option ρ:=
  bnd (je.c3 ug ui some) fun y=>
  bnd (jC (y.1,y.2.1,y.2.2.1,y.2.2.2.1,y.2.2.2.2.1,y.2.2.2.2.2) ue uf ug uh ui ul um) fun y1=>
  br (!y1.1)
   (Z (.inl (y1.2.1,y1.2.2.1,y1.2.2.2.1,y1.2.2.2.2.1,y1.2.2.2.2.2.1,y1.2.2.2.2.2.2.1,y1.2.2.2.2.2.2.2.1)))
   (bnd (je.c5 y.1 some) fun y2=>
    br y2
     (Z (.inr (y1.2.1,y1.2.2.1,y1.2.2.2.1,y1.2.2.2.2.1,y1.2.2.2.2.2.1,y1.2.2.2.2.2.2.1,y1.2.2.2.2.2.2.2.1)))
     (bnd (je.c7 y.1 y.2.1 y.2.2.1 y.2.2.2.1 y.2.2.2.2.1 y.2.2.2.2.2 y1.2.2.2.2.2.2.1 some) fun y3=>
      Z (.inl (y1.2.1,y1.2.2.1,y1.2.2.2.1,y1.2.2.2.2.1,y1.2.2.2.2.2.1,y3,y1.2.2.2.2.2.2.2.1))))
def je.cC_r:Ck:=Ck.of (T:=((Int)×(Int)×(List YO)×(Int)×(Int)×(List YN)×(List Int))⊕((Int)×(Int)×(List YO)×(Int)×(Int)×(List YN)×(List Int))) je.c1s (fun ρ X Z=>je.cC_ X.2.1 X.2.2.1 X.2.2.2.1 (q4 X).1 (q4 X).2.1 (q4 X).2.2.1 (q4 X).2.2.2.1 Z) (fun ρ X V Z=>sel V (fun V=>Z 0 (Shape.inj je.c1s (X.1,V.1,V.2.1,V.2.2.1,V.2.2.2.1,V.2.2.2.2.1,V.2.2.2.2.2.1,V.2.2.2.2.2.2,()))) (fun V=>Z 1 (Shape.inj je.c1s (true,V.1,V.2.1,V.2.2.1,V.2.2.2.1,V.2.2.2.2.1,V.2.2.2.2.2.1,V.2.2.2.2.2.2,()))))
def je.ce_ (ue:Int)(uf:Int)(ug:List YO)(uh:Int)(ui:Int)(ul:List YN)(um:List (Int))(Z:((Int)×(Int)×(List YO)×(Int)×(Int)×(List YN)×(List Int))⊕(((Int)×(Int)×(List YO)×(Int)×(Int)×(List YN)×(List Int))⊕((Int)×(Int)×(List YO)×(Int)×(Int)×(List YN)×(List Int)))→Option ρ):Option ρ:=
  bnd (je.c1 some) fun y=>
  br (decide (ui<(ug.length:Int)))
   (bnd (je.cC_ ue uf ug uh ui ul um some) fun y1=>
    sel y1
     (fun u=>Z (.inl (u.1,u.2.1,u.2.2.1,u.2.2.2.1,(i64.wrap (u.2.2.2.2.1+1)),u.2.2.2.2.2.1,u.2.2.2.2.2.2)))
     (fun v=>Z (.inr (.inl (v.1,v.2.1,v.2.2.1,v.2.2.2.1,v.2.2.2.2.1,v.2.2.2.2.2.1,v.2.2.2.2.2.2)))))
   (Z (.inr (.inr (ue,uf,ug,uh,ui,ul,um))))
def je.ce_r:Ck:=Ck.ofLoop (S:=(Int)×(Int)×(List YO)×(Int)×(Int)×(List YN)×(List Int)) (T:=((Int)×(Int)×(List YO)×(Int)×(Int)×(List YN)×(List Int))⊕((Int)×(Int)×(List YO)×(Int)×(Int)×(List YN)×(List Int))) je.c1s (fun X=>(X.2.1,X.2.2.1,X.2.2.2.1,(q4 X).1,(q4 X).2.1,(q4 X).2.2.1,(q4 X).2.2.2.1)) (fun ρ X Q Z=>je.ce_ Q.1 Q.2.1 Q.2.2.1 Q.2.2.2.1 Q.2.2.2.2.1 Q.2.2.2.2.2.1 Q.2.2.2.2.2.2 Z) (fun ρ X V Z=>sel V (fun V=>Z 1 (Shape.inj je.c1s (true,V.1,V.2.1,V.2.2.1,V.2.2.2.1,V.2.2.2.2.1,V.2.2.2.2.2.1,V.2.2.2.2.2.2,()))) (fun V=>Z 2 (Shape.inj je.c1s (X.1,V.1,V.2.1,V.2.2.1,V.2.2.2.1,V.2.2.2.2.1,V.2.2.2.2.2.1,V.2.2.2.2.2.2,()))))
def je (ue:Int) (uf:Int) (ug:List YO) (uh:Int) (ui:Int) (ul:List YN) (um:List (Int)):Option (Bool×(Int)×(Int)×(List YO)×(Int)×(Int)×(List YN)×(List Int)×Unit):=
  bnd (iter (fun s↦je.ce_ s.1 s.2.1 s.2.2.1 s.2.2.2.1 s.2.2.2.2.1 s.2.2.2.2.2.1 s.2.2.2.2.2.2 some) (ue,uf,ug,uh,ui,ul,um)) fun y=>
  sel y
   (fun u=>some (true,u.1,u.2.1,u.2.2.1,u.2.2.2.1,u.2.2.2.2.1,u.2.2.2.2.2.1,u.2.2.2.2.2.2,()))
   (fun v=>some (false,v.1,v.2.1,v.2.2.1,v.2.2.2.1,v.2.2.2.2.1,v.2.2.2.2.2.1,v.2.2.2.2.2.2,()))
def je.mc:MCallee:=⟨64,je.pre,je.post,fun X=>je X.1 X.2.1 X.2.2.1 X.2.2.2.1 (q4 X).1 (q4 X).2.1 (q4 X).2.2.1⟩
def je.G:Env:=⟨51,tab,[],[0,2,3,14,36,44],[1000700,2000701,2000702],[(7,[⟨[],[],[49],[]⟩,⟨[0],[],[49],[]⟩,⟨[1,0],[],[49],[]⟩,⟨[2,1,0],[],[49],[]⟩,⟨[],[],[45,46,47,48],[]⟩,⟨[3,2,1,0,4],[2000701],[],[]⟩]),
  (3,[⟨[],[],[27,28,29,30,3],[3]⟩,⟨[0],[],[27,28,29,30,3],[3]⟩,⟨[1,0],[],[27,28,29,30,3],[3]⟩,⟨[2,1,0],[],[27,28,29,30,3],[3]⟩,⟨[3,2,1,0],[],[27,28,29,30,3],[3]⟩,⟨[],[],[22,23,24,25,26,3],[3]⟩,⟨[5],[],[22,23,24,25,26,3],[3]⟩,⟨[6,5],[],[22,23,24,25,26,3],[3]⟩,⟨[7,6,5],[],[22,23,24,25,26,3],[3]⟩,⟨[4,3,2,1,0,8,7,6,5],[],[3],[3]⟩,⟨[9,4,3,2,1,0,8,7,6,5],[],[3],[3]⟩,⟨[],[3],[22,23,24,25,26,27,28,29,30,31,32],[]⟩,⟨[11,10,9,4,3,2,1,0,8,7,6,5],[3],[],[]⟩]),
  (1,[⟨[],[],[8,9,10,11,12,13],[]⟩,⟨[0],[],[8,9,10,11,12,13],[]⟩,⟨[1,0],[],[8,9,10,11,12,13],[]⟩,⟨[2,1,0],[],[8,9,10,11,12,13],[]⟩,⟨[],[],[4,5,6,7],[]⟩,⟨[4],[],[4,5,6,7],[]⟩,⟨[5,4],[],[4,5,6,7],[]⟩,⟨[6,5,4],[],[4,5,6,7],[]⟩,⟨[7,6,5,4],[],[4,5,6,7],[]⟩,⟨[8,7,6,5,4],[],[4,5,6,7],[]⟩,⟨[3,2,1,0,9,8,7,6,5,4],[],[],[]⟩])],[(100001,je.ce_r),(212306,je.cC_r),(7,je.c7r),(5,je.c5r),(3,je.c3r),(1,je.c1r)],[(99,jC.mc),(100,jd.mc)],jI,[]⟩
theorem je.p0:PcA je.G Tryz.f64 0:=
  Jf (s:=je.ce_r) (by kernel_rfl) (by kernel_rfl) (jW (sh:=je.c1s) (I:=fun X Q=>(X.1,Q.1,Q.2.1,Q.2.2.1,Q.2.2.2.1,Q.2.2.2.2.1,Q.2.2.2.2.2.1,Q.2.2.2.2.2.2,())) (fun X=>rfl) (fun ρ X Q Z=>(jb fun _=>(jg (jb fun _=>(kr (fun _=>jc) (fun _=>jc))) jc))) (fun ρ X t k=>(kr (fun _=>(by kernel_rfl)) (fun _=>(by kernel_rfl)))) (fun X s=>by kernel_rfl))
theorem je.p1:PcA je.G Tryz.f64 1:=
  js (s:=je.c1r) (by kernel_rfl) (by kernel_rfl) (jp (sh:=je.c1s) (fun ρ X Z=>jc) (fun ρ X t k=>(by kernel_rfl)) (fun X=>by kernel_rfl))
theorem je.p2:PcA je.G Tryz.f64 2:=
  JR (s:=je.cC_r) (by kernel_rfl) (by kernel_rfl) (jp (sh:=je.c1s) (fun ρ X Z=>(jb fun _=>(jb fun _=>(jg jc (jb fun _=>(jg jc (jb fun _=>jc))))))) (fun ρ X t k=>(kr (fun _=>(by kernel_rfl)) (fun _=>(by kernel_rfl)))) (fun X=>by kernel_rfl))
theorem je.p3:PcA je.G Tryz.f64 3:=
  js (s:=je.c3r) (by kernel_rfl) (by kernel_rfl) (jp (sh:=je.c1s) (fun ρ X Z=>(jb fun _=>jc)) (fun ρ X t k=>(by kernel_rfl)) (fun X=>by kernel_rfl))
theorem je.p4:PcA je.G Tryz.f64 4:=
  js (s:=je.c5r) (by kernel_rfl) (by kernel_rfl) (jp (sh:=je.c3x0) (fun ρ X Z=>(jg jc jc)) (fun ρ X t k=>(by kernel_rfl)) (fun X=>by kernel_rfl))
theorem je.p5:PcA je.G Tryz.f64 5:=
  js (s:=je.c7r) (by kernel_rfl) (by kernel_rfl) (jp (sh:=je.c3x0) (fun ρ X Z=>(jb fun _=>jc)) (fun ρ X t k=>(by kernel_rfl)) (fun X=>by kernel_rfl))
theorem je.ok:MOk Tryz.prog 64 je.mc:=YU (mc:=je.mc) (G:=je.G) jX mixed Tryz.func64 ⟨jK,(kP jC.ok (kP jd.ok jE)),jq,jD⟩ (m:=6) (by kernel_rfl) ⟨⟨⟨⟨⟨⟨trivial,je.p0⟩,je.p1⟩,je.p2⟩,je.p3⟩,je.p4⟩,je.p5⟩ (by kernel_rfl) (fun _=>by kernel_rfl)
end
end W
end
