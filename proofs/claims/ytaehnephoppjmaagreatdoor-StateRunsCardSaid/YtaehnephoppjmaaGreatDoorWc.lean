/- Lifted functions, part 3: each with its contract. -/
import Derived.Test.YtaehnephoppjmaaGreatDoorWb
import Derived.Test.YtaehnephoppjmaaGreatDoorProg
set_option linter.all false
section
set_option maxHeartbeats 4000000
set_option maxRecDepth 100000
namespace W
open Go Go.Ql Go.Proofs Go.IntKind
noncomputable section
variable {ρ:Type}
def JX.ca_ (v:List YN)(x:Int)(out:List (List UInt8))(Z:((Int)×(List (List UInt8)))⊕((Int)×(List (List UInt8)))→Option ρ):Option ρ:=
  br (decide (x<(v.length:Int)))
   (bnd (idx v x) fun y=>
    bnd (jY y) fun y_1=>
    bnd (okIf (decide ((out.length+1)*16≤140737488355328)&&decide (out.length+1≤140737488355328))) fun y_2=>
    Z (.inl ((i64.wrap (x+1)),(out++[y_1]))))
   (Z (.inr (x,out)))
def JX.ca_s:Shape:=⟨[(0,sa81),(2,sa70),(3,sa1),(4,sa2)],[(3,sa69)]⟩
def JX.ca_r:Ck:=Ck.ofLoop (S:=(Int)×(List (List UInt8))) (T:=(Int)×(List (List UInt8))) JX.ca_s (fun X=>(X.2.2.1,X.2.2.2.1)) (fun ρ X Q Z=>JX.ca_ X.1 Q.1 Q.2 Z) (fun ρ X V Z=>Z 2 (Shape.inj JX.ca_s (X.1,X.2.1,V.1,V.2,())))
def JX (v:List YN):Option (List (List UInt8)):=
  bnd (iter (fun s↦JX.ca_ v s.1 s.2 some) ((0:Int),[])) fun y=>
  some y.2
def JX.ce:Go.Ql.Callee:=⟨[(.sl (.st (.pair (.ar 8 (.st (.pair .bool (.sl (.int .i64))))) (.int .i64))))],[(.sl .str)],fun X=>JX X⟩
def JX.G:Env:=⟨20,tab,[(16,jY.ce)],[0,2,3,4,8],[3],[],[(100003,JX.ca_r)],[],jI,[]⟩
theorem JX.p0:PcA JX.G Tryz.f30 0:=
  Jf (s:=JX.ca_r) (by kernel_rfl) (by kernel_rfl) (jW (sh:=JX.ca_s) (I:=fun X Q=>(X.1,X.2.1,Q.1,Q.2,())) (fun X=>rfl) (fun ρ X Q Z=>(jg (jb fun _=>(jb fun _=>(jb fun _=>jc))) jc)) (fun ρ X t k=>(by kernel_rfl)) (fun X s=>by kernel_rfl))
theorem JX.ok:CalleeOk Tryz.prog 30 JX.ce:=fn_ok (G:=JX.G) jX mixed Tryz.func30 ⟨(jn jY.ok jK),jE,jq,jD⟩ (m:=1) (by kernel_rfl) ⟨trivial,JX.p0⟩ (by kernel_rfl) (fun _=>by kernel_rfl)
abbrev sa89:SD:=.one (.ref 11 0)
abbrev sa90:SO:=.box [.val (.sl .str),.val (.sl (.int .i64)),.val (.int .i64)]
def JU.c3  (Z:Unit→Option ρ):Option ρ:=
  Z ()
def JU.c3s:Shape:=⟨[(0,sa4),(1,sa2),(2,sa0),(3,sa7),(6,sa35),(7,sa26),(8,sa81),(9,sa0),(10,sa2),(11,sa89)],[(3,sa8),(6,sa90),(7,sa17),(11,sa17)]⟩
def JU.c3r:Ck:=Ck.of (T:=Unit) JU.c3s (fun ρ X Z=>JU.c3  Z) (fun ρ X V Z=>Z 0 (Shape.inj JU.c3s (X.1,X.2.1,X.2.2.1,X.2.2.2.1,(q4 X).1,(q4 X).2.1,(q4 X).2.2.1,(q4 X).2.2.2.1,(q8 X).1,[],[],(0:Int),(q4 (q8 X)).2.2.1,(q4 (q8 X)).2.2.2.1,(q4 (q8 X)).2.2)))
def JU.c4 (v:List YN)(Z:List (List UInt8)→Option ρ):Option ρ:=
  bnd (JX v) fun y=>
  Z y
def JU.c4r:Ck:=Ck.of (T:=List (List UInt8)) JU.c3s (fun ρ X Z=>JU.c4 X.2.2.2.1 Z) (fun ρ X V Z=>Z 0 (Shape.inj JU.c3s (X.1,X.2.1,X.2.2.1,X.2.2.2.1,(q4 X).1,(q4 X).2.1,(q4 X).2.2.1,(q4 X).2.2.2.1,(q8 X).1,V,(q4 X).1,(q4 X).2.1,(q4 (q8 X)).2.2.1,(q4 (q8 X)).2.2.2.1,(q4 (q8 X)).2.2)))
def JU (c:(Int)×((Int)×(List YO))) (t1:Int) (tape:List (Int)):Option (((List (List UInt8))×((List Int)×(Int)))×((Int)×(Int))):=
  bnd (jR (c.1,c.2.1,c.2.2) t1 tape) fun y=>
  br (y.2.2.2.1 !=0)
   (bnd (JU.c3 some) fun y_1=>
    some (([],[],(0:Int)),y.2.2.2.1,y.2.2.2.2))
   (bnd (JU.c4 y.1 some) fun y_2=>
    some ((y_2,y.2.1,y.2.2.1),y.2.2.2.1,y.2.2.2.2))
def JU.ce:Go.Ql.Callee:=⟨[(.st (.pair (.int .i64) (.pair (.int .i64) (.sl (.st (.pair (.int .i64) (.pair (.int .i64) (.pair (.sl (.int .i64)) (.pair (.int .i64) (.pair (.int .i64) (.sl (.int .i64)))))))))))),(.int .i64),(.sl (.int .i64))],[(.st (.pair (.sl .str) (.pair (.sl (.int .i64)) (.int .i64)))),(.st (.pair (.int .i64) (.int .i64)))],fun X=>JU X.1 X.2.1 X.2.2⟩
def JU.G:Env:=⟨32,tab,[(15,jR.ce),(30,JX.ce)],[0,1,2,3,6,7,8,9,10,11,23],[],[(4,[⟨[],[],[28,29,31],[]⟩,⟨[0],[],[28,29,31],[]⟩,⟨[],[],[26,27,29,31],[]⟩,⟨[],[],[26,27,28,31],[]⟩,⟨[1,0,2,3],[],[31],[]⟩,⟨[],[],[26,27,28,29,30],[6]⟩,⟨[4,1,0,2,3],[6],[31],[]⟩,⟨[5,6,4,1,0,2,3],[7],[],[]⟩]),
  (3,[⟨[],[],[25],[]⟩,⟨[],[],[24],[6]⟩,⟨[0],[6],[25],[]⟩,⟨[1,2,0],[7],[],[]⟩])],[(4,JU.c4r),(3,JU.c3r)],[],jI,[]⟩
theorem JU.p0:PcA JU.G Tryz.f9 0:=
  js (s:=JU.c3r) (by kernel_rfl) (by kernel_rfl) (jp (sh:=JU.c3s) (fun ρ X Z=>jc) (fun ρ X t k=>(by kernel_rfl)) (fun X=>by kernel_rfl))
theorem JU.p1:PcA JU.G Tryz.f9 1:=
  js (s:=JU.c4r) (by kernel_rfl) (by kernel_rfl) (jp (sh:=JU.c3s) (fun ρ X Z=>(jb fun _=>jc)) (fun ρ X t k=>(by kernel_rfl)) (fun X=>by kernel_rfl))
theorem JU.ok:CalleeOk Tryz.prog 9 JU.ce:=fn_ok (G:=JU.G) jX mixed Tryz.func9 ⟨(jn jR.ok (jn JX.ok jK)),jE,jq,jD⟩ (m:=2) (by kernel_rfl) ⟨⟨trivial,JU.p0⟩,JU.p1⟩ (by kernel_rfl) (fun _=>by kernel_rfl)
def kN  : Option ((Int)×((Int)×(List YO))):=
  some ((2:Int),(1:Int),[((3:Int),(0:Int),[],(0:Int),(0:Int),[]),((2:Int),(0:Int),[(0:Int)],(1:Int),(0:Int),[]),((5:Int),(0:Int),[],(1:Int),(0:Int),[(-1:Int)])])
def kN.ce:Go.Ql.Callee:=⟨[],[(.st (.pair (.int .i64) (.pair (.int .i64) (.sl (.st (.pair (.int .i64) (.pair (.int .i64) (.pair (.sl (.int .i64)) (.pair (.int .i64) (.pair (.int .i64) (.sl (.int .i64))))))))))))],fun X=>kN⟩
def kN.G:Env:=⟨8,tab,[],[0],[],[],[],[],jI,[]⟩
theorem kN.ok:CalleeOk Tryz.prog 31 kN.ce:=fn_ok (G:=kN.G) jX mixed Tryz.func31 ⟨jK,jE,jq,jD⟩ (m:=0) (by kernel_rfl) trivial (by kernel_rfl) (fun _=>by kernel_rfl)
def Jb.c6 (a:List (List UInt8))(b:List (List UInt8))(i:Int)(Z:Bool→Option ρ):Option ρ:=
  bnd (idx a i) fun y=>
  bnd (idx b i) fun y_1=>
  Z (!y==y_1)
def Jb.c6s:Shape:=⟨[(0,sa70),(1,sa70),(4,sa11),(5,sa2)],[]⟩
def Jb.c6x0:Shape:=⟨[(0,sa70),(1,sa70),(4,sa11),(5,sa2),(25,sa11)],[]⟩
def Jb.c6r:Ck:=Ck.of (T:=Bool) Jb.c6s (fun ρ X Z=>Jb.c6 X.1 X.2.1 X.2.2.2.1 Z) (fun ρ X V Z=>Z 0 (Shape.inj Jb.c6x0 (X.1,X.2.1,X.2.2.1,X.2.2.2.1,V,())))
def Jb.cb_ (a:List (List UInt8))(b:List (List UInt8))(i:Int)(Z:(Int)⊕((Int)⊕(Int))→Option ρ):Option ρ:=
  br (decide (i<(a.length:Int)))
   (bnd (Jb.c6 a b i some) fun y=>
    br y
     (Z (.inr (.inl i)))
     (Z (.inl (i64.wrap (i+1)))))
   (Z (.inr (.inr i)))
def Jb.cb_r:Ck:=Ck.ofLoop (S:=Int) (T:=(Int)⊕(Int)) Jb.c6s (fun X=>X.2.2.2.1) (fun ρ X Q Z=>Jb.cb_ X.1 X.2.1 Q Z) (fun ρ X V Z=>sel V (fun V=>Z 1 (Shape.inj Jb.c6s (X.1,X.2.1,false,V,()))) (fun V=>Z 2 (Shape.inj Jb.c6s (X.1,X.2.1,X.2.2.1,V,()))))
def Jb (a:List (List UInt8)) (b:List (List UInt8)):Option Bool:=
  br ((a.length:Int) !=(b.length:Int))
   (some false)
   (bnd (iter (fun s↦Jb.cb_ a b s some) (0:Int)) fun y=>
    sel y
     (fun u=>some false)
     (fun v=>some true))
def Jb.ce:Go.Ql.Callee:=⟨[(.sl .str),(.sl .str)],[.bool],fun X=>Jb X.1 X.2⟩
def Jb.G:Env:=⟨26,tab,[],[0,1,4,5,10,14,25],[],[(6,[⟨[],[],[18,21,22,23,24],[]⟩,⟨[],[],[17,21,22,23,24],[]⟩,⟨[0,1],[],[21,22,23,24],[]⟩,⟨[2,0,1],[],[21,22,23,24],[]⟩,⟨[],[],[17,18,19,20,22],[]⟩,⟨[],[],[17,18,19,20,21],[]⟩,⟨[4,5],[],[17,18,19,20],[]⟩,⟨[6,4,5],[],[17,18,19,20],[]⟩,⟨[3,2,0,1,7,6,4,5],[],[],[]⟩])],[(100004,Jb.cb_r),(6,Jb.c6r)],[],jI,[]⟩
theorem Jb.p0:PcA Jb.G Tryz.f32 0:=
  Jf (s:=Jb.cb_r) (by kernel_rfl) (by kernel_rfl) (jW (sh:=Jb.c6s) (I:=fun X Q=>(X.1,X.2.1,X.2.2.1,Q,())) (fun X=>rfl) (fun ρ X Q Z=>(jg (jb fun _=>(jg jc jc)) jc)) (fun ρ X t k=>(kr (fun _=>(by kernel_rfl)) (fun _=>(by kernel_rfl)))) (fun X s=>by kernel_rfl))
theorem Jb.p1:PcA Jb.G Tryz.f32 1:=
  js (s:=Jb.c6r) (by kernel_rfl) (by kernel_rfl) (jp (sh:=Jb.c6s) (fun ρ X Z=>(jb fun _=>(jb fun _=>jc))) (fun ρ X t k=>(by kernel_rfl)) (fun X=>by kernel_rfl))
theorem Jb.ok:CalleeOk Tryz.prog 32 Jb.ce:=fn_ok (G:=Jb.G) jX mixed Tryz.func32 ⟨jK,jE,jq,jD⟩ (m:=2) (by kernel_rfl) ⟨⟨trivial,Jb.p0⟩,Jb.p1⟩ (by kernel_rfl) (fun _=>by kernel_rfl)
def jZ.c6 (a:List (Int))(b:List (Int))(i:Int)(Z:Bool→Option ρ):Option ρ:=
  bnd (idx a i) fun y=>
  bnd (idx b i) fun y_1=>
  Z (y !=y_1)
def jZ.c6s:Shape:=⟨[(0,sa0),(1,sa0),(4,sa11),(5,sa2)],[]⟩
def jZ.c6x0:Shape:=⟨[(0,sa0),(1,sa0),(4,sa11),(5,sa2),(25,sa11)],[]⟩
def jZ.c6r:Ck:=Ck.of (T:=Bool) jZ.c6s (fun ρ X Z=>jZ.c6 X.1 X.2.1 X.2.2.2.1 Z) (fun ρ X V Z=>Z 0 (Shape.inj jZ.c6x0 (X.1,X.2.1,X.2.2.1,X.2.2.2.1,V,())))
def jZ.cb_ (a:List (Int))(b:List (Int))(i:Int)(Z:(Int)⊕((Int)⊕(Int))→Option ρ):Option ρ:=
  br (decide (i<(a.length:Int)))
   (bnd (jZ.c6 a b i some) fun y=>
    br y
     (Z (.inr (.inl i)))
     (Z (.inl (i64.wrap (i+1)))))
   (Z (.inr (.inr i)))
def jZ.cb_r:Ck:=Ck.ofLoop (S:=Int) (T:=(Int)⊕(Int)) jZ.c6s (fun X=>X.2.2.2.1) (fun ρ X Q Z=>jZ.cb_ X.1 X.2.1 Q Z) (fun ρ X V Z=>sel V (fun V=>Z 1 (Shape.inj jZ.c6s (X.1,X.2.1,false,V,()))) (fun V=>Z 2 (Shape.inj jZ.c6s (X.1,X.2.1,X.2.2.1,V,()))))
def jZ (a:List (Int)) (b:List (Int)):Option Bool:=
  br ((a.length:Int) !=(b.length:Int))
   (some false)
   (bnd (iter (fun s↦jZ.cb_ a b s some) (0:Int)) fun y=>
    sel y
     (fun u=>some false)
     (fun v=>some true))
def jZ.ce:Go.Ql.Callee:=⟨[(.sl (.int .i64)),(.sl (.int .i64))],[.bool],fun X=>jZ X.1 X.2⟩
def jZ.G:Env:=⟨26,tab,[],[0,1,4,5,10,14,25],[],[(6,[⟨[],[],[18,21,22,23,24],[]⟩,⟨[],[],[17,21,22,23,24],[]⟩,⟨[0,1],[],[21,22,23,24],[]⟩,⟨[2,0,1],[],[21,22,23,24],[]⟩,⟨[],[],[17,18,19,20,22],[]⟩,⟨[],[],[17,18,19,20,21],[]⟩,⟨[4,5],[],[17,18,19,20],[]⟩,⟨[6,4,5],[],[17,18,19,20],[]⟩,⟨[3,2,0,1,7,6,4,5],[],[],[]⟩])],[(100004,jZ.cb_r),(6,jZ.c6r)],[],jI,[]⟩
theorem jZ.p0:PcA jZ.G Tryz.f13 0:=
  Jf (s:=jZ.cb_r) (by kernel_rfl) (by kernel_rfl) (jW (sh:=jZ.c6s) (I:=fun X Q=>(X.1,X.2.1,X.2.2.1,Q,())) (fun X=>rfl) (fun ρ X Q Z=>(jg (jb fun _=>(jg jc jc)) jc)) (fun ρ X t k=>(kr (fun _=>(by kernel_rfl)) (fun _=>(by kernel_rfl)))) (fun X s=>by kernel_rfl))
theorem jZ.p1:PcA jZ.G Tryz.f13 1:=
  js (s:=jZ.c6r) (by kernel_rfl) (by kernel_rfl) (jp (sh:=jZ.c6s) (fun ρ X Z=>(jb fun _=>(jb fun _=>jc))) (fun ρ X t k=>(by kernel_rfl)) (fun X=>by kernel_rfl))
theorem jZ.ok:CalleeOk Tryz.prog 13 jZ.ce:=fn_ok (G:=jZ.G) jX mixed Tryz.func13 ⟨jK,jE,jq,jD⟩ (m:=2) (by kernel_rfl) ⟨⟨trivial,jZ.p0⟩,jZ.p1⟩ (by kernel_rfl) (fun _=>by kernel_rfl)
abbrev sa91:SD:=.one (.val (.st (.pair (.sl .str) (.pair (.sl (.int .i64)) (.int .i64)))))
def JA.c1 (a0:List (List UInt8))(a1:List (Int))(a2:Int)(b0:List (List UInt8))(b1:List (Int))(b2:Int)(Z:Bool→Option ρ):Option ρ:=
  bnd (Jb a0 b0) fun y=>
  br y
   (bnd (jZ a1 b1) fun y_1=>
    br y_1
     (Z (a2==b2))
     (Z false))
   (Z false)
def JA.c1s:Shape:=⟨[(0,sa91),(1,sa91),(2,sa6),(3,sa7),(4,sa11)],[(2,sa90),(3,sa90)]⟩
def JA.c1r:Ck:=Ck.of (T:=Bool) JA.c1s (fun ρ X Z=>JA.c1 X.2.2.2.1 (q4 X).1 (q4 X).2.1 (q4 X).2.2.1 (q4 X).2.2.2.1 (q8 X).1 Z) (fun ρ X V Z=>Z 0 (Shape.inj JA.c1s (X.1,X.2.1,V,X.2.2.2)))
def JA (a:(List (List UInt8))×((List Int)×(Int))) (b:(List (List UInt8))×((List Int)×(Int))):Option Bool:=
  bnd (JA.c1 a.1 a.2.1 a.2.2 b.1 b.2.1 b.2.2 some) fun y=>
  some y
def JA.ce:Go.Ql.Callee:=⟨[(.st (.pair (.sl .str) (.pair (.sl (.int .i64)) (.int .i64)))),(.st (.pair (.sl .str) (.pair (.sl (.int .i64)) (.int .i64))))],[.bool],fun X=>JA X.1 X.2⟩
def JA.G:Env:=⟨24,tab,[(32,Jb.ce),(13,jZ.ce)],[0,1,2,3,4],[],[],[(1,JA.c1r)],[],jI,[]⟩
theorem JA.p0:PcA JA.G Tryz.f11 0:=
  js (s:=JA.c1r) (by kernel_rfl) (by kernel_rfl) (jp (sh:=JA.c1s) (fun ρ X Z=>(jb fun _=>(jg (jb fun _=>(jg jc jc)) jc))) (fun ρ X t k=>(by kernel_rfl)) (fun X=>by kernel_rfl))
theorem JA.ok:CalleeOk Tryz.prog 11 JA.ce:=fn_ok (G:=JA.G) jX mixed Tryz.func11 ⟨(jn Jb.ok (jn jZ.ok jK)),jE,jq,jD⟩ (m:=1) (by kernel_rfl) ⟨trivial,JA.p0⟩ (by kernel_rfl) (fun _=>by kernel_rfl)
def jx.c1 (a0:Int)(a1:Int)(a2:List YO)(b0:Int)(b1:Int)(b2:List YO)(Z:Bool→Option ρ):Option ρ:=
  br (a0 !=b0)
   (Z true)
   (br (a1 !=b1)
     (Z true)
     (Z ((a2.length:Int) !=(b2.length:Int))))
def jx.c1s:Shape:=⟨[(0,sa4),(1,sa4),(2,sa6),(3,sa7),(4,sa11)],[(2,sa8),(3,sa8)]⟩
def jx.c1x0:Shape:=⟨[(0,sa4),(1,sa4),(2,sa6),(3,sa7),(4,sa11),(28,sa11)],[(2,sa8),(3,sa8)]⟩
def jx.c1r:Ck:=Ck.of (T:=Bool) jx.c1s (fun ρ X Z=>jx.c1 X.2.2.2.1 (q4 X).1 (q4 X).2.1 (q4 X).2.2.1 (q4 X).2.2.2.1 (q8 X).1 Z) (fun ρ X V Z=>Z 0 (Shape.inj jx.c1x0 (X.1,X.2.1,X.2.2.1,V,X.2.2.2)))
def jx.c8 (x0:Int)(x1:Int)(x2:List (Int))(x3:Int)(x4:Int)(x5:List (Int))(y0:Int)(y1:Int)(y2:List (Int))(y3:Int)(y4:Int)(y5:List (Int))(Z:Bool→Option ρ):Option ρ:=
  br (x0 !=y0)
   (Z true)
   (br (x1 !=y1)
     (Z true)
     (br (x3 !=y3)
       (Z true)
       (br (x4 !=y4)
         (Z true)
         (bnd (jZ x2 y2) fun y=>
          br (!y)
           (Z true)
           (bnd (jZ x5 y5) fun y_1=>
            Z (!y_1))))))
def jx.c8s:Shape:=⟨[(0,sa4),(1,sa4),(2,sa6),(3,sa7),(4,sa11),(5,sa2),(6,sa35),(7,sa26)],[(2,sa8),(3,sa8),(6,sa14),(7,sa14)]⟩
def jx.c8x0:Shape:=⟨[(0,sa4),(1,sa4),(2,sa6),(3,sa7),(4,sa11),(5,sa2),(6,sa35),(7,sa26),(87,sa11)],[(2,sa8),(3,sa8),(6,sa14),(7,sa14)]⟩
def jx.c8r:Ck:=Ck.of (T:=Bool) jx.c8s (fun ρ X Z=>jx.c8 (q8 X).2.2.1 (q8 X).2.2.2.1 (q4 (q8 X)).1 (q4 (q8 X)).2.1 (q4 (q8 X)).2.2.1 (q4 (q8 X)).2.2.2.1 (q8 (q8 X)).1 (q8 (q8 X)).2.1 (q8 (q8 X)).2.2.1 (q8 (q8 X)).2.2.2.1 (q4 (q8 (q8 X))).1 (q4 (q8 (q8 X))).2.1 Z) (fun ρ X V Z=>Z 0 (Shape.inj jx.c8x0 (X.1,X.2.1,X.2.2.1,X.2.2.2.1,V,(q4 X))))
def jx.cb_ (i:Int)(a2:List YO)(b2:List YO)(Z:(Int)⊕((Int)⊕(Int))→Option ρ):Option ρ:=
  br (decide (i<(a2.length:Int)))
   (bnd (idx a2 i) fun y=>
    bnd (idx b2 i) fun y_1=>
    bnd (jx.c8 y.1 y.2.1 y.2.2.1 y.2.2.2.1 y.2.2.2.2.1 y.2.2.2.2.2 y_1.1 y_1.2.1 y_1.2.2.1 y_1.2.2.2.1 y_1.2.2.2.2.1 y_1.2.2.2.2.2 some) fun y_2=>
    br y_2
     (Z (.inr (.inl i)))
     (Z (.inl (i64.wrap (i+1)))))
   (Z (.inr (.inr i)))
def jx.cb_s:Shape:=⟨[(0,sa4),(1,sa4),(2,sa6),(3,sa7),(4,sa11),(5,sa2)],[(2,sa8),(3,sa8)]⟩
def jx.cb_r:Ck:=Ck.ofLoop (S:=Int) (T:=(Int)⊕(Int)) jx.cb_s (fun X=>X.2.2.2.1) (fun ρ X Q Z=>jx.cb_ Q (q4 X).2.2.1 (q8 X).2.1 Z) (fun ρ X V Z=>sel V (fun V=>Z 1 (Shape.inj jx.cb_s (X.1,X.2.1,false,V,(q4 X)))) (fun V=>Z 2 (Shape.inj jx.cb_s (X.1,X.2.1,X.2.2.1,V,(q4 X)))))
def jx (a:(Int)×((Int)×(List YO))) (b:(Int)×((Int)×(List YO))):Option Bool:=
  bnd (jx.c1 a.1 a.2.1 a.2.2 b.1 b.2.1 b.2.2 some) fun y=>
  br y
   (some false)
   (bnd (iter (fun s↦jx.cb_ s a.2.2 b.2.2 some) (0:Int)) fun y_1=>
    sel y_1
     (fun u=>some false)
     (fun v=>some true))
def jx.ce:Go.Ql.Callee:=⟨[(.st (.pair (.int .i64) (.pair (.int .i64) (.sl (.st (.pair (.int .i64) (.pair (.int .i64) (.pair (.sl (.int .i64)) (.pair (.int .i64) (.pair (.int .i64) (.sl (.int .i64)))))))))))),(.st (.pair (.int .i64) (.pair (.int .i64) (.sl (.st (.pair (.int .i64) (.pair (.int .i64) (.pair (.sl (.int .i64)) (.pair (.int .i64) (.pair (.int .i64) (.sl (.int .i64))))))))))))],[.bool],fun X=>jx X.1 X.2⟩
def jx.G:Env:=⟨88,tab,[(13,jZ.ce)],[0,1,2,3,4,5,6,7,28,33,87],[],[],[(100004,jx.cb_r),(8,jx.c8r),(1,jx.c1r)],[],jI,[]⟩
theorem jx.p0:PcA jx.G Tryz.f12 0:=
  js (s:=jx.c1r) (by kernel_rfl) (by kernel_rfl) (jp (sh:=jx.c1s) (fun ρ X Z=>(jg jc (jg jc jc))) (fun ρ X t k=>(by kernel_rfl)) (fun X=>by kernel_rfl))
theorem jx.p1:PcA jx.G Tryz.f12 1:=
  Jf (s:=jx.cb_r) (by kernel_rfl) (by kernel_rfl) (jW (sh:=jx.cb_s) (I:=fun X Q=>(X.1,X.2.1,X.2.2.1,Q,(q4 X))) (fun X=>rfl) (fun ρ X Q Z=>(jg (jb fun _=>(jb fun _=>(jb fun _=>(jg jc jc)))) jc)) (fun ρ X t k=>(kr (fun _=>(by kernel_rfl)) (fun _=>(by kernel_rfl)))) (fun X s=>by kernel_rfl))
theorem jx.p2:PcA jx.G Tryz.f12 2:=
  js (s:=jx.c8r) (by kernel_rfl) (by kernel_rfl) (jp (sh:=jx.c8s) (fun ρ X Z=>(jg jc (jg jc (jg jc (jg jc (jb fun _=>(jg jc (jb fun _=>jc)))))))) (fun ρ X t k=>(by kernel_rfl)) (fun X=>by kernel_rfl))
theorem jx.ok:CalleeOk Tryz.prog 12 jx.ce:=fn_ok (G:=jx.G) jX mixed Tryz.func12 ⟨(jn jZ.ok jK),jE,jq,jD⟩ (m:=3) (by kernel_rfl) ⟨⟨⟨trivial,jx.p0⟩,jx.p1⟩,jx.p2⟩ (by kernel_rfl) (fun _=>by kernel_rfl)
def Jl.cb_ (a_1:YN)(t13:Int)(out:List YN)(Z:((Int)×(List YN))⊕((Int)×(List YN))→Option ρ):Option ρ:=
  br (decide (t13<7))
   (bnd (idx a_1.1 (i64.wrap (t13+1))) fun y=>
    bnd (whole_Int_Neg y) fun y_1=>
    bnd (inR (out.length) (0:Int)) fun y_2=>
    bnd (okIf (decide ((0:Ty.den (Ty.int IntKind.i64))≤i64.wrap ((7:Int)-t13))&&decide (i64.wrap ((7:Int)-t13)<(↑(8:Nat):Int)))) fun y_3=>
    bnd (idx out (0:Int)) fun y_4=>
    bnd (idx y_4.1 (i64.wrap ((7:Int)-t13))) fun y_5=>
    Z (.inl ((i64.wrap (t13+1)),(List.set out (0:Nat) (List.set y_4.1 (Int.toNat (i64.wrap ((7:Int)-t13))) y_1,y_4.2)))))
   (Z (.inr (t13,out)))
def Jl.cb_s:Shape:=⟨[(0,sa23),(1,sa24),(2,sa54),(3,sa55),(13,sa2)],[(2,sa28),(3,sa28)]⟩
def Jl.cb_r:Ck:=Ck.ofLoop (S:=(Int)×(List YN)) (T:=(Int)×(List YN)) Jl.cb_s (fun X=>(X.2.2.1,(q4 X).1)) (fun ρ X Q Z=>Jl.cb_ X.2.1 Q.1 Q.2 Z) (fun ρ X V Z=>Z 2 (Shape.inj Jl.cb_s (X.1,X.2.1,V.1,X.2.2.2.1,V.2,())))
def Jl (a:YN):Option YN:=
  bnd (idx a.1 (0:Int)) fun y=>
  bnd (idx (List.replicate (8:Nat) (false,([]:List (Ty.den (Ty.int IntKind.u32))))) (0:Int)) fun y_1=>
  bnd (iter (fun s↦Jl.cb_ a s.1 s.2 some) ((0:Int),(List.set (List.replicate (8:Nat) (false,([]:List (Ty.den (Ty.int IntKind.u32))))) (0:Nat) y,a.2)::([]:List (Ty.den (Ty.st (Ty.pair (Ty.ar (nat_lit 8) (Ty.st (Ty.pair Ty.bool (Ty.sl (Ty.int IntKind.u32))))) (Ty.int IntKind.i64))))))) fun y_2=>
  bnd (idx y_2.2 (0:Int)) fun y_3=>
  some y_3
def Jl.ce:Go.Ql.Callee:=⟨[(.st (.pair (.ar 8 (.st (.pair .bool (.sl (.int .u32))))) (.int .i64)))],[(.st (.pair (.ar 8 (.st (.pair .bool (.sl (.int .u32))))) (.int .i64)))],fun X=>Jl X⟩
def Jl.G:Env:=⟨28,tab,[(116,whole_Int_Neg.ce)],[0,1,2,3,4,13,14],[2,3,7,8000001],[],[(100004,Jl.cb_r)],[],jI,[]⟩
theorem Jl.p0:PcA Jl.G Tryz.f83 0:=
  Jf (s:=Jl.cb_r) (by kernel_rfl) (by kernel_rfl) (jW (sh:=Jl.cb_s) (I:=fun X Q=>(X.1,X.2.1,Q.1,X.2.2.2.1,Q.2,())) (fun X=>rfl) (fun ρ X Q Z=>(jg (jb fun _=>(jb fun _=>(jb fun _=>(jb fun _=>(jb fun _=>(jb fun _=>jc)))))) jc)) (fun ρ X t k=>(by kernel_rfl)) (fun X s=>by kernel_rfl))
theorem Jl.ok:CalleeOk Tryz.prog 83 Jl.ce:=fn_ok (G:=Jl.G) jX mixed Tryz.func83 ⟨(jn whole_Int_Neg.ok jK),jE,jq,jD⟩ (m:=1) (by kernel_rfl) ⟨trivial,Jl.p0⟩ (by kernel_rfl) (fun _=>by kernel_rfl)
abbrev sa92:SD:=.one (.own 18 0)
def whole_Int_Mul.cd_ (i:Int)(x:Int)(carry:Int)(t28:List (Int))(t29:Int)(t30:Int)(t18:List (Int))(Z:((Int)×(Int)×(List Int))⊕((Int)×(Int)×(List Int))→Option ρ):Option ρ:=
  br (decide (t30<t29))
   (bnd (idx t28 t30) fun y=>
    bnd (inR (t18.length) (i64.wrap (i+t30))) fun y_1=>
    bnd (idx t18 (i64.wrap (i+t30))) fun y_2=>
    bnd (inR (t18.length) (i64.wrap (i+t30))) fun y_3=>
    bnd (idx t18 (i64.wrap (i+t30))) fun y_4=>
    Z (.inl ((Int.fdiv (u64.wrap (carry+u64.wrap (u64.wrap (IntKind.wrap IntKind.u64 x*IntKind.wrap IntKind.u64 y)+IntKind.wrap IntKind.u64 y_2))) ((2:Int) ^32)),(i64.wrap (t30+1)),(List.set t18 (Int.toNat (i64.wrap (i+t30))) (u32.wrap (u64.wrap (carry+u64.wrap (u64.wrap (IntKind.wrap IntKind.u64 x*IntKind.wrap IntKind.u64 y)+IntKind.wrap IntKind.u64 y_2))))))))
   (Z (.inr (carry,t30,t18)))
def whole_Int_Mul.cd_s:Shape:=⟨[(0,sa50),(1,sa50),(2,sa6),(3,sa7),(4,sa20),(5,sa92),(6,sa2),(7,sa46),(8,sa22),(20,sa19),(21,sa2),(22,sa2),(28,sa19),(29,sa2),(30,sa2)],[(2,sa21),(3,sa21),(4,sa21),(18,sa43)]⟩
def whole_Int_Mul.cd_r:Ck:=Ck.ofLoop (S:=(Int)×(Int)×(List Int)) (T:=(Int)×(Int)×(List Int)) whole_Int_Mul.cd_s (fun X=>((q4 X).1,(q8 X).2.2.1,(q8 (q8 X)).2.1)) (fun ρ X Q Z=>whole_Int_Mul.cd_ X.2.2.1 X.2.2.2.1 Q.1 (q8 X).1 (q8 X).2.1 Q.2.1 Q.2.2 Z) (fun ρ X V Z=>Z 4 (Shape.inj whole_Int_Mul.cd_s (X.1,X.2.1,X.2.2.1,X.2.2.2.1,V.1,(q4 X).2.1,(q4 X).2.2.1,(q4 X).2.2.2.1,(q8 X).1,(q8 X).2.1,V.2.1,(q8 X).2.2.2.1,(q4 (q8 X)).1,(q4 (q8 X)).2.1,(q4 (q8 X)).2.2.1,(q4 (q8 X)).2.2.2.1,(q8 (q8 X)).1,V.2.2,())))
def whole_Int_Mul.ca_ (t20:List (Int))(t21:Int)(t22:Int)(b1:List (Int))(t18:List (Int))(Z:((Int)×(List Int))⊕((Int)×(List Int))→Option ρ):Option ρ:=
  br (decide (t22<t21))
   (bnd (idx t20 t22) fun y=>
    bnd (iter (fun s↦whole_Int_Mul.cd_ t22 y s.1 b1 (b1.length:Int) s.2.1 s.2.2 some) ((0:Int),(0:Int),t18)) fun y_1=>
    bnd (inR (List.length y_1.2.2) (i64.wrap (t22+(b1.length:Int)))) fun y_2=>
    bnd (idx y_1.2.2 (i64.wrap (t22+(b1.length:Int)))) fun y_3=>
    Z (.inl ((i64.wrap (t22+1)),(List.set y_1.2.2 (Int.toNat (i64.wrap (t22+(b1.length:Int)))) (u32.wrap y_1.1)))))
   (Z (.inr (t22,t18)))
def whole_Int_Mul.ca_s:Shape:=⟨[(0,sa50),(1,sa50),(2,sa6),(3,sa7),(4,sa20),(5,sa92),(20,sa19),(21,sa2),(22,sa2)],[(2,sa21),(3,sa21),(4,sa21),(18,sa43)]⟩
def whole_Int_Mul.ca_r:Ck:=Ck.ofLoop (S:=(Int)×(List Int)) (T:=(Int)×(List Int)) whole_Int_Mul.ca_s (fun X=>((q4 X).1,(q8 X).2.2.2.1)) (fun ρ X Q Z=>whole_Int_Mul.ca_ X.2.2.1 X.2.2.2.1 Q.1 (q8 X).1 Q.2 Z) (fun ρ X V Z=>Z 2 (Shape.inj whole_Int_Mul.ca_s (X.1,X.2.1,X.2.2.1,X.2.2.2.1,V.1,(q4 X).2.1,(q4 X).2.2.1,(q4 X).2.2.2.1,(q8 X).1,(q8 X).2.1,(q8 X).2.2.1,V.2,())))
def whole_Int_Mul (a:Bool×(List Int)) (b:Bool×(List Int)):Option (Bool×(List Int)):=
  bnd (okIf (decide ((0:Int)≤i64.wrap ((↑(List.length a.2):Int)+(↑(List.length b.2):Int)))&&decide (i64.wrap ((↑(List.length a.2):Int)+(↑(List.length b.2):Int))≤i64.wrap ((↑(List.length a.2):Int)+(↑(List.length b.2):Int)))&&decide (i64.wrap ((↑(List.length a.2):Int)+(↑(List.length b.2):Int))*(↑(4:Nat):Int)≤140737488355328)&&decide (i64.wrap ((↑(List.length a.2):Int)+(↑(List.length b.2):Int))≤140737488355328))) fun y=>
  bnd (iter (fun s↦whole_Int_Mul.ca_ a.2 (↑(List.length a.2):Int) s.1 b.2 s.2 some) ((0:Int),List.replicate (Int.toNat (i64.wrap ((↑(List.length a.2):Int)+(↑(List.length b.2):Int)))) (0:Int))) fun y_1=>
  bnd (whole_made (!a.1==b.1) y_1.2) fun y_2=>
  some (y_2.1,y_2.2)
def whole_Int_Mul.ce:Go.Ql.Callee:=⟨[(.st (.pair .bool (.sl (.int .u32)))),(.st (.pair .bool (.sl (.int .u32))))],[(.st (.pair .bool (.sl (.int .u32))))],fun X=>whole_Int_Mul X.1 X.2⟩
def whole_Int_Mul.G:Env:=⟨77,tab,[(121,whole_made.ce)],[0,1,2,3,4,5,6,7,8,9,10,20,21,22,23,28,29,30,31],[18],[],[(100003,whole_Int_Mul.ca_r),(100007,whole_Int_Mul.cd_r)],[],jI,[]⟩
theorem whole_Int_Mul.p0:PcA whole_Int_Mul.G Tryz.f115 0:=
  Jf (s:=whole_Int_Mul.ca_r) (by kernel_rfl) (by kernel_rfl) (jW (sh:=whole_Int_Mul.ca_s) (I:=fun X Q=>(X.1,X.2.1,X.2.2.1,X.2.2.2.1,Q.1,(q4 X).2.1,(q4 X).2.2.1,(q4 X).2.2.2.1,(q8 X).1,(q8 X).2.1,(q8 X).2.2.1,Q.2,())) (fun X=>rfl) (fun ρ X Q Z=>(jg (jb fun _=>(jb fun _=>(jb fun _=>(jb fun _=>jc)))) jc)) (fun ρ X t k=>(by kernel_rfl)) (fun X s=>by kernel_rfl))
theorem whole_Int_Mul.p1:PcA whole_Int_Mul.G Tryz.f115 1:=
  Jf (s:=whole_Int_Mul.cd_r) (by kernel_rfl) (by kernel_rfl) (jW (sh:=whole_Int_Mul.cd_s) (I:=fun X Q=>(X.1,X.2.1,X.2.2.1,X.2.2.2.1,Q.1,(q4 X).2.1,(q4 X).2.2.1,(q4 X).2.2.2.1,(q8 X).1,(q8 X).2.1,Q.2.1,(q8 X).2.2.2.1,(q4 (q8 X)).1,(q4 (q8 X)).2.1,(q4 (q8 X)).2.2.1,(q4 (q8 X)).2.2.2.1,(q8 (q8 X)).1,Q.2.2,())) (fun X=>rfl) (fun ρ X Q Z=>(jg (jb fun _=>(jb fun _=>(jb fun _=>(jb fun _=>(jb fun _=>jc))))) jc)) (fun ρ X t k=>(by kernel_rfl)) (fun X s=>by kernel_rfl))
theorem whole_Int_Mul.ok:CalleeOk Tryz.prog 115 whole_Int_Mul.ce:=fn_ok (G:=whole_Int_Mul.G) jX mixed Tryz.func115 ⟨(jn whole_made.ok jK),jE,jq,jD⟩ (m:=2) (by kernel_rfl) ⟨⟨trivial,whole_Int_Mul.p0⟩,whole_Int_Mul.p1⟩ (by kernel_rfl) (fun _=>by kernel_rfl)
def jl.cr_ (i:Int)(j:Int)(z0:Bool)(z1:List (Int))(Z:Bool×(List Int)→Option ρ):Option ρ:=
  br (decide (i64.wrap (i+j)≥8))
   (bnd (whole_Int_Neg (z0,z1)) fun y=>
    Z (y.1,y.2))
   (Z (z0,z1))
def jl.cr_s:Shape:=⟨[(0,sa23),(1,sa23),(2,sa24),(3,sa24),(4,sa25),(5,sa15),(6,sa2),(7,sa26),(8,sa2),(9,sa84),(10,sa85),(12,sa27),(13,sa2),(21,sa27),(22,sa2)],[(4,sa28),(5,sa53),(7,sa21),(9,sa21),(10,sa21)]⟩
def jl.cr_r:Ck:=Ck.of (T:=Bool×(List Int)) jl.cr_s (fun ρ X Z=>jl.cr_ (q4 X).1 (q4 X).2.1 (q8 (q8 X)).1 (q8 (q8 X)).2.1 Z) (fun ρ X V Z=>Z 0 (Shape.inj jl.cr_s (X.1,X.2.1,X.2.2.1,X.2.2.2.1,(q4 X).1,(q4 X).2.1,(q4 X).2.2.1,(q4 X).2.2.2.1,(q8 X).1,(q8 X).2.1,(q8 X).2.2.1,(q8 X).2.2.2.1,(q4 (q8 X)).1,(q4 (q8 X)).2.1,(q4 (q8 X)).2.2.1,(q4 (q8 X)).2.2.2.1,V.1,V.2,())))
def jl.c12 (i:Int)(j:Int)(out:List (Bool×(List Int)))(z0:Bool)(z1:List (Int))(Z:List (Bool×(List Int))→Option ρ):Option ρ:=
  bnd (okIf (decide ((0:Ty.den (Ty.int IntKind.i64))≤ibits BinOp.and IntKind.i64 (i64.wrap (i+j)) (7:Int))&&decide (ibits BinOp.and IntKind.i64 (i64.wrap (i+j)) (7:Int)<(↑(8:Nat):Int)))) fun y=>
  bnd (inR (out.length) (ibits BinOp.and IntKind.i64 (i64.wrap (i+j)) (7:Int))) fun y_1=>
  bnd (idx out (ibits BinOp.and IntKind.i64 (i64.wrap (i+j)) (7:Int))) fun y_2=>
  bnd (whole_Int_Add y_2 (z0,z1)) fun y_3=>
  bnd (okIf (decide ((0:Ty.den (Ty.int IntKind.i64))≤ibits BinOp.and IntKind.i64 (i64.wrap (i+j)) (7:Int))&&decide (ibits BinOp.and IntKind.i64 (i64.wrap (i+j)) (7:Int)<(↑(8:Nat):Int)))) fun y_4=>
  bnd (inR (out.length) (ibits BinOp.and IntKind.i64 (i64.wrap (i+j)) (7:Int))) fun y_5=>
  bnd (idx out (ibits BinOp.and IntKind.i64 (i64.wrap (i+j)) (7:Int))) fun y6=>
  Z (List.set out (Int.toNat (ibits BinOp.and IntKind.i64 (i64.wrap (i+j)) (7:Int))) y_3)
def jl.c12r:Ck:=Ck.of (T:=List (Bool×(List Int))) jl.cr_s (fun ρ X Z=>jl.c12 (q4 X).1 (q4 X).2.1 (q8 X).2.2.2.1 (q8 (q8 X)).1 (q8 (q8 X)).2.1 Z) (fun ρ X V Z=>Z 0 (Shape.inj jl.cr_s (X.1,X.2.1,X.2.2.1,X.2.2.2.1,(q4 X).1,(q4 X).2.1,(q4 X).2.2.1,(q4 X).2.2.2.1,(q8 X).1,(q8 X).2.1,(q8 X).2.2.1,V,(q4 (q8 X)))))
def jl.cd_ (i:Int)(t21:List (Bool×(List Int)))(t22:Int)(out:List (Bool×(List Int)))(x0:Bool)(x1:List (Int))(Z:((Int)×(List (Bool×(List Int))))⊕((Int)×(List (Bool×(List Int))))→Option ρ):Option ρ:=
  br (decide (t22<8))
   (bnd (idx t21 t22) fun y=>
    bnd (whole_Int_Mul (x0,x1) (y.1,y.2)) fun y_1=>
    bnd (jl.cr_ i t22 y_1.1 y_1.2 some) fun y_2=>
    bnd (jl.c12 i t22 out y_2.1 y_2.2 some) fun y_3=>
    Z (.inl ((i64.wrap (t22+1)),y_3)))
   (Z (.inr (t22,out)))
def jl.cd_s:Shape:=⟨[(0,sa23),(1,sa23),(2,sa24),(3,sa24),(4,sa25),(5,sa15),(6,sa2),(7,sa26),(12,sa27),(13,sa2),(21,sa27),(22,sa2)],[(4,sa28),(5,sa53),(7,sa21)]⟩
def jl.cd_r:Ck:=Ck.ofLoop (S:=(Int)×(List (Bool×(List Int)))) (T:=(Int)×(List (Bool×(List Int)))) jl.cd_s (fun X=>((q8 X).1,(q8 X).2.2.1)) (fun ρ X Q Z=>jl.cd_ (q4 X).1 (q4 X).2.2.2.1 Q.1 Q.2 (q8 X).2.2.2.1 (q4 (q8 X)).1 Z) (fun ρ X V Z=>Z 4 (Shape.inj jl.cd_s (X.1,X.2.1,X.2.2.1,X.2.2.2.1,(q4 X).1,(q4 X).2.1,(q4 X).2.2.1,(q4 X).2.2.2.1,V.1,(q8 X).2.1,V.2,(q8 X).2.2.2)))
def jl.cz_ (b_1:YN)(t12:List (Bool×(List Int)))(t13:Int)(out:List (Bool×(List Int)))(Z:List (Bool×(List Int))→Option ρ):Option ρ:=
  bnd (idx t12 t13) fun y=>
  bnd (whole_Int_Sign (y.1,y.2)) fun y_1=>
  br (y_1==0)
   (Z out)
   (bnd (iter (fun s↦jl.cd_ t13 b_1.1 s.1 s.2 y.1 y.2 some) ((0:Int),out)) fun y_2=>
    Z y_2.2)
def jl.cz_s:Shape:=⟨[(0,sa23),(1,sa23),(2,sa24),(3,sa24),(4,sa25),(5,sa15),(12,sa27),(13,sa2)],[(4,sa28),(5,sa53)]⟩
def jl.cz_r:Ck:=Ck.of (T:=List (Bool×(List Int))) jl.cz_s (fun ρ X Z=>jl.cz_ X.2.2.2.1 (q4 X).1 (q4 X).2.1 (q4 X).2.2.2.1 Z) (fun ρ X V Z=>Z 0 (Shape.inj jl.cz_s (X.1,X.2.1,X.2.2.1,X.2.2.2.1,(q4 X).1,(q4 X).2.1,(q4 X).2.2.1,V,())))
def jl.ca_ (b_1:YN)(t12:List (Bool×(List Int)))(t13:Int)(out:List (Bool×(List Int)))(Z:((Int)×(List (Bool×(List Int))))⊕((Int)×(List (Bool×(List Int))))→Option ρ):Option ρ:=
  br (decide (t13<8))
   (bnd (jl.cz_ b_1 t12 t13 out some) fun y=>
    Z (.inl ((i64.wrap (t13+1)),y)))
   (Z (.inr (t13,out)))
def jl.ca_r:Ck:=Ck.ofLoop (S:=(Int)×(List (Bool×(List Int)))) (T:=(Int)×(List (Bool×(List Int)))) jl.cz_s (fun X=>((q4 X).2.1,(q4 X).2.2.2.1)) (fun ρ X Q Z=>jl.ca_ X.2.2.2.1 (q4 X).1 Q.1 Q.2 Z) (fun ρ X V Z=>Z 2 (Shape.inj jl.cz_s (X.1,X.2.1,X.2.2.1,X.2.2.2.1,(q4 X).1,V.1,(q4 X).2.2.1,V.2,())))
def jl (a:YN) (b:YN):Option YN:=
  bnd (iter (fun s↦jl.ca_ b a.1 s.1 s.2 some) ((0:Int),List.replicate (8:Nat) (false,[]))) fun y=>
  bnd (okIf (decide (List.length y.2=8))) fun y_1=>
  bnd (jv y.2 (i64.wrap (a.2+b.2))) fun y_2=>
  some y_2
def jl.ce:Go.Ql.Callee:=⟨[(.st (.pair (.ar 8 (.st (.pair .bool (.sl (.int .u32))))) (.int .i64))),(.st (.pair (.ar 8 (.st (.pair .bool (.sl (.int .u32))))) (.int .i64)))],[(.st (.pair (.ar 8 (.st (.pair .bool (.sl (.int .u32))))) (.int .i64)))],fun X=>jl X.1 X.2⟩
def jl.G:Env:=⟨57,tab,[(60,whole_Int_Sign.ce),(115,whole_Int_Mul.ce),(116,whole_Int_Neg.ce),(92,whole_Int_Add.ce),(90,jv.ce)],[0,1,2,3,4,5,6,7,8,9,10,12,13,14,19,21,22,23,32],[4,5,8000002,8000003],[(12,[⟨[],[],[36,39,40,41,42,43,44,45,46],[]⟩,⟨[],[],[35,39,40,41,42,43,44,45,46],[]⟩,⟨[0,1],[],[39,40,41,42,43,44,45,46],[]⟩,⟨[2,0,1],[],[39,40,41,42,43,44,45,46],[]⟩,⟨[],[],[35,36,37,38,40,45],[]⟩,⟨[],[],[35,36,37,38,39,45],[]⟩,⟨[4,5],[],[35,36,37,38,45],[]⟩,⟨[6,4,5],[],[35,36,37,38,45],[]⟩,⟨[7,6,4,5],[],[35,36,37,38,45],[]⟩,⟨[8,7,6,4,5],[],[35,36,37,38,45],[]⟩,⟨[],[],[35,36,37,38,39,40,41,42,43,44],[]⟩,⟨[9,8,7,6,4,5,10],[],[35,36,37,38],[]⟩,⟨[3,2,0,1,4,5,6,7,8,9,10,11],[],[],[]⟩,⟨[12,3,2,0,1,4,5,6,7,8,9,10,11],[5],[],[]⟩])],[(100003,jl.ca_r),(216417,jl.cz_r),(100007,jl.cd_r),(12,jl.c12r),(240965,jl.cr_r)],[],jI,[]⟩
theorem jl.p0:PcA jl.G Tryz.f82 0:=
  Jf (s:=jl.ca_r) (by kernel_rfl) (by kernel_rfl) (jW (sh:=jl.cz_s) (I:=fun X Q=>(X.1,X.2.1,X.2.2.1,X.2.2.2.1,(q4 X).1,Q.1,(q4 X).2.2.1,Q.2,())) (fun X=>rfl) (fun ρ X Q Z=>(jg (jb fun _=>jc) jc)) (fun ρ X t k=>(by kernel_rfl)) (fun X s=>by kernel_rfl))
theorem jl.p1:PcA jl.G Tryz.f82 1:=
  JR (s:=jl.cz_r) (by kernel_rfl) (by kernel_rfl) (jp (sh:=jl.cz_s) (fun ρ X Z=>(jb fun _=>(jb fun _=>(jg jc (jb fun _=>jc))))) (fun ρ X t k=>(by kernel_rfl)) (fun X=>by kernel_rfl))
theorem jl.p2:PcA jl.G Tryz.f82 2:=
  Jf (s:=jl.cd_r) (by kernel_rfl) (by kernel_rfl) (jW (sh:=jl.cd_s) (I:=fun X Q=>(X.1,X.2.1,X.2.2.1,X.2.2.2.1,(q4 X).1,(q4 X).2.1,(q4 X).2.2.1,(q4 X).2.2.2.1,Q.1,(q8 X).2.1,Q.2,(q8 X).2.2.2)) (fun X=>rfl) (fun ρ X Q Z=>(jg (jb fun _=>(jb fun _=>(jb fun _=>(jb fun _=>jc)))) jc)) (fun ρ X t k=>(by kernel_rfl)) (fun X s=>by kernel_rfl))
theorem jl.p3:PcA jl.G Tryz.f82 3:=
  JR (s:=jl.cr_r) (by kernel_rfl) (by kernel_rfl) (jp (sh:=jl.cr_s) (fun ρ X Z=>(jg (jb fun _=>jc) jc)) (fun ρ X t k=>(by kernel_rfl)) (fun X=>by kernel_rfl))
theorem jl.p4:PcA jl.G Tryz.f82 4:=
  js (s:=jl.c12r) (by kernel_rfl) (by kernel_rfl) (jp (sh:=jl.cr_s) (fun ρ X Z=>(jb fun _=>(jb fun _=>(jb fun _=>(jb fun _=>(jb fun _=>(jb fun _=>(jb fun _=>jc)))))))) (fun ρ X t k=>(by kernel_rfl)) (fun X=>by kernel_rfl))
theorem jl.ok:CalleeOk Tryz.prog 82 jl.ce:=fn_ok (G:=jl.G) jX mixed Tryz.func82 ⟨(jn whole_Int_Sign.ok (jn whole_Int_Mul.ok (jn whole_Int_Neg.ok (jn whole_Int_Add.ok (jn jv.ok jK))))),jE,jq,jD⟩ (m:=5) (by kernel_rfl) ⟨⟨⟨⟨⟨trivial,jl.p0⟩,jl.p1⟩,jl.p2⟩,jl.p3⟩,jl.p4⟩ (by kernel_rfl) (fun _=>by kernel_rfl)
def Jp.c1 (a_1:YN)(t2:List YN)(Z:List YN→Option ρ):Option ρ:=
  bnd (Jl a_1) fun y=>
  bnd (jl a_1 y) fun y_1=>
  bnd (idx t2 (0:Int)) fun y_2=>
  Z (List.set t2 (0:Nat) y_1)
def Jp.c1s:Shape:=⟨[(0,sa23),(1,sa24),(2,sa54)],[(2,sa28)]⟩
def Jp.c1r:Ck:=Ck.of (T:=List YN) Jp.c1s (fun ρ X Z=>Jp.c1 X.2.1 X.2.2.1 Z) (fun ρ X V Z=>Z 0 (Shape.inj Jp.c1s (X.1,X.2.1,V,())))
def Jp (a:YN):Option YN:=
  bnd (Jp.c1 a [(List.replicate (8:Nat) (false,[]),(0:Int))] some) fun y=>
  bnd (idx y (0:Int)) fun y_1=>
  some y_1
def Jp.ce:Go.Ql.Callee:=⟨[(.st (.pair (.ar 8 (.st (.pair .bool (.sl (.int .u32))))) (.int .i64)))],[(.st (.pair (.ar 8 (.st (.pair .bool (.sl (.int .u32))))) (.int .i64)))],fun X=>Jp X⟩
def Jp.G:Env:=⟨7,tab,[(83,Jl.ce),(82,jl.ce)],[0,1,2],[2,8000001],[(1,[⟨[],[],[4,5],[]⟩,⟨[],[],[3],[]⟩,⟨[1],[],[3],[]⟩,⟨[0,2,1],[],[],[]⟩,⟨[3,0,2,1],[2],[],[]⟩])],[(1,Jp.c1r)],[],jI,[]⟩
theorem Jp.p0:PcA Jp.G Tryz.f67 0:=
  js (s:=Jp.c1r) (by kernel_rfl) (by kernel_rfl) (jp (sh:=Jp.c1s) (fun ρ X Z=>(jb fun _=>(jb fun _=>(jb fun _=>jc)))) (fun ρ X t k=>(by kernel_rfl)) (fun X=>by kernel_rfl))
theorem Jp.ok:CalleeOk Tryz.prog 67 Jp.ce:=fn_ok (G:=Jp.G) jX mixed Tryz.func67 ⟨(jn Jl.ok (jn jl.ok jK)),jE,jq,jD⟩ (m:=1) (by kernel_rfl) ⟨trivial,Jp.p0⟩ (by kernel_rfl) (fun _=>by kernel_rfl)
def jm.pre:Shape:=⟨[(0,sa40)],[(2000000,sa28)]⟩
def jm.post:Shape:=⟨[(0,sa23)],[(2000000,sa28)]⟩
def jm.c6 (sum:List YN)(a:List YN)(Z:List YN→Option ρ):Option ρ:=
  bnd (idx sum (0:Int)) fun y=>
  bnd (idx a (0:Int)) fun y_1=>
  bnd (Jp y_1) fun y_2=>
  bnd (jz y y_2) fun y_3=>
  bnd (idx sum (0:Int)) fun y_4=>
  Z (List.set sum (0:Nat) y_3)
def jm.c6s:Shape:=⟨[(0,sa40),(2,sa54),(3,sa55),(5,sa15),(6,sa40),(7,sa2),(8,sa2)],[(2,sa28),(3,sa28),(5,sa28),(2000000,sa28)]⟩
def jm.c6r:Ck:=Ck.of (T:=List YN) jm.c6s (fun ρ X Z=>jm.c6 (q4 X).2.2.2.1 (q8 X).1 Z) (fun ρ X V Z=>Z 0 (Shape.inj jm.c6s (X.1,X.2.1,X.2.2.1,X.2.2.2.1,(q4 X).1,(q4 X).2.1,(q4 X).2.2.1,V,(q8 X))))
def jm.ch_ (t6lo:Int)(t6n:Int)(t8:Int)(sum:List YN)(ua:List YN)(Z:List YN→Option ρ):Option ρ:=
  bnd (okIf (decide ((0:Ty.den (Ty.int IntKind.i64))≤t8)&&decide (t8<t6n))) fun y=>
  bnd (idx ua (t6lo+t8)) fun y_1=>
  bnd (Jd y_1) fun y_2=>
  br (!y_2)
   (bnd (jm.c6 sum [y_1] some) fun y_3=>
    Z y_3)
   (Z sum)
def jm.ch_s:Shape:=⟨[(0,sa40),(2,sa54),(3,sa55),(6,sa40),(7,sa2),(8,sa2)],[(2,sa28),(3,sa28),(2000000,sa28)]⟩
def jm.ch_r:Ck:=Ck.of (T:=List YN) jm.ch_s (fun ρ X Z=>jm.ch_ X.2.2.1 X.2.2.2.1 (q4 X).2.1 (q4 X).2.2.2.1 (q8 X).1 Z) (fun ρ X V Z=>Z 0 (Shape.inj jm.ch_s (X.1,X.2.1,X.2.2.1,X.2.2.2.1,(q4 X).1,(q4 X).2.1,(q4 X).2.2.1,V,(q8 X))))
def jm.ca_ (t6lo:Int)(t6n:Int)(t7:Int)(t8:Int)(sum:List YN)(ua:List YN)(Z:((Int)×(List YN))⊕((Int)×(List YN))→Option ρ):Option ρ:=
  br (decide (t8<t7))
   (bnd (jm.ch_ t6lo t6n t8 sum ua some) fun y=>
    Z (.inl ((i64.wrap (t8+1)),y)))
   (Z (.inr (t8,sum)))
def jm.ca_r:Ck:=Ck.ofLoop (S:=(Int)×(List YN)) (T:=(Int)×(List YN)) jm.ch_s (fun X=>((q4 X).2.1,(q4 X).2.2.2.1)) (fun ρ X Q Z=>jm.ca_ X.2.2.1 X.2.2.2.1 (q4 X).1 Q.1 Q.2 (q8 X).1 Z) (fun ρ X V Z=>Z 2 (Shape.inj jm.ch_s (X.1,X.2.1,X.2.2.1,X.2.2.2.1,(q4 X).1,V.1,(q4 X).2.2.1,V.2,(q8 X))))
def jm (vlo:Int) (vn:Int) (ua:List YN):Option (YN×(List YN)×Unit):=
  bnd (iter (fun s↦jm.ca_ vlo vn (↑(List.length (part vlo vn ua)):Int) s.1 s.2 ua some) ((0:Int),[(List.replicate (8:Nat) (false,[]),(0:Int))])) fun y=>
  bnd (idx y.2 (0:Int)) fun y_1=>
  some (y_1,ua,())
def jm.mc:MCallee:=⟨33,jm.pre,jm.post,fun X=>jm X.1 X.2.1 X.2.2.1⟩
def jm.G:Env:=⟨21,tab,[(66,Jd.ce),(67,Jp.ce),(59,jz.ce)],[0,2,3,5,6,7,8,9,14],[2,3,5,2000000],[(6,[⟨[],[],[16,17],[]⟩,⟨[],[],[15],[]⟩,⟨[1],[],[15],[]⟩,⟨[0,2,1],[],[],[]⟩,⟨[3,0,2,1],[3],[],[]⟩])],[(100003,jm.ca_r),(216392,jm.ch_r),(6,jm.c6r)],[],jI,[]⟩
theorem jm.p0:PcA jm.G Tryz.f33 0:=
  Jf (s:=jm.ca_r) (by kernel_rfl) (by kernel_rfl) (jW (sh:=jm.ch_s) (I:=fun X Q=>(X.1,X.2.1,X.2.2.1,X.2.2.2.1,(q4 X).1,Q.1,(q4 X).2.2.1,Q.2,(q8 X))) (fun X=>rfl) (fun ρ X Q Z=>(jg (jb fun _=>jc) jc)) (fun ρ X t k=>(by kernel_rfl)) (fun X s=>by kernel_rfl))
theorem jm.p1:PcA jm.G Tryz.f33 1:=
  JR (s:=jm.ch_r) (by kernel_rfl) (by kernel_rfl) (jp (sh:=jm.ch_s) (fun ρ X Z=>(jb fun _=>(jb fun _=>(jb fun _=>(jg (jb fun _=>jc) jc))))) (fun ρ X t k=>(by kernel_rfl)) (fun X=>by kernel_rfl))
theorem jm.p2:PcA jm.G Tryz.f33 2:=
  js (s:=jm.c6r) (by kernel_rfl) (by kernel_rfl) (jp (sh:=jm.c6s) (fun ρ X Z=>(jb fun _=>(jb fun _=>(jb fun _=>(jb fun _=>(jb fun _=>jc)))))) (fun ρ X t k=>(by kernel_rfl)) (fun X=>by kernel_rfl))
theorem jm.ok:MOk Tryz.prog 33 jm.mc:=YU (mc:=jm.mc) (G:=jm.G) jX mixed Tryz.func33 ⟨(jn Jd.ok (jn Jp.ok (jn jz.ok jK))),jE,jq,jD⟩ (m:=3) (by kernel_rfl) ⟨⟨⟨trivial,jm.p0⟩,jm.p1⟩,jm.p2⟩ (by kernel_rfl) (fun _=>by kernel_rfl)
def JC.c5 (a_1:YN)(i:Int)(out:List YN)(Z:List YN→Option ρ):Option ρ:=
  bnd (idx out (0:Int)) fun y=>
  bnd (idx a_1.1 i) fun y_1=>
  bnd (Yx y_1) fun y_2=>
  bnd (Je (y_2.1,a_1.2) (i64.wrap ((0:Int)-i))) fun y_3=>
  bnd (Jy y y_3) fun y_4=>
  bnd (idx out (0:Int)) fun y_5=>
  Z (List.set out (0:Nat) y_4)
def JC.c5s:Shape:=⟨[(0,sa73),(1,sa74),(2,sa54),(3,sa55),(4,sa2)],[(2,sa77),(3,sa77)]⟩
def JC.c5r:Ck:=Ck.of (T:=List YN) JC.c5s (fun ρ X Z=>JC.c5 X.2.1 X.2.2.1 (q4 X).1 Z) (fun ρ X V Z=>Z 0 (Shape.inj JC.c5s (X.1,X.2.1,X.2.2.1,X.2.2.2.1,V,())))
def JC.ca_ (a_1:YN)(i:Int)(out:List YN)(Z:((Int)×(List YN))⊕((Int)×(List YN))→Option ρ):Option ρ:=
  br (decide (i<8))
   (bnd (JC.c5 a_1 i out some) fun y=>
    Z (.inl ((i64.wrap (i+1)),y)))
   (Z (.inr (i,out)))
def JC.ca_r:Ck:=Ck.ofLoop (S:=(Int)×(List YN)) (T:=(Int)×(List YN)) JC.c5s (fun X=>(X.2.2.1,(q4 X).1)) (fun ρ X Q Z=>JC.ca_ X.2.1 Q.1 Q.2 Z) (fun ρ X V Z=>Z 2 (Shape.inj JC.c5s (X.1,X.2.1,V.1,X.2.2.2.1,V.2,())))
def JC (a:YN):Option YN:=
  bnd (iter (fun s↦JC.ca_ a s.1 s.2 some) ((0:Int),[(List.replicate (8:Nat) (false,[]),(0:Int))])) fun y=>
  bnd (Jv a) fun y_1=>
  br y_1
   (some (List.replicate (8:Nat) (false,[]),(0:Int)))
   (bnd (idx y.2 (0:Int)) fun y_2=>
    bnd (jQ y_2) fun y_3=>
    some y_3)
def JC.ce:Go.Ql.Callee:=⟨[(.st (.pair (.ar 8 (.st (.pair .bool (.sl (.int .i64))))) (.int .i64)))],[(.st (.pair (.ar 8 (.st (.pair .bool (.sl (.int .i64))))) (.int .i64)))],fun X=>JC X⟩
def JC.G:Env:=⟨29,tab,[(69,Yx.ce),(71,Je.ce),(43,Jy.ce),(42,Jv.ce),(77,jQ.ce)],[0,1,2,3,4,7,25],[2,3,5,26,8000001],[(5,[⟨[],[],[11,12,13,14,15,16,17,18,19,20,21,22],[]⟩,⟨[],[],[10,12,17,18,20,21],[]⟩,⟨[],[],[10,11,17,18,20,21],[]⟩,⟨[2,1],[],[10,17,18,20,21],[]⟩,⟨[3,2,1],[],[10,17,18,20,21],[]⟩,⟨[4,3,2,1],[],[10,17,18,20,21],[]⟩,⟨[5,4,3,2,1],[],[10,17,18,20,21],[]⟩,⟨[],[],[10,11,12,13,14,15,16,20,21],[]⟩,⟨[7],[],[10,11,12,13,14,15,16,20,21],[]⟩,⟨[6,5,4,3,2,1,8,7],[],[10,20,21],[]⟩,⟨[],[],[10,11,12,13,14,15,16,17,18,19],[]⟩,⟨[10],[],[10,11,12,13,14,15,16,17,18,19],[]⟩,⟨[9,6,5,4,3,2,1,8,7,11,10],[],[10],[]⟩,⟨[0,12,9,6,5,4,3,2,1,8,7,11,10],[],[],[]⟩,⟨[13,0,12,9,6,5,4,3,2,1,8,7,11,10],[3],[],[]⟩])],[(100003,JC.ca_r),(5,JC.c5r)],[],jI,[]⟩
theorem JC.p0:PcA JC.G Tryz.f57 0:=
  Jf (s:=JC.ca_r) (by kernel_rfl) (by kernel_rfl) (jW (sh:=JC.c5s) (I:=fun X Q=>(X.1,X.2.1,Q.1,X.2.2.2.1,Q.2,())) (fun X=>rfl) (fun ρ X Q Z=>(jg (jb fun _=>jc) jc)) (fun ρ X t k=>(by kernel_rfl)) (fun X s=>by kernel_rfl))
theorem JC.p1:PcA JC.G Tryz.f57 1:=
  js (s:=JC.c5r) (by kernel_rfl) (by kernel_rfl) (jp (sh:=JC.c5s) (fun ρ X Z=>(jb fun _=>(jb fun _=>(jb fun _=>(jb fun _=>(jb fun _=>(jb fun _=>jc))))))) (fun ρ X t k=>(by kernel_rfl)) (fun X=>by kernel_rfl))
theorem JC.ok:CalleeOk Tryz.prog 57 JC.ce:=fn_ok (G:=JC.G) jX mixed Tryz.func57 ⟨(jn Yx.ok (jn Je.ok (jn Jy.ok (jn Jv.ok (jn jQ.ok jK))))),jE,jq,jD⟩ (m:=2) (by kernel_rfl) ⟨⟨trivial,JC.p0⟩,JC.p1⟩ (by kernel_rfl) (fun _=>by kernel_rfl)
def kn.c1 (a0:Bool)(a1:List (Int))(b0:Bool)(b1:List (Int))(Z:Bool×(List Int)→Option ρ):Option ρ:=
  bnd (kT (b0,b1)) fun y=>
  bnd (Jq (a0,a1) y) fun y_1=>
  Z (y_1.1,y_1.2)
def kn.c1s:Shape:=⟨[(0,sa75),(1,sa75),(2,sa6),(3,sa7),(4,sa20)],[(2,sa72),(3,sa72),(4,sa72)]⟩
def kn.c1r:Ck:=Ck.of (T:=Bool×(List Int)) kn.c1s (fun ρ X Z=>kn.c1 X.2.2.1 X.2.2.2.1 (q4 X).1 (q4 X).2.1 Z) (fun ρ X V Z=>Z 0 (Shape.inj kn.c1s (X.1,X.2.1,X.2.2.1,X.2.2.2.1,(q4 X).1,(q4 X).2.1,V.1,V.2,())))
def kn (a:Bool×(List Int)) (b:Bool×(List Int)):Option (Bool×(List Int)):=
  bnd (kn.c1 a.1 a.2 b.1 b.2 some) fun y=>
  some (y.1,y.2)
def kn.ce:Go.Ql.Callee:=⟨[(.st (.pair .bool (.sl (.int .i64)))),(.st (.pair .bool (.sl (.int .i64))))],[(.st (.pair .bool (.sl (.int .i64))))],fun X=>kn X.1 X.2⟩
def kn.G:Env:=⟨9,tab,[(102,kT.ce),(76,Jq.ce)],[0,1,2,3,4],[],[(1,[⟨[],[],[6,7],[]⟩,⟨[],[],[5],[]⟩,⟨[1],[],[5],[]⟩,⟨[0,2,1],[],[],[]⟩,⟨[3,0,2,1],[4],[],[]⟩])],[(1,kn.c1r)],[],jI,[]⟩
theorem kn.p0:PcA kn.G Tryz.f85 0:=
  js (s:=kn.c1r) (by kernel_rfl) (by kernel_rfl) (jp (sh:=kn.c1s) (fun ρ X Z=>(jb fun _=>(jb fun _=>jc))) (fun ρ X t k=>(by kernel_rfl)) (fun X=>by kernel_rfl))
theorem kn.ok:CalleeOk Tryz.prog 85 kn.ce:=fn_ok (G:=kn.G) jX mixed Tryz.func85 ⟨(jn kT.ok (jn Jq.ok jK)),jE,jq,jD⟩ (m:=1) (by kernel_rfl) ⟨trivial,kn.p0⟩ (by kernel_rfl) (fun _=>by kernel_rfl)
def jy.c1 (a_1:YN)(b_1:YN)(Z:Bool→Option ρ):Option ρ:=
  bnd (Jv a_1) fun y=>
  br y
   (Z true)
   (bnd (Jv b_1) fun y_1=>
    Z y_1)
def jy.c1s:Shape:=⟨[(0,sa73),(1,sa73),(2,sa74),(3,sa74),(4,sa25)],[(4,sa77)]⟩
def jy.c1x0:Shape:=⟨[(0,sa73),(1,sa73),(2,sa74),(3,sa74),(4,sa25),(14,sa11)],[(4,sa77)]⟩
def jy.c1r:Ck:=Ck.of (T:=Bool) jy.c1s (fun ρ X Z=>jy.c1 X.2.2.1 X.2.2.2.1 Z) (fun ρ X V Z=>Z 0 (Shape.inj jy.c1x0 (X.1,X.2.1,X.2.2.1,X.2.2.2.1,V,(q4 X))))
def jy.c11 (a_1:YN)(b_1:YN)(i:Int)(j:Int)(Z:Bool→Option ρ):Option ρ:=
  bnd (idx a_1.1 i) fun y=>
  br (decide ((↑(List.length y.2):Int)>0))
   (bnd (idx b_1.1 j) fun y_1=>
    Z (decide ((↑(List.length y_1.2):Int)>0)))
   (Z false)
def jy.c11s:Shape:=⟨[(0,sa73),(1,sa73),(2,sa74),(3,sa74),(4,sa25),(5,sa15),(6,sa2),(7,sa2)],[(4,sa77),(5,sa77)]⟩
def jy.c11x0:Shape:=⟨[(0,sa73),(1,sa73),(2,sa74),(3,sa74),(4,sa25),(5,sa15),(6,sa2),(7,sa2),(46,sa11)],[(4,sa77),(5,sa77)]⟩
def jy.c11r:Ck:=Ck.of (T:=Bool) jy.c11s (fun ρ X Z=>jy.c11 X.2.2.1 X.2.2.2.1 (q4 X).1 (q4 X).2.1 Z) (fun ρ X V Z=>Z 0 (Shape.inj jy.c11x0 (X.1,X.2.1,X.2.2.1,X.2.2.2.1,(q4 X).1,(q4 X).2.1,V,(q4 X).2.2)))
def jy.c12 (a_1:YN)(b_1:YN)(i:Int)(j:Int)(Z:Bool×(List Int)→Option ρ):Option ρ:=
  bnd (idx a_1.1 i) fun y=>
  bnd (idx b_1.1 j) fun y_1=>
  bnd (jV y y_1) fun y_2=>
  Z (y_2.1,y_2.2)
def jy.c12x0:Shape:=⟨[(0,sa73),(1,sa73),(2,sa74),(3,sa74),(4,sa25),(5,sa15),(6,sa2),(7,sa2),(8,sa51)],[(4,sa77),(5,sa77),(8,sa72)]⟩
def jy.c12r:Ck:=Ck.of (T:=Bool×(List Int)) jy.c11s (fun ρ X Z=>jy.c12 X.2.2.1 X.2.2.2.1 (q4 X).1 (q4 X).2.1 Z) (fun ρ X V Z=>Z 0 (Shape.inj jy.c12x0 (X.1,X.2.1,X.2.2.1,X.2.2.2.1,(q4 X).1,(q4 X).2.1,(q4 X).2.2.1,(q4 X).2.2.2.1,V.1,V.2,())))
def jy.c14 (i:Int)(j:Int)(out:List YN)(c0:Bool)(c1:List (Int))(Z:List YN→Option ρ):Option ρ:=
  bnd (inR (out.length) (0:Int)) fun y=>
  bnd (okIf (decide ((0:Ty.den (Ty.int IntKind.i64))≤i64.wrap (i+j))&&decide (i64.wrap (i+j)<(↑(8:Nat):Int)))) fun y_1=>
  bnd (idx out (0:Int)) fun y_2=>
  bnd (idx y_2.1 (i64.wrap (i+j))) fun y_3=>
  bnd (Jq y_3 (c0,c1)) fun y_4=>
  bnd (inR (out.length) (0:Int)) fun y_5=>
  bnd (okIf (decide ((0:Ty.den (Ty.int IntKind.i64))≤i64.wrap (i+j))&&decide (i64.wrap (i+j)<(↑(8:Nat):Int)))) fun y6=>
  bnd (idx out (0:Int)) fun y7=>
  bnd (idx y7.1 (i64.wrap (i+j))) fun y8=>
  Z (List.set out (0:Nat) (List.set y7.1 (Int.toNat (i64.wrap (i+j))) y_4,y7.2))
def jy.c14r:Ck:=Ck.of (T:=List YN) jy.c12x0 (fun ρ X Z=>jy.c14 (q4 X).1 (q4 X).2.1 (q4 X).2.2.2.1 (q8 X).1 (q8 X).2.1 Z) (fun ρ X V Z=>Z 0 (Shape.inj jy.c12x0 (X.1,X.2.1,X.2.2.1,X.2.2.2.1,(q4 X).1,(q4 X).2.1,(q4 X).2.2.1,V,(q8 X))))
def jy.c15 (i:Int)(j:Int)(out:List YN)(c0:Bool)(c1:List (Int))(Z:List YN→Option ρ):Option ρ:=
  bnd (inR (out.length) (0:Int)) fun y=>
  bnd (okIf (decide ((0:Ty.den (Ty.int IntKind.i64))≤i64.wrap (i64.wrap (i+j)-8))&&decide (i64.wrap (i64.wrap (i+j)-8)<(↑(8:Nat):Int)))) fun y_1=>
  bnd (idx out (0:Int)) fun y_2=>
  bnd (idx y_2.1 (i64.wrap (i64.wrap (i+j)-8))) fun y_3=>
  bnd (kn y_3 (c0,c1)) fun y_4=>
  bnd (inR (out.length) (0:Int)) fun y_5=>
  bnd (okIf (decide ((0:Ty.den (Ty.int IntKind.i64))≤i64.wrap (i64.wrap (i+j)-8))&&decide (i64.wrap (i64.wrap (i+j)-8)<(↑(8:Nat):Int)))) fun y6=>
  bnd (idx out (0:Int)) fun y7=>
  bnd (idx y7.1 (i64.wrap (i64.wrap (i+j)-8))) fun y8=>
  Z (List.set out (0:Nat) (List.set y7.1 (Int.toNat (i64.wrap (i64.wrap (i+j)-8))) y_4,y7.2))
def jy.c15r:Ck:=Ck.of (T:=List YN) jy.c12x0 (fun ρ X Z=>jy.c15 (q4 X).1 (q4 X).2.1 (q4 X).2.2.2.1 (q8 X).1 (q8 X).2.1 Z) (fun ρ X V Z=>Z 0 (Shape.inj jy.c12x0 (X.1,X.2.1,X.2.2.1,X.2.2.2.1,(q4 X).1,(q4 X).2.1,(q4 X).2.2.1,V,(q8 X))))
def jy.cL_ (a_1:YN)(b_1:YN)(i:Int)(j:Int)(out:List YN)(Z:List YN→Option ρ):Option ρ:=
  bnd (jy.c11 a_1 b_1 i j some) fun y=>
  br y
   (bnd (jy.c12 a_1 b_1 i j some) fun y_1=>
    br (decide (i64.wrap (i+j)<8))
     (bnd (jy.c14 i j out y_1.1 y_1.2 some) fun y_2=>
      Z y_2)
     (bnd (jy.c15 i j out y_1.1 y_1.2 some) fun y_3=>
      Z y_3))
   (Z out)
def jy.cL_r:Ck:=Ck.of (T:=List YN) jy.c11s (fun ρ X Z=>jy.cL_ X.2.2.1 X.2.2.2.1 (q4 X).1 (q4 X).2.1 (q4 X).2.2.2.1 Z) (fun ρ X V Z=>Z 0 (Shape.inj jy.c11s (X.1,X.2.1,X.2.2.1,X.2.2.2.1,(q4 X).1,(q4 X).2.1,(q4 X).2.2.1,V,())))
def jy.co_ (a_1:YN)(b_1:YN)(i:Int)(j:Int)(out:List YN)(Z:((Int)×(List YN))⊕((Int)×(List YN))→Option ρ):Option ρ:=
  br (decide (j<8))
   (bnd (jy.cL_ a_1 b_1 i j out some) fun y=>
    Z (.inl ((i64.wrap (j+1)),y)))
   (Z (.inr (j,out)))
def jy.co_r:Ck:=Ck.ofLoop (S:=(Int)×(List YN)) (T:=(Int)×(List YN)) jy.c11s (fun X=>((q4 X).2.1,(q4 X).2.2.2.1)) (fun ρ X Q Z=>jy.co_ X.2.2.1 X.2.2.2.1 (q4 X).1 Q.1 Q.2 Z) (fun ρ X V Z=>Z 4 (Shape.inj jy.c11s (X.1,X.2.1,X.2.2.1,X.2.2.2.1,(q4 X).1,V.1,(q4 X).2.2.1,V.2,())))
def jy.ci_ (a_1:YN)(b_1:YN)(i:Int)(out:List YN)(Z:((Int)×(List YN))⊕((Int)×(List YN))→Option ρ):Option ρ:=
  br (decide (i<8))
   (bnd (iter (fun s↦jy.co_ a_1 b_1 i s.1 s.2 some) ((0:Int),out)) fun y=>
    Z (.inl ((i64.wrap (i+1)),y.2)))
   (Z (.inr (i,out)))
def jy.ci_s:Shape:=⟨[(0,sa73),(1,sa73),(2,sa74),(3,sa74),(4,sa25),(5,sa15),(6,sa2)],[(4,sa77),(5,sa77)]⟩
def jy.ci_r:Ck:=Ck.ofLoop (S:=(Int)×(List YN)) (T:=(Int)×(List YN)) jy.ci_s (fun X=>((q4 X).1,(q4 X).2.2.1)) (fun ρ X Q Z=>jy.ci_ X.2.2.1 X.2.2.2.1 Q.1 Q.2 Z) (fun ρ X V Z=>Z 2 (Shape.inj jy.ci_s (X.1,X.2.1,X.2.2.1,X.2.2.2.1,V.1,(q4 X).2.1,V.2,())))
def jy (a:YN) (b:YN):Option YN:=
  bnd (jy.c1 a b some) fun y=>
  br y
   (some (List.replicate (8:Nat) (false,[]),(0:Int)))
   (bnd (iter (fun s↦jy.ci_ a b s.1 s.2 some) ((0:Int),[(List.replicate (8:Nat) (false,[]),i64.wrap (a.2+b.2))])) fun y_1=>
    bnd (idx y_1.2 (0:Int)) fun y_2=>
    bnd (jQ y_2) fun y_3=>
    some y_3)
def jy.ce:Go.Ql.Callee:=⟨[(.st (.pair (.ar 8 (.st (.pair .bool (.sl (.int .i64))))) (.int .i64))),(.st (.pair (.ar 8 (.st (.pair .bool (.sl (.int .i64))))) (.int .i64)))],[(.st (.pair (.ar 8 (.st (.pair .bool (.sl (.int .i64))))) (.int .i64)))],fun X=>jy X.1 X.2⟩
def jy.G:Env:=⟨90,tab,[(42,Jv.ce),(84,jV.ce),(76,Jq.ce),(85,kn.ce),(77,jQ.ce)],[0,1,2,3,4,5,6,7,8,14,24,28,46,59],[4,5,15,16,8000002,8000003],[(15,[⟨[],[],[74,77,78,79,80,81,82,83,84,85,86],[]⟩,⟨[],[],[73,77,78,79,80,81,82,83,84,85,86],[]⟩,⟨[0,1],[],[77,78,79,80,81,82,83,84,85,86],[]⟩,⟨[2,0,1],[],[77,78,79,80,81,82,83,84,85,86],[]⟩,⟨[],[],[73,74,75,76,78,81,84,86],[]⟩,⟨[],[],[73,74,75,76,77,81,84,86],[]⟩,⟨[4,5],[],[73,74,75,76,81,84,86],[]⟩,⟨[6,4,5],[],[73,74,75,76,81,84,86],[]⟩,⟨[],[],[73,74,75,76,77,78,79,80,84,86],[]⟩,⟨[8,7,6,4,5],[],[73,74,75,76,84,86],[]⟩,⟨[9,8,7,6,4,5],[],[73,74,75,76,84,86],[]⟩,⟨[],[],[73,74,75,76,77,78,79,80,81,82,83,86],[]⟩,⟨[10,9,8,7,6,4,5,11],[],[73,74,75,76,86],[]⟩,⟨[],[],[73,74,75,76,77,78,79,80,81,82,83,84,85],[]⟩,⟨[13,3,2,0,1,4,5,6,7,8,9,10,11,12],[],[],[]⟩,⟨[14,13,3,2,0,1,4,5,6,7,8,9,10,11,12],[5],[],[]⟩]),
  (14,[⟨[],[],[61,63,64,65,66,67,68,69,70,71],[]⟩,⟨[],[],[60,63,64,65,66,67,68,69,70,71],[]⟩,⟨[0,1],[],[63,64,65,66,67,68,69,70,71],[]⟩,⟨[],[],[60,61,62,64,66,69,71],[]⟩,⟨[],[],[60,61,62,63,66,69,71],[]⟩,⟨[3,4],[],[60,61,62,66,69,71],[]⟩,⟨[],[],[60,61,62,63,64,65,69,71],[]⟩,⟨[6,5,3,4],[],[60,61,62,69,71],[]⟩,⟨[7,6,5,3,4],[],[60,61,62,69,71],[]⟩,⟨[],[],[60,61,62,63,64,65,66,67,68,71],[]⟩,⟨[8,7,6,5,3,4,9],[],[60,61,62,71],[]⟩,⟨[],[],[60,61,62,63,64,65,66,67,68,69,70],[]⟩,⟨[11,2,0,1,3,4,5,6,7,8,9,10],[],[],[]⟩,⟨[12,11,2,0,1,3,4,5,6,7,8,9,10],[5],[],[]⟩]),
  (12,[⟨[],[],[48,51,52,53,54,8],[8]⟩,⟨[],[],[47,51,52,53,54,8],[8]⟩,⟨[1,0],[],[51,52,53,54,8],[8]⟩,⟨[2,1,0],[],[51,52,53,54,8],[8]⟩,⟨[],[],[47,48,49,50,52,8],[8]⟩,⟨[],[],[47,48,49,50,51,8],[8]⟩,⟨[5,4],[],[47,48,49,50,8],[8]⟩,⟨[6,5,4],[],[47,48,49,50,8],[8]⟩,⟨[3,2,1,0,7,6,5,4],[],[8],[8]⟩,⟨[],[8],[47,48,49,50,51,52,53,54,55],[]⟩,⟨[9,8,3,2,1,0,7,6,5,4],[8],[],[]⟩])],[(100006,jy.ci_r),(100009,jy.co_r),(245068,jy.cL_r),(15,jy.c15r),(14,jy.c14r),(12,jy.c12r),(11,jy.c11r),(1,jy.c1r)],[],jI,[]⟩
theorem jy.p0:PcA jy.G Tryz.f56 0:=
  js (s:=jy.c1r) (by kernel_rfl) (by kernel_rfl) (jp (sh:=jy.c1s) (fun ρ X Z=>(jb fun _=>(jg jc (jb fun _=>jc)))) (fun ρ X t k=>(by kernel_rfl)) (fun X=>by kernel_rfl))
theorem jy.p1:PcA jy.G Tryz.f56 1:=
  Jf (s:=jy.ci_r) (by kernel_rfl) (by kernel_rfl) (jW (sh:=jy.ci_s) (I:=fun X Q=>(X.1,X.2.1,X.2.2.1,X.2.2.2.1,Q.1,(q4 X).2.1,Q.2,())) (fun X=>rfl) (fun ρ X Q Z=>(jg (jb fun _=>jc) jc)) (fun ρ X t k=>(by kernel_rfl)) (fun X s=>by kernel_rfl))
theorem jy.p2:PcA jy.G Tryz.f56 2:=
  Jf (s:=jy.co_r) (by kernel_rfl) (by kernel_rfl) (jW (sh:=jy.c11s) (I:=fun X Q=>(X.1,X.2.1,X.2.2.1,X.2.2.2.1,(q4 X).1,Q.1,(q4 X).2.2.1,Q.2,())) (fun X=>rfl) (fun ρ X Q Z=>(jg (jb fun _=>jc) jc)) (fun ρ X t k=>(by kernel_rfl)) (fun X s=>by kernel_rfl))
theorem jy.p3:PcA jy.G Tryz.f56 3:=
  JR (s:=jy.cL_r) (by kernel_rfl) (by kernel_rfl) (jp (sh:=jy.c11s) (fun ρ X Z=>(jb fun _=>(jg (jb fun _=>(jg (jb fun _=>jc) (jb fun _=>jc))) jc))) (fun ρ X t k=>(by kernel_rfl)) (fun X=>by kernel_rfl))
theorem jy.p4:PcA jy.G Tryz.f56 4:=
  js (s:=jy.c11r) (by kernel_rfl) (by kernel_rfl) (jp (sh:=jy.c11s) (fun ρ X Z=>(jb fun _=>(jg (jb fun _=>jc) jc))) (fun ρ X t k=>(by kernel_rfl)) (fun X=>by kernel_rfl))
theorem jy.p5:PcA jy.G Tryz.f56 5:=
  js (s:=jy.c12r) (by kernel_rfl) (by kernel_rfl) (jp (sh:=jy.c11s) (fun ρ X Z=>(jb fun _=>(jb fun _=>(jb fun _=>jc)))) (fun ρ X t k=>(by kernel_rfl)) (fun X=>by kernel_rfl))
theorem jy.p6:PcA jy.G Tryz.f56 6:=
  js (s:=jy.c14r) (by kernel_rfl) (by kernel_rfl) (jp (sh:=jy.c12x0) (fun ρ X Z=>(jb fun _=>(jb fun _=>(jb fun _=>(jb fun _=>(jb fun _=>(jb fun _=>(jb fun _=>(jb fun _=>(jb fun _=>jc)))))))))) (fun ρ X t k=>(by kernel_rfl)) (fun X=>by kernel_rfl))
theorem jy.p7:PcA jy.G Tryz.f56 7:=
  js (s:=jy.c15r) (by kernel_rfl) (by kernel_rfl) (jp (sh:=jy.c12x0) (fun ρ X Z=>(jb fun _=>(jb fun _=>(jb fun _=>(jb fun _=>(jb fun _=>(jb fun _=>(jb fun _=>(jb fun _=>(jb fun _=>jc)))))))))) (fun ρ X t k=>(by kernel_rfl)) (fun X=>by kernel_rfl))
theorem jy.ok:CalleeOk Tryz.prog 56 jy.ce:=fn_ok (G:=jy.G) jX mixed Tryz.func56 ⟨(jn Jv.ok (jn jV.ok (jn Jq.ok (jn kn.ok (jn jQ.ok jK))))),jE,jq,jD⟩ (m:=8) (by kernel_rfl) ⟨⟨⟨⟨⟨⟨⟨⟨trivial,jy.p0⟩,jy.p1⟩,jy.p2⟩,jy.p3⟩,jy.p4⟩,jy.p5⟩,jy.p6⟩,jy.p7⟩ (by kernel_rfl) (fun _=>by kernel_rfl)
def kb.c1 (a_1:YN)(t2:List YN)(Z:List YN→Option ρ):Option ρ:=
  bnd (JC a_1) fun y=>
  bnd (jy a_1 y) fun y_1=>
  bnd (idx t2 (0:Int)) fun y_2=>
  Z (List.set t2 (0:Nat) y_1)
def kb.c1s:Shape:=⟨[(0,sa73),(1,sa74),(2,sa54)],[(2,sa77)]⟩
def kb.c1r:Ck:=Ck.of (T:=List YN) kb.c1s (fun ρ X Z=>kb.c1 X.2.1 X.2.2.1 Z) (fun ρ X V Z=>Z 0 (Shape.inj kb.c1s (X.1,X.2.1,V,())))
def kb (a:YN):Option YN:=
  bnd (kb.c1 a [(List.replicate (8:Nat) (false,[]),(0:Int))] some) fun y=>
  bnd (idx y (0:Int)) fun y_1=>
  some y_1
def kb.ce:Go.Ql.Callee:=⟨[(.st (.pair (.ar 8 (.st (.pair .bool (.sl (.int .i64))))) (.int .i64)))],[(.st (.pair (.ar 8 (.st (.pair .bool (.sl (.int .i64))))) (.int .i64)))],fun X=>kb X⟩
def kb.G:Env:=⟨7,tab,[(57,JC.ce),(56,jy.ce)],[0,1,2],[2,8000001],[(1,[⟨[],[],[4,5],[]⟩,⟨[],[],[3],[]⟩,⟨[1],[],[3],[]⟩,⟨[0,2,1],[],[],[]⟩,⟨[3,0,2,1],[2],[],[]⟩])],[(1,kb.c1r)],[],jI,[]⟩
theorem kb.p0:PcA kb.G Tryz.f44 0:=
  js (s:=kb.c1r) (by kernel_rfl) (by kernel_rfl) (jp (sh:=kb.c1s) (fun ρ X Z=>(jb fun _=>(jb fun _=>(jb fun _=>jc)))) (fun ρ X t k=>(by kernel_rfl)) (fun X=>by kernel_rfl))
theorem kb.ok:CalleeOk Tryz.prog 44 kb.ce:=fn_ok (G:=kb.G) jX mixed Tryz.func44 ⟨(jn JC.ok (jn jy.ok jK)),jE,jq,jD⟩ (m:=1) (by kernel_rfl) ⟨trivial,kb.p0⟩ (by kernel_rfl) (fun _=>by kernel_rfl)
def Js.c6 (v:List YN)(x:Int)(sum:List YN)(Z:List YN→Option ρ):Option ρ:=
  bnd (idx sum (0:Int)) fun y=>
  bnd (idx v x) fun y_1=>
  bnd (kb y_1) fun y_2=>
  bnd (Jy y y_2) fun y_3=>
  bnd (idx sum (0:Int)) fun y_4=>
  Z (List.set sum (0:Nat) y_3)
def Js.c6s:Shape:=⟨[(0,sa81),(2,sa54),(3,sa55),(4,sa2)],[(2,sa77),(3,sa77)]⟩
def Js.c6r:Ck:=Ck.of (T:=List YN) Js.c6s (fun ρ X Z=>Js.c6 X.1 X.2.1 X.2.2.2.1 Z) (fun ρ X V Z=>Z 0 (Shape.inj Js.c6s (X.1,X.2.1,X.2.2.1,V,())))
def Js.ck_ (v:List YN)(x:Int)(sum:List YN)(Z:List YN→Option ρ):Option ρ:=
  bnd (idx v x) fun y=>
  bnd (Jv y) fun y_1=>
  br (!y_1)
   (bnd (Js.c6 v x sum some) fun y_2=>
    Z y_2)
   (Z sum)
def Js.ck_r:Ck:=Ck.of (T:=List YN) Js.c6s (fun ρ X Z=>Js.ck_ X.1 X.2.1 X.2.2.2.1 Z) (fun ρ X V Z=>Z 0 (Shape.inj Js.c6s (X.1,X.2.1,X.2.2.1,V,())))
def Js.ca_ (v:List YN)(x:Int)(sum:List YN)(Z:((Int)×(List YN))⊕((Int)×(List YN))→Option ρ):Option ρ:=
  br (decide (x<(v.length:Int)))
   (bnd (Js.ck_ v x sum some) fun y=>
    Z (.inl ((i64.wrap (x+1)),y)))
   (Z (.inr (x,sum)))
def Js.ca_r:Ck:=Ck.ofLoop (S:=(Int)×(List YN)) (T:=(Int)×(List YN)) Js.c6s (fun X=>(X.2.1,X.2.2.2.1)) (fun ρ X Q Z=>Js.ca_ X.1 Q.1 Q.2 Z) (fun ρ X V Z=>Z 2 (Shape.inj Js.c6s (X.1,V.1,X.2.2.1,V.2,())))
def Js (v:List YN):Option YN:=
  bnd (iter (fun s↦Js.ca_ v s.1 s.2 some) ((0:Int),[(List.replicate (8:Nat) (false,[]),(0:Int))])) fun y=>
  bnd (idx y.2 (0:Int)) fun y_1=>
  some y_1
def Js.ce:Go.Ql.Callee:=⟨[(.sl (.st (.pair (.ar 8 (.st (.pair .bool (.sl (.int .i64))))) (.int .i64))))],[(.st (.pair (.ar 8 (.st (.pair .bool (.sl (.int .i64))))) (.int .i64)))],fun X=>Js X⟩
def Js.G:Env:=⟨26,tab,[(42,Jv.ce),(44,kb.ce),(43,Jy.ce)],[0,2,3,4,9,17],[2,3,5],[(6,[⟨[],[],[19,20,21,22,23],[]⟩,⟨[],[],[18,20],[]⟩,⟨[],[],[18,19],[]⟩,⟨[1,2],[],[18],[]⟩,⟨[3,1,2],[],[18],[]⟩,⟨[4,3,1,2],[],[18],[]⟩,⟨[0,5,4,3,1,2],[],[],[]⟩,⟨[6,0,5,4,3,1,2],[3],[],[]⟩])],[(100003,Js.ca_r),(220486,Js.ck_r),(6,Js.c6r)],[],jI,[]⟩
theorem Js.p0:PcA Js.G Tryz.f17 0:=
  Jf (s:=Js.ca_r) (by kernel_rfl) (by kernel_rfl) (jW (sh:=Js.c6s) (I:=fun X Q=>(X.1,Q.1,X.2.2.1,Q.2,())) (fun X=>rfl) (fun ρ X Q Z=>(jg (jb fun _=>jc) jc)) (fun ρ X t k=>(by kernel_rfl)) (fun X s=>by kernel_rfl))
theorem Js.p1:PcA Js.G Tryz.f17 1:=
  JR (s:=Js.ck_r) (by kernel_rfl) (by kernel_rfl) (jp (sh:=Js.c6s) (fun ρ X Z=>(jb fun _=>(jb fun _=>(jg (jb fun _=>jc) jc)))) (fun ρ X t k=>(by kernel_rfl)) (fun X=>by kernel_rfl))
theorem Js.p2:PcA Js.G Tryz.f17 2:=
  js (s:=Js.c6r) (by kernel_rfl) (by kernel_rfl) (jp (sh:=Js.c6s) (fun ρ X Z=>(jb fun _=>(jb fun _=>(jb fun _=>(jb fun _=>(jb fun _=>jc)))))) (fun ρ X t k=>(by kernel_rfl)) (fun X=>by kernel_rfl))
theorem Js.ok:CalleeOk Tryz.prog 17 Js.ce:=fn_ok (G:=Js.G) jX mixed Tryz.func17 ⟨(jn Jv.ok (jn kb.ok (jn Jy.ok jK))),jE,jq,jD⟩ (m:=3) (by kernel_rfl) ⟨⟨⟨trivial,Js.p0⟩,Js.p1⟩,Js.p2⟩ (by kernel_rfl) (fun _=>by kernel_rfl)
end
end W
end

section
set_option maxHeartbeats 4000000
set_option maxRecDepth 100000
namespace W
open Go Go.Ql Go.Proofs Go.IntKind
noncomputable section
variable {ρ:Type}
abbrev sd0:SD:=.one (.val (.st (.pair (.int .i64) (.pair (.int .i64) (.sl (.st (.pair (.int .i64) (.pair (.int .i64) (.pair (.sl (.int .i64)) (.pair (.int .i64) (.pair (.int .i64) (.sl (.int .i64)))))))))))))
abbrev sd1:SD:=.one (.val (.int .i64))
abbrev sd2:SD:=.one (.val (.sl (.int .i64)))
abbrev sd3:SD:=.one (.ref 0 0)
abbrev sd4:SD:=.one (.val (.st (.pair (.int .i64) (.int .i64))))
abbrev sd5:SO:=.box [.val (.int .i64),.val (.int .i64),.val (.sl (.st (.pair (.int .i64) (.pair (.int .i64) (.pair (.sl (.int .i64)) (.pair (.int .i64) (.pair (.int .i64) (.sl (.int .i64))))))))),.own 1 0,.own 2 0,.val (.int .i64),.val (.int .i64)]
abbrev sd6:SO:=.arr 0 false 71 (.st (.pair (.ar 8 (.st (.pair .bool (.sl (.int .u32))))) (.int .i64)))
abbrev sd7:SO:=.arr 0 false 3 (.int .i64)
abbrev sd8:SD:=.one (.val (.nilv 0))
abbrev sd9:SD:=.one (.ref 3 0)
abbrev sd10:SD:=.one (.ref 7 0)
abbrev sd11:SD:=.one (.ref 14 0)
abbrev sd12:SD:=.one (.ref 9 0)
abbrev sd13:SO:=.box [.val (.int .i64),.val (.int .i64),.val (.sl (.st (.pair (.int .i64) (.pair (.int .i64) (.pair (.sl (.int .i64)) (.pair (.int .i64) (.pair (.int .i64) (.sl (.int .i64)))))))))]
abbrev sd14:SO:=.box [.val (.int .i64),.val (.int .i64)]
abbrev sd15:SO:=.box [.val (.int .i64),.val (.int .i64),.val (.sl (.st (.pair (.int .i64) (.pair (.int .i64) (.pair (.sl (.int .i64)) (.pair (.int .i64) (.pair (.int .i64) (.sl (.int .i64))))))))),.own 1014 0,.own 2014 0,.val (.int .i64),.val (.int .i64)]
abbrev sd16:SD:=.one (.val .bool)
def jk.pre:Shape:=⟨[(0,sd0),(1,sd1),(2,sd2)],[]⟩
def jk.post:Shape:=⟨[(0,sd3),(1,sd4)],[(0,sd5),(1,sd6),(2,sd7)]⟩
def jk.post2:Shape:=⟨[(0,sd8),(1,sd4)],[]⟩
def jk.c3  (Z:Unit→Option ρ):Option ρ:=
  Z ()
def jk.c3s:Shape:=⟨[(0,sd0),(1,sd1),(2,sd2),(3,sd9),(6,sd8),(7,sd10),(8,sd11),(9,sd12)],[(3,sd13),(7,sd14),(9,sd14),(14,sd15),(1014,sd6),(2014,sd7)]⟩
def jk.c3r:Ck:=Ck.of (T:=Unit) jk.c3s (fun ρ X Z=>jk.c3  Z) (fun ρ X V Z=>Z 0 (Shape.inj jk.c3s (X.1,X.2.1,X.2.2.1,(),(q4 X).1,(q4 X).2.1,(q4 X).2.2.1,(q8 X).2.1,(q8 X).2.2.1,(q8 X).2)))
def jk.c8 (b:Int)(Z:Bool→Option ρ):Option ρ:=
  br (b !=0)
   (Z (b !=1))
   (Z false)
def jk.c8s:Shape:=⟨[(0,sd0),(1,sd1),(2,sd2),(3,sd9),(6,sd8),(7,sd10),(8,sd11),(9,sd12),(10,sd1)],[(3,sd13),(7,sd14),(9,sd14),(14,sd15),(1014,sd6),(2014,sd7)]⟩
def jk.c8x0:Shape:=⟨[(0,sd0),(1,sd1),(2,sd2),(3,sd9),(6,sd8),(7,sd10),(8,sd11),(9,sd12),(10,sd1),(47,sd16)],[(3,sd13),(7,sd14),(9,sd14),(14,sd15),(1014,sd6),(2014,sd7)]⟩
def jk.c8r:Ck:=Ck.of (T:=Bool) jk.c8s (fun ρ X Z=>jk.c8 (q4 X).1 Z) (fun ρ X V Z=>Z 0 (Shape.inj jk.c8x0 (X.1,X.2.1,X.2.2.1,X.2.2.2.1,(q4 X).1,V,(q4 X).2)))
def jk.cb_ (tape:List (Int))(t140:Int)(t141:Int)(t142:List YO)(t145:Int)(t146:Int)(ua:List YN)(ub:List (Int))(Z:((Int)×(Int)×(List YO)×(Int)×(Int)×(List YN)×(List Int))⊕(((Int)×(Int)×(Int)×(Int)×(List YO)×(Int)×(Int)×(List YN)×(List Int))⊕((Int)×(Int)×(List YO)×(Int)×(Int)×(List YN)×(List Int)))→Option ρ):Option ρ:=
  bnd (je t140 t141 t142 t145 t146 ua ub) fun y=>
  br y.1
   (br (y.2.2.2.2.1==(tape.length:Int))
     (bnd (JZ (19:Int) y.2.2.2.2.2.1) fun y1=>
      Z (.inr (.inl (y1.1,y1.2,y.2.1,y.2.2.1,y.2.2.2.1,y.2.2.2.2.1,y.2.2.2.2.2.1,y.2.2.2.2.2.2.1,y.2.2.2.2.2.2.2.1))))
     (bnd (idx tape y.2.2.2.2.1) fun y2=>
      bnd (jk.c8 y2 some) fun y3=>
      br y3
       (bnd (JZ (20:Int) y.2.2.2.2.2.1) fun y4=>
        Z (.inr (.inl (y4.1,y4.2,y.2.1,y.2.2.1,y.2.2.2.1,y.2.2.2.2.1,y.2.2.2.2.2.1,y.2.2.2.2.2.2.1,y.2.2.2.2.2.2.2.1))))
       (bnd (jh y2 y.2.1 y.2.2.1 y.2.2.2.1 y.2.2.2.2.1 y.2.2.2.2.2.1 y.2.2.2.2.2.2.1 y.2.2.2.2.2.2.2.1) fun y5=>
        Z (.inl (y5.1,y5.2.1,y5.2.2.1,y5.2.2.2.1,y5.2.2.2.2.1,y5.2.2.2.2.2.1,y5.2.2.2.2.2.2.1)))))
   (Z (.inr (.inr (y.2.1,y.2.2.1,y.2.2.2.1,y.2.2.2.2.1,y.2.2.2.2.2.1,y.2.2.2.2.2.2.1,y.2.2.2.2.2.2.2.1))))
def jk.cb_r:Ck:=Ck.ofLoop (S:=(Int)×(Int)×(List YO)×(Int)×(Int)×(List YN)×(List Int)) (T:=((Int)×(Int)×(Int)×(Int)×(List YO)×(Int)×(Int)×(List YN)×(List Int))⊕((Int)×(Int)×(List YO)×(Int)×(Int)×(List YN)×(List Int))) jk.c3s (fun X=>((q8 X).2.2.2.1,(q4 (q8 X)).1,(q4 (q8 X)).2.1,(q4 (q8 X)).2.2.1,(q4 (q8 X)).2.2.2.1,(q8 (q8 X)).1,(q8 (q8 X)).2.1)) (fun ρ X Q Z=>jk.cb_ X.2.2.1 Q.1 Q.2.1 Q.2.2.1 Q.2.2.2.1 Q.2.2.2.2.1 Q.2.2.2.2.2.1 Q.2.2.2.2.2.2 Z) (fun ρ X V Z=>sel V (fun V=>Z 1 (Shape.inj jk.c3s (X.1,X.2.1,X.2.2.1,(),(q4 X).1,(q4 X).2.1,(q4 X).2.2.1,V.1,V.2.1,(q8 X).2.1,(q8 X).2.2.1,V.2.2.1,V.2.2.2.1,V.2.2.2.2.1,V.2.2.2.2.2.1,V.2.2.2.2.2.2.1,V.2.2.2.2.2.2.2.1,V.2.2.2.2.2.2.2.2,()))) (fun V=>Z 2 (Shape.inj jk.c3s (X.1,X.2.1,X.2.2.1,X.2.2.2.1,(q4 X).1,(q4 X).2.1,(q4 X).2.2.1,(q4 X).2.2.2.1,(q8 X).1,(q8 X).2.1,(q8 X).2.2.1,V.1,V.2.1,V.2.2.1,V.2.2.2.1,V.2.2.2.2.1,V.2.2.2.2.2.1,V.2.2.2.2.2.2,()))))
def jk.c3v1  (Z:Unit→Option ρ):Option ρ:=
  Z ()
def jk.c3v1s:Shape:=⟨[(0,sd0),(1,sd1),(2,sd2),(3,sd9),(6,sd8),(7,sd10),(8,sd8),(9,sd12)],[(3,sd13),(7,sd14),(9,sd14)]⟩
def jk.c3v1r:Ck:=Ck.of (T:=Unit) jk.c3v1s (fun ρ X Z=>jk.c3v1  Z) (fun ρ X V Z=>Z 0 (Shape.inj jk.c3v1s (X.1,X.2.1,X.2.2.1,(),(q4 X).1,(q4 X).2.1,(q4 X).2.2.1,(q4 X).2.2.2.1,(q8 X).2.2.1,(q8 X).2.2.2.1,(q8 X).2.2)))
def jk.c3v1o:Ck:=Ck.or jk.c3v1s jk.c3v1r jk.c3r
def jk.c100004v1  (Z:(Unit)⊕(Unit)→Option ρ):Option ρ:=
  none
def jk.c100004v1r:Ck:=Ck.ofLoop (S:=Unit) (T:=Unit) jk.c3v1s (fun X=>()) (fun ρ X Q Z=>jk.c100004v1  Z) (fun ρ X V Z=>none)
def jk.c100004v1o:Ck:=Ck.or jk.c3v1s jk.c100004v1r jk.cb_r
def jk (c:(Int)×((Int)×(List YO))) (t1:Int) (tape:List (Int)):Option ((((Int)×(Int))×(Int)×(Int)×(List YO)×(Int)×(Int)×(List YN)×(List Int)×Unit)⊕((Unit)×((Int)×(Int))×Unit)):=
  bnd (jF (c.1,c.2.1,c.2.2) t1) fun y=>
  sel y
   (fun u=>br (u.1.1 !=0)
     (bnd (jk.c3 some) fun y1=>
      some (Sum.inr ((),(u.1.1,u.1.2),())))
     (bnd (iter (fun s↦jk.cb_ tape s.1 s.2.1 s.2.2.1 s.2.2.2.1 s.2.2.2.2.1 s.2.2.2.2.2.1 s.2.2.2.2.2.2 some) (u.2.1,u.2.2.1,u.2.2.2.1,u.2.2.2.2.1,u.2.2.2.2.2.1,u.2.2.2.2.2.2.1,u.2.2.2.2.2.2.2.1)) fun y2=>
      sel y2
       (fun u_1=>some (Sum.inr ((),(u_1.1,u_1.2.1),())))
       (fun v_1=>some (Sum.inl (((0:Int),(0:Int)),v_1.1,v_1.2.1,v_1.2.2.1,v_1.2.2.2.1,v_1.2.2.2.2.1,v_1.2.2.2.2.2.1,v_1.2.2.2.2.2.2,())))))
   (fun v=>br (v.2.1.1 !=0)
     (bnd (jk.c3v1 some) fun y3=>
      some (Sum.inr ((),(v.2.1.1,v.2.1.2),())))
     (bnd (iter (fun s↦jk.c100004v1 some) PUnit.unit) fun y4=>
      none))
def jk.ma:MAlt:=⟨28,jk.pre,jk.post,false,jk.post2,fun X=>jk X.1 X.2.1 X.2.2.1⟩
def jk.G:Env:=⟨58,tab,[(48,JZ.ce)],[0,1,2,3,6,7,8,9,10,19,22,29,47],[14,1014,2014],[(3,[⟨[],[],[6],[]⟩,⟨[],[],[20],[]⟩,⟨[0,1],[7],[],[]⟩])],[(100004,jk.c100004v1o),(3,jk.c3v1o),(8,jk.c8r)],[(64,je.mc),(65,jh.mc)],jI,[(45,jF.ma)]⟩
theorem jk.p0:PcA jk.G Tryz.f28 0:=
  js (s:=jk.c3v1o) (by kernel_rfl) (by kernel_rfl) (sums_or (jp (sh:=jk.c3v1s) (fun ρ X Z=>jc) (fun ρ X t k=>(by kernel_rfl)) (fun X=>by kernel_rfl)) (jp (sh:=jk.c3s) (fun ρ X Z=>jc) (fun ρ X t k=>(by kernel_rfl)) (fun X=>by kernel_rfl)))
theorem jk.p1:PcA jk.G Tryz.f28 1:=
  Jf (s:=jk.c100004v1o) (by kernel_rfl) (by kernel_rfl) (loops_or (jW (sh:=jk.c3v1s) (I:=fun X Q=>X) (fun X=>rfl) (fun ρ X Q Z=>nat_none) (fun ρ X t k=>nat_none) (fun X s=>by kernel_rfl)) (jW (sh:=jk.c3s) (I:=fun X Q=>(X.1,X.2.1,X.2.2.1,X.2.2.2.1,(q4 X).1,(q4 X).2.1,(q4 X).2.2.1,(q4 X).2.2.2.1,(q8 X).1,(q8 X).2.1,(q8 X).2.2.1,Q.1,Q.2.1,Q.2.2.1,Q.2.2.2.1,Q.2.2.2.2.1,Q.2.2.2.2.2.1,Q.2.2.2.2.2.2,())) (fun X=>rfl) (fun ρ X Q Z=>(jb fun _=>(jg (jg (jb fun _=>jc) (jb fun _=>(jb fun _=>(jg (jb fun _=>jc) (jb fun _=>jc))))) jc))) (fun ρ X t k=>(kr (fun _=>(by kernel_rfl)) (fun _=>(by kernel_rfl)))) (fun X s=>by kernel_rfl)))
theorem jk.p2:PcA jk.G Tryz.f28 2:=
  js (s:=jk.c8r) (by kernel_rfl) (by kernel_rfl) (jp (sh:=jk.c8s) (fun ρ X Z=>(jg jc jc)) (fun ρ X t k=>(by kernel_rfl)) (fun X=>by kernel_rfl))
theorem jk.ok:AltOk Tryz.prog 28 jk.ma:=fna_ok (ma:=jk.ma) (G:=jk.G) jX mixed Tryz.func28 ⟨(jn JZ.ok jK),(kP je.ok (kP jh.ok jE)),jq,(alts_cons jF.ok jD)⟩ (m:=3) (by kernel_rfl) ⟨⟨⟨trivial,jk.p0⟩,jk.p1⟩,jk.p2⟩ (by kernel_rfl) (fun _=>by kernel_rfl)
abbrev sd17:SD:=.one (.ref 6 0)
abbrev sd18:SO:=.box [.val (.sl .str),.val (.sl (.int .i64)),.val (.int .i64)]
abbrev sd19:SO:=.box [.val (.sl .str),.own 2014 0,.val (.int .i64)]
def jM.c3  (Z:Unit→Option ρ):Option ρ:=
  Z ()
def jM.c3s:Shape:=⟨[(0,sd0),(1,sd1),(2,sd2),(3,sd9),(6,sd17),(7,sd10),(8,sd11),(9,sd12)],[(3,sd13),(6,sd18),(7,sd14),(9,sd14),(14,sd15),(1014,sd6),(2014,sd7)]⟩
def jM.c3r:Ck:=Ck.of (T:=Unit) jM.c3s (fun ρ X Z=>jM.c3  Z) (fun ρ X V Z=>Z 0 (Shape.inj jM.c3s (X.1,X.2.1,X.2.2.1,X.2.2.2.1,(q4 X).1,(q4 X).2.1,[],[],(0:Int),(q8 X).2.2.2.1,(q4 (q8 X)).1,(q8 X).2.2.2)))
def jM.c4 (ua:List YN)(Z:(List (List UInt8))×(List YN)→Option ρ):Option ρ:=
  bnd (jO (0:Int) (ua.length:Int) ua) fun y=>
  Z (y.1,y.2.1)
def jM.c4x0:Shape:=⟨[(0,sd0),(1,sd1),(2,sd2),(3,sd9),(6,sd17),(7,sd10),(8,sd11),(9,sd12)],[(3,sd13),(6,sd19),(7,sd14),(9,sd14),(14,sd15),(1014,sd6),(2014,sd7)]⟩
def jM.c4r:Ck:=Ck.of (T:=(List (List UInt8))×(List YN)) jM.c3s (fun ρ X Z=>jM.c4 (q8 (q8 X)).2.2.1 Z) (fun ρ X V Z=>Z 0 (Shape.inj jM.c4x0 (X.1,X.2.1,X.2.2.1,X.2.2.2.1,(q4 X).1,(q4 X).2.1,V.1,(q8 (q8 X)).1,(0:Int),(0:Int),(q8 X).2.2.2.1,(q4 (q8 X)).1,(q4 (q8 X)).2.1,(q4 (q8 X)).2.2.1,(q4 (q8 X)).2.2.2.1,(q8 (q8 X)).1,(q8 (q8 X)).2.1,V.2,(q8 (q8 X)).2.2.2)))
def jM.c3v1  (Z:Unit→Option ρ):Option ρ:=
  Z ()
def jM.c3v1s:Shape:=⟨[(0,sd0),(1,sd1),(2,sd2),(3,sd9),(6,sd17),(7,sd10),(8,sd8),(9,sd12)],[(3,sd13),(6,sd18),(7,sd14),(9,sd14)]⟩
def jM.c3v1r:Ck:=Ck.of (T:=Unit) jM.c3v1s (fun ρ X Z=>jM.c3v1  Z) (fun ρ X V Z=>Z 0 (Shape.inj jM.c3v1s (X.1,X.2.1,X.2.2.1,X.2.2.2.1,(q4 X).1,(q4 X).2.1,(q4 X).2.2.1,[],[],(0:Int),(q4 (q8 X)).1,(q4 (q8 X)).2.1,(q4 (q8 X)))))
def jM.c3v1o:Ck:=Ck.or jM.c3v1s jM.c3v1r jM.c3r
def jM.c4v1  (Z:Unit→Option ρ):Option ρ:=
  none
def jM.c4v1r:Ck:=Ck.of (T:=Unit) jM.c3v1s (fun ρ X Z=>jM.c4v1  Z) (fun ρ X V Z=>none)
def jM.c4v1o:Ck:=Ck.or jM.c3v1s jM.c4v1r jM.c4r
def jM (c:(Int)×((Int)×(List YO))) (t1:Int) (tape:List (Int)):Option (((List (List UInt8))×((List Int)×(Int)))×((Int)×(Int))):=
  bnd (jk (c.1,c.2.1,c.2.2) t1 tape) fun y=>
  sel y
   (fun u=>br (u.1.1 !=0)
     (bnd (jM.c3 some) fun y1=>
      some (([],[],(0:Int)),u.1.1,u.1.2))
     (bnd (jM.c4 u.2.2.2.2.2.2.1 some) fun y2=>
      some ((y2.1,u.2.2.2.2.2.2.2.1,u.2.2.2.2.1),(0:Int),(0:Int))))
   (fun v=>br (v.2.1.1 !=0)
     (bnd (jM.c3v1 some) fun y3=>
      some (([],[],(0:Int)),v.2.1.1,v.2.1.2))
     (bnd (jM.c4v1 some) fun y4=>
      none))
def jM.ce:Go.Ql.Callee:=⟨[(.st (.pair (.int .i64) (.pair (.int .i64) (.sl (.st (.pair (.int .i64) (.pair (.int .i64) (.pair (.sl (.int .i64)) (.pair (.int .i64) (.pair (.int .i64) (.sl (.int .i64)))))))))))),(.int .i64),(.sl (.int .i64))],[(.st (.pair (.sl .str) (.pair (.sl (.int .i64)) (.int .i64)))),(.st (.pair (.int .i64) (.int .i64)))],fun X=>jM X.1 X.2.1 X.2.2⟩
def jM.G:Env:=⟨37,tab,[],[0,1,2,3,6,7,8,9,19],[14,1014,2014],[(4,[⟨[],[],[27,28,29,30,31,32,33,34,36],[]⟩,⟨[0],[],[27,28,29,30,31,32,33,34,36],[]⟩,⟨[1,0],[],[27,28,29,30,31,32,33,34,36],[]⟩,⟨[2,1,0],[],[27,28,29,30,31,32,33,34,36],[]⟩,⟨[3,2,1,0],[1014],[27,28,29,30,31,32,33,34,36],[]⟩,⟨[],[],[22,23,24,25,26,31,32,33,34,36],[1014]⟩,⟨[5],[],[22,23,24,25,26,31,32,33,34,36],[1014]⟩,⟨[6,5],[],[22,23,24,25,26,31,32,33,34,36],[1014]⟩,⟨[7,6,5],[],[22,23,24,25,26,31,32,33,34,36],[1014]⟩,⟨[],[],[22,23,24,25,26,27,28,29,30,36],[1014]⟩,⟨[9],[],[22,23,24,25,26,27,28,29,30,36],[1014]⟩,⟨[10,9],[],[22,23,24,25,26,27,28,29,30,36],[1014]⟩,⟨[11,10,9],[],[22,23,24,25,26,27,28,29,30,36],[1014]⟩,⟨[4,3,2,1,0,8,7,6,5,12,11,10,9],[],[36],[]⟩,⟨[],[],[22,23,24,25,26,27,28,29,30,31,32,33,34,35],[1014,6]⟩,⟨[13,4,3,2,1,0,8,7,6,5,12,11,10,9],[6],[36],[]⟩,⟨[14,15,13,4,3,2,1,0,8,7,6,5,12,11,10,9],[7],[],[]⟩]),
  (3,[⟨[],[],[21],[]⟩,⟨[],[],[20],[6]⟩,⟨[0],[6],[21],[]⟩,⟨[1,2,0],[7],[],[]⟩])],[(4,jM.c4v1o),(3,jM.c3v1o)],[(29,jO.mc)],jI,[(28,jk.ma)]⟩
theorem jM.p0:PcA jM.G Tryz.f8 0:=
  js (s:=jM.c3v1o) (by kernel_rfl) (by kernel_rfl) (sums_or (jp (sh:=jM.c3v1s) (fun ρ X Z=>jc) (fun ρ X t k=>(by kernel_rfl)) (fun X=>by kernel_rfl)) (jp (sh:=jM.c3s) (fun ρ X Z=>jc) (fun ρ X t k=>(by kernel_rfl)) (fun X=>by kernel_rfl)))
theorem jM.p1:PcA jM.G Tryz.f8 1:=
  js (s:=jM.c4v1o) (by kernel_rfl) (by kernel_rfl) (sums_or (jp (sh:=jM.c3v1s) (fun ρ X Z=>nat_none) (fun ρ X t k=>nat_none) (fun X=>by kernel_rfl)) (jp (sh:=jM.c3s) (fun ρ X Z=>(jb fun _=>jc)) (fun ρ X t k=>(by kernel_rfl)) (fun X=>by kernel_rfl)))
theorem jM.ok:CalleeOk Tryz.prog 8 jM.ce:=fn_ok (G:=jM.G) jX mixed Tryz.func8 ⟨jK,(kP jO.ok jE),jq,(alts_cons jk.ok jD)⟩ (m:=2) (by kernel_rfl) ⟨⟨trivial,jM.p0⟩,jM.p1⟩ (by kernel_rfl) (fun _=>by kernel_rfl)
abbrev sd20:SD:=.one (.ref 1 0)
abbrev sd21:SD:=.one (.ref 2 0)
def Jk.c2 (s0:List (List UInt8))(s1:List (Int))(s2:Int)(f0:Int)(Z:Bool→Option ρ):Option ρ:=
  br (f0==0)
   (bnd (JA (s0,s1,s2) ([Array.toList (ByteArray.data (ByteArray.mk #[48])),Array.toList (ByteArray.data (ByteArray.mk #[48])),Array.toList (ByteArray.data (ByteArray.mk #[48])),Array.toList (ByteArray.data (ByteArray.mk #[48,44,48,44,49,44,48,44,48,44,48,44,45,49,47,49]))],[(1:Int)],(1:Int))) fun y=>
    Z y)
   (Z false)
def Jk.c2s:Shape:=⟨[(0,sd16),(1,sd20),(2,sd21)],[(1,sd18),(2,sd14)]⟩
def Jk.c2r:Ck:=Ck.of (T:=Bool) Jk.c2s (fun ρ X Z=>Jk.c2 X.2.1 X.2.2.1 X.2.2.2.1 (q4 X).1 Z) (fun ρ X V Z=>Z 0 (Shape.inj Jk.c2s (V,X.2)))
def Jk  : Option Bool:=
  bnd kN fun y=>
  bnd (jM y (0:Int) [(1:Int)]) fun y1=>
  bnd (Jk.c2 y1.1.1 y1.1.2.1 y1.1.2.2 y1.2.1 some) fun y2=>
  some y2
def Jk.ce:Go.Ql.Callee:=⟨[],[.bool],fun X=>Jk⟩
def Jk.G:Env:=⟨19,tab,[(31,kN.ce),(8,jM.ce),(11,JA.ce)],[0,1,2],[],[],[(2,Jk.c2r)],[],jI,[]⟩
theorem Jk.p0:PcA Jk.G Tryz.f10 0:=
  js (s:=Jk.c2r) (by kernel_rfl) (by kernel_rfl) (jp (sh:=Jk.c2s) (fun ρ X Z=>(jg (jb fun _=>jc) jc)) (fun ρ X t k=>(by kernel_rfl)) (fun X=>by kernel_rfl))
theorem Jk.ok:CalleeOk Tryz.prog 10 Jk.ce:=fn_ok (G:=Jk.G) jX mixed Tryz.func10 ⟨(jn kN.ok (jn jM.ok (jn JA.ok jK))),jE,jq,jD⟩ (m:=1) (by kernel_rfl) ⟨trivial,Jk.p0⟩ (by kernel_rfl) (fun _=>by kernel_rfl)
abbrev sd22:SD:=.one (.val .str)
def Jc.c3  (Z:Unit→Option ρ):Option ρ:=
  Z ()
def Jc.c3s:Shape:=⟨[(0,sd0),(1,sd1),(2,sd2),(3,sd9),(6,sd22),(7,sd10),(8,sd11),(9,sd12)],[(3,sd13),(7,sd14),(9,sd14),(14,sd15),(1014,sd6),(2014,sd7)]⟩
def Jc.c3r:Ck:=Ck.of (T:=Unit) Jc.c3s (fun ρ X Z=>Jc.c3  Z) (fun ρ X V Z=>Z 0 (Shape.inj Jc.c3s (X.1,X.2.1,X.2.2.1,(Array.toList (ByteArray.data (ByteArray.mk #[]))),(q4 X).1,(q4 X).2.1,(q4 X).2.2.1,(q8 X).2.1,(q8 X).2.2.1,(q8 X).2)))
def Jc.c3v1  (Z:Unit→Option ρ):Option ρ:=
  Z ()
def Jc.c3v1s:Shape:=⟨[(0,sd0),(1,sd1),(2,sd2),(3,sd9),(6,sd22),(7,sd10),(8,sd8),(9,sd12)],[(3,sd13),(7,sd14),(9,sd14)]⟩
def Jc.c3v1r:Ck:=Ck.of (T:=Unit) Jc.c3v1s (fun ρ X Z=>Jc.c3v1  Z) (fun ρ X V Z=>Z 0 (Shape.inj Jc.c3v1s (X.1,X.2.1,X.2.2.1,(Array.toList (ByteArray.data (ByteArray.mk #[]))),(q4 X).1,(q4 X).2.1,(q4 X).2.2.1,(q4 X).2.2.2.1,(q8 X).2.2.1,(q8 X).2.2.2.1,(q8 X).2.2)))
def Jc.c3v1o:Ck:=Ck.or Jc.c3v1s Jc.c3v1r Jc.c3r
def Jc (c:(Int)×((Int)×(List YO))) (t1:Int) (tape:List (Int)):Option ((List UInt8)×((Int)×(Int))):=
  bnd (jk (c.1,c.2.1,c.2.2) t1 tape) fun y=>
  sel y
   (fun u=>br (u.1.1 !=0)
     (bnd (Jc.c3 some) fun y1=>
      some (Array.toList (ByteArray.data (ByteArray.mk #[])),u.1.1,u.1.2))
     (bnd (jm (0:Int) (↑(List.length u.2.2.2.2.2.2.1):Int) u.2.2.2.2.2.2.1) fun y2=>
      bnd (jo y2.1) fun y3=>
      some (y3,(0:Int),(0:Int))))
   (fun v=>br (v.2.1.1 !=0)
     (bnd (Jc.c3v1 some) fun y4=>
      some (Array.toList (ByteArray.data (ByteArray.mk #[])),v.2.1.1,v.2.1.2))
     (none))
def Jc.ce:Go.Ql.Callee:=⟨[(.st (.pair (.int .i64) (.pair (.int .i64) (.sl (.st (.pair (.int .i64) (.pair (.int .i64) (.pair (.sl (.int .i64)) (.pair (.int .i64) (.pair (.int .i64) (.sl (.int .i64)))))))))))),(.int .i64),(.sl (.int .i64))],[.str,(.st (.pair (.int .i64) (.int .i64)))],fun X=>Jc X.1 X.2.1 X.2.2⟩
def Jc.G:Env:=⟨28,tab,[(26,jo.ce)],[0,1,2,3,6,7,8,9,19],[14,1014,2014],[(3,[⟨[],[],[6],[]⟩,⟨[],[],[20],[]⟩,⟨[0,1],[7],[],[]⟩])],[(3,Jc.c3v1o)],[(33,jm.mc)],jI,[(28,jk.ma)]⟩
theorem Jc.p0:PcA Jc.G Tryz.f14 0:=
  js (s:=Jc.c3v1o) (by kernel_rfl) (by kernel_rfl) (sums_or (jp (sh:=Jc.c3v1s) (fun ρ X Z=>jc) (fun ρ X t k=>(by kernel_rfl)) (fun X=>by kernel_rfl)) (jp (sh:=Jc.c3s) (fun ρ X Z=>jc) (fun ρ X t k=>(by kernel_rfl)) (fun X=>by kernel_rfl)))
theorem Jc.ok:CalleeOk Tryz.prog 14 Jc.ce:=fn_ok (G:=Jc.G) jX mixed Tryz.func14 ⟨(jn jo.ok jK),(kP jm.ok jE),jq,(alts_cons jk.ok jD)⟩ (m:=1) (by kernel_rfl) ⟨trivial,Jc.p0⟩ (by kernel_rfl) (fun _=>by kernel_rfl)
abbrev sd23:SD:=.one (.ref 10 0)
abbrev sd24:SD:=.one (.ref 11 0)
abbrev sd25:SD:=.one (.ref 12 0)
abbrev sd26:SD:=.one (.val (.sl (.st (.pair (.ar 8 (.st (.pair .bool (.sl (.int .i64))))) (.int .i64)))))
def jB.c5 (tape:List (Int))(list:List (Int))(c0:Int)(c1:Int)(c2:List YO)(given0:Int)(given1:Int)(given2:List YO)(s0:List (List UInt8))(s1:List (Int))(s2:Int)(f0:Int)(f1:Int)(t0:List (List UInt8))(t1_1:List (Int))(t2:Int)(g0:Int)(g1:Int)(Z:Bool→Option ρ):Option ρ:=
  bnd Jk fun y=>
  br (!y)
   (Z true)
   (br (!Ty.eqT (Ty.pair (Ty.int IntKind.i64) (Ty.int IntKind.i64)) (f0,f1) (g0,g1))
     (Z true)
     (bnd (JA (s0,s1,s2) (t0,t1_1,t2)) fun y1=>
      br (!y1)
       (Z true)
       (bnd (jx (given0,given1,given2) (c0,c1,c2)) fun y2=>
        br (!y2)
         (Z true)
         (bnd (jZ list tape) fun y3=>
          Z (!y3)))))
def jB.c5s:Shape:=⟨[(0,sd0),(1,sd1),(2,sd2),(3,sd9),(6,sd16),(7,sd10),(8,sd2),(9,sd12),(10,sd23),(11,sd24),(12,sd25)],[(3,sd13),(7,sd13),(9,sd18),(10,sd14),(11,sd18),(12,sd14)]⟩
def jB.c5x0:Shape:=⟨[(0,sd0),(1,sd1),(2,sd2),(3,sd9),(6,sd16),(7,sd10),(8,sd2),(9,sd12),(10,sd23),(11,sd24),(12,sd25),(60,sd16)],[(3,sd13),(7,sd13),(9,sd18),(10,sd14),(11,sd18),(12,sd14)]⟩
def jB.c5r:Ck:=Ck.of (T:=Bool) jB.c5s (fun ρ X Z=>uP X fun c X=>uP X fun t1 X=>uP X fun tape X=>uP X fun t6 X=>uP X fun list X=>uP X fun c0 X=>uP X fun c1 X=>uP X fun c2 X=>uP X fun given0 X=>uP X fun given1 X=>uP X fun given2 X=>uP X fun s0 X=>uP X fun s1 X=>uP X fun s2 X=>uP X fun f0 X=>uP X fun f1 X=>uP X fun t0 X=>uP X fun t1_1 X=>uP X fun t2 X=>uP X fun g0 X=>uP X fun g1 X=>jB.c5 tape list c0 c1 c2 given0 given1 given2 s0 s1 s2 f0 f1 t0 t1_1 t2 g0 g1 Z) (fun ρ X V Z=>Z 0 (Shape.inj jB.c5x0 (X.1,X.2.1,X.2.2.1,X.2.2.2.1,(q4 X).1,V,(q4 X).2)))
def jB.c10 (chance:List UInt8)(f0:Int)(f1:Int)(g0:Int)(g1:Int)(Z:Bool→Option ρ):Option ρ:=
  br (Ty.eqT (Ty.pair (Ty.int IntKind.i64) (Ty.int IntKind.i64)) (f0,f1) (g0,g1))
   (Z (chance==Array.toList (ByteArray.data (ByteArray.mk #[]))))
   (Z false)
def jB.c10s:Shape:=⟨[(0,sd0),(1,sd1),(2,sd2),(3,sd9),(6,sd16),(7,sd10),(8,sd2),(9,sd12),(10,sd23),(11,sd24),(12,sd25),(13,sd22),(14,sd26)],[(3,sd13),(7,sd13),(9,sd18),(10,sd14),(11,sd18),(12,sd14),(17,sd14)]⟩
def jB.c10r:Ck:=Ck.of (T:=Bool) jB.c10s (fun ρ X Z=>jB.c10 (q4 X).2.1 (q8 (q8 X)).1 (q8 (q8 X)).2.1 (q4 (q8 (q8 X))).2.1 (q4 (q8 (q8 X))).2.2.1 Z) (fun ρ X V Z=>Z 0 (Shape.inj jB.c10s (X.1,X.2.1,X.2.2.1,V,(q4 X))))
def jB.c11 (chance:List UInt8)(v:List YN)(f0:Int)(Z:Bool→Option ρ):Option ρ:=
  br (f0==0)
   (bnd (Js v) fun y=>
    bnd (jY y) fun y1=>
    Z (chance==y1))
   (Z false)
def jB.c11r:Ck:=Ck.of (T:=Bool) jB.c10s (fun ρ X Z=>jB.c11 (q4 X).2.1 (q4 X).2.2.1 (q8 (q8 X)).1 Z) (fun ρ X V Z=>Z 0 (Shape.inj jB.c10s (X.1,X.2.1,X.2.2.1,V,(q4 X))))
def jB (c:(Int)×((Int)×(List YO))) (t1:Int) (tape:List (Int)):Option Bool:=
  bnd (jS (c.1,c.2.1,c.2.2)) fun y=>
  bnd (okIf (decide (((0:Nat)+tape.length)*8≤140737488355328)&&decide ((0:Nat)+tape.length≤140737488355328))) fun y1=>
  bnd (jM (y.1,y.2.1,y.2.2) t1 tape) fun y2=>
  bnd (JU (c.1,c.2.1,c.2.2) t1 tape) fun y3=>
  bnd (jB.c5 tape tape c.1 c.2.1 c.2.2 y.1 y.2.1 y.2.2 y2.1.1 y2.1.2.1 y2.1.2.2 y2.2.1 y2.2.2 y3.1.1 y3.1.2.1 y3.1.2.2 y3.2.1 y3.2.2 some) fun y4=>
  br y4
   (some false)
   (bnd (Jc (y.1,y.2.1,y.2.2) t1 tape) fun y5=>
    bnd (jR (c.1,c.2.1,c.2.2) t1 tape) fun y6=>
    br (y3.2.1 !=0)
     (bnd (jB.c10 y5.1 y5.2.1 y5.2.2 y3.2.1 y3.2.2 some) fun y7=>
      some y7)
     (bnd (jB.c11 y5.1 y6.1 y5.2.1 some) fun y8=>
      some y8))
def jB.ce:Go.Ql.Callee:=⟨[(.st (.pair (.int .i64) (.pair (.int .i64) (.sl (.st (.pair (.int .i64) (.pair (.int .i64) (.pair (.sl (.int .i64)) (.pair (.int .i64) (.pair (.int .i64) (.sl (.int .i64)))))))))))),(.int .i64),(.sl (.int .i64))],[.bool],fun X=>jB X.1 X.2.1 X.2.2⟩
def jB.G:Env:=⟨97,tab,[(7,jS.ce),(8,jM.ce),(9,JU.ce),(10,Jk.ce),(11,JA.ce),(12,jx.ce),(13,jZ.ce),(14,Jc.ce),(15,jR.ce),(17,Js.ce),(16,jY.ce)],[0,1,2,3,6,7,8,9,10,11,12,13,14,60,79],[],[],[(11,jB.c11r),(10,jB.c10r),(5,jB.c5r)],[],jI,[]⟩
theorem jB.p0:PcA jB.G Tryz.f3 0:=
  js (s:=jB.c5r) (by kernel_rfl) (by kernel_rfl) (jp (sh:=jB.c5s) (fun ρ X Z=>(jb fun _=>(jg jc (jg jc (jb fun _=>(jg jc (jb fun _=>(jg jc (jb fun _=>jc))))))))) (fun ρ X t k=>(by kernel_rfl)) (fun X=>by kernel_rfl))
theorem jB.p1:PcA jB.G Tryz.f3 1:=
  js (s:=jB.c10r) (by kernel_rfl) (by kernel_rfl) (jp (sh:=jB.c10s) (fun ρ X Z=>(jg jc jc)) (fun ρ X t k=>(by kernel_rfl)) (fun X=>by kernel_rfl))
theorem jB.p2:PcA jB.G Tryz.f3 2:=
  js (s:=jB.c11r) (by kernel_rfl) (by kernel_rfl) (jp (sh:=jB.c10s) (fun ρ X Z=>(jg (jb fun _=>(jb fun _=>jc)) jc)) (fun ρ X t k=>(by kernel_rfl)) (fun X=>by kernel_rfl))
theorem jB.ok:CalleeOk Tryz.prog 3 jB.ce:=fn_ok (G:=jB.G) jX mixed Tryz.func3 ⟨(jn jS.ok (jn jM.ok (jn JU.ok (jn Jk.ok (jn JA.ok (jn jx.ok (jn jZ.ok (jn Jc.ok (jn jR.ok (jn Js.ok (jn jY.ok jK))))))))))),jE,jq,jD⟩ (m:=3) (by kernel_rfl) ⟨⟨⟨trivial,jB.p0⟩,jB.p1⟩,jB.p2⟩ (by kernel_rfl) (fun _=>by kernel_rfl)
end
end W
end
