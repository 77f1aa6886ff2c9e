/- Lifted functions, part 1: each with its contract. -/
import Derived.Test.YtcndclcpmelgoaaDoorCaT
import Derived.Test.YtcndclcpmelgoaaDoorProg
set_option linter.all false
section
set_option maxHeartbeats 4000000
set_option maxRecDepth 100000
set_option linter.unusedVariables false
namespace W
open Go Go.Ql Go.Proofs
noncomputable section
abbrev ct0:SD:=.one (.val (.sl (.int .i64)))
abbrev ct1:SD:=.one (.own 3 0)
abbrev ct2:SD:=.one (.val (.int .i64))
abbrev ct3:SO:=.arr 0 false 3 (.int .i64)
abbrev YO:=Int×(Int×((List Int)×(Int×(Int×(List Int)))))
abbrev YD:=(Bool)×(List Int)
abbrev YP:=Int×(Int×(Bool))
abbrev YN:=(List YD)×Int
def Ja.c100003 {ρ:Type} (l:List (Int)) (i:Int) (out:List (Int)) (k_:((Int)×(List Int))⊕((Int)×(List Int))→Option ρ):Option ρ:=
  br (decide (i < (↑(List.length l):Int)))
   (bnd (idx l i) fun y=>
    bnd (okIf (decide ((List.length out+(1:Nat))*(8:Nat)≤(140737488355328:Nat)) && decide (List.length out+(1:Nat)≤(140737488355328:Nat)))) fun y_1=>
    k_ (.inl ((IntKind.i64.wrap (i+(1:Int))),(out++[y]))))
   (k_ (.inr (i,out)))
def Ja.c100003s:Shape:=⟨[(0,ct0),(2,ct0),(3,ct1),(4,ct2)],[(3,ct3)]⟩
def Ja.c100003x0:Shape:=Ja.c100003s
def Ja.c100003r:Ck:=Ck.ofLoop (S:=(Int)×(List Int)) (T:=(Int)×(List Int)) Ja.c100003s (fun x_=>(x_.2.2.1,x_.2.2.2.1)) (fun ρ x_ s_ k_=>Ja.c100003 x_.1 s_.1 s_.2 k_) (fun ρ x_ r_ k_=>k_ 2 (Shape.inj Ja.c100003x0 (x_.1,x_.2.1,r_.1,r_.2,())))
def Ja (l:List (Int)):Option (List Int):=
  bnd (iter (fun s↦W.Ja.c100003 l s.1 s.2 some) ((0:Int),[])) fun y=>
  some y.2
def Ja.ce:Go.Ql.Callee:=⟨[(.sl (.int .i64))],[(.sl (.int .i64))],fun x_=>Ja x_⟩
def Ja.G:Env:=⟨19,tab,[],[0,2,3,4,8],[3],[],[(100003,Ja.c100003r)],[],Jc,[]⟩
theorem Ja.eq (x_:dens Ja.ce.params):den Ja.G Tryd.f67 Ja.ce.params Ja.ce.res x_=Ja.ce.F x_:=by kernel_rfl
theorem Ja.p0:PcA Ja.G Tryd.f67 0:=
  JD (s:=Ja.c100003r) (by kernel_rfl) (by kernel_rfl) (Ju (sh:=Ja.c100003s) (I:=fun x_ s_=>(x_.1,x_.2.1,s_.1,s_.2,())) (fun x_=>rfl) (fun ρ x_ s_ k_=>(jr (jf fun _=>(jf fun _=>ja)) ja)) (fun ρ x_ t k=>(by kernel_rfl)) (fun x_ s=>by kernel_rfl))
theorem Ja.ok:CalleeOk Tryd.prog 67 Ja.ce:=fn_ok (G:=Ja.G) Jm mixed Tryd.func67 ⟨Je,jW,jK,jV⟩ (m:=1) (by kernel_rfl) ⟨trivial,Ja.p0⟩ (by kernel_rfl) Ja.eq
def JH (o:(Int)×((Int)×((List Int)×((Int)×((Int)×(List Int)))))):Option ((Int)×((Int)×((List Int)×((Int)×((Int)×(List Int)))))):=
  bnd (W.Ja o.2.2.1) fun y=>
  bnd (W.Ja o.2.2.2.2.2) fun y_1=>
  some (o.1,o.2.1,y,o.2.2.2.1,o.2.2.2.2.1,y_1)
def JH.ce:Go.Ql.Callee:=⟨[(.st (.pair (.int .i64) (.pair (.int .i64) (.pair (.sl (.int .i64)) (.pair (.int .i64) (.pair (.int .i64) (.sl (.int .i64))))))))],[(.st (.pair (.int .i64) (.pair (.int .i64) (.pair (.sl (.int .i64)) (.pair (.int .i64) (.pair (.int .i64) (.sl (.int .i64))))))))],fun x_=>JH x_⟩
def JH.G:Env:=⟨12,tab,[(67,Ja.ce)],[0,1,2],[],[],[],[],Jc,[]⟩
theorem JH.eq (x_:dens JH.ce.params):den JH.G Tryd.f37 JH.ce.params JH.ce.res x_=JH.ce.F x_:=by kernel_rfl
theorem JH.ok:CalleeOk Tryd.prog 37 JH.ce:=fn_ok (G:=JH.G) Jm mixed Tryd.func37 ⟨(jL Ja.ok Je),jW,jK,jV⟩ (m:=0) (by kernel_rfl) trivial (by kernel_rfl) JH.eq
abbrev ct4:SD:=.one (.val (.st (.pair (.int .i64) (.pair (.int .i64) (.sl (.st (.pair (.int .i64) (.pair (.int .i64) (.pair (.sl (.int .i64)) (.pair (.int .i64) (.pair (.int .i64) (.sl (.int .i64)))))))))))))
abbrev ct5:SD:=.one (.ref 1 0)
abbrev ct6:SD:=.one (.ref 2 0)
abbrev ct7:SD:=.one (.ref 3 0)
abbrev ct8:SO:=.box [.val (.int .i64),.val (.int .i64),.val (.sl (.st (.pair (.int .i64) (.pair (.int .i64) (.pair (.sl (.int .i64)) (.pair (.int .i64) (.pair (.int .i64) (.sl (.int .i64)))))))))]
abbrev ct9:SO:=.box [.val (.int .i64),.val (.int .i64),.own 3003 0]
abbrev ct10:SO:=.arr 0 false 57 (.st (.pair (.int .i64) (.pair (.int .i64) (.pair (.sl (.int .i64)) (.pair (.int .i64) (.pair (.int .i64) (.sl (.int .i64))))))))
def jx.c5 {ρ:Type} (i:Int) (c2:List ((Int)×((Int)×((List Int)×((Int)×((Int)×(List Int))))))) (t3003:List ((Int)×((Int)×((List Int)×((Int)×((Int)×(List Int))))))) (k_:List ((Int)×((Int)×((List Int)×((Int)×((Int)×(List Int))))))→Option ρ):Option ρ:=
  bnd (idx c2 i) fun y=>
  bnd (W.JH y) fun y_1=>
  bnd (okIf (decide ((List.length t3003+(1:Nat))*(80:Nat)≤(140737488355328:Nat)) && decide (List.length t3003+(1:Nat)≤(140737488355328:Nat)))) fun y_2=>
  k_ (t3003++[y_1])
def jx.c5s:Shape:=⟨[(0,ct4),(1,ct5),(2,ct6),(3,ct7),(4,ct2)],[(1,ct8),(2,ct8),(3,ct9),(3003,ct10)]⟩
def jx.c5x0:Shape:=jx.c5s
def jx.c5r:Ck:=Ck.of (T:=List ((Int)×((Int)×((List Int)×((Int)×((Int)×(List Int))))))) jx.c5s (fun ρ x_ k_=>jx.c5 x_.2.1 x_.2.2.2.2.1 x_.2.2.2.2.2.2.2.2.2.2.1 k_) (fun ρ x_ r_ k_=>k_ 0 (Shape.inj jx.c5x0 (x_.1,x_.2.1,x_.2.2.1,x_.2.2.2.1,x_.2.2.2.2.1,x_.2.2.2.2.2.1,x_.2.2.2.2.2.2.1,x_.2.2.2.2.2.2.2.1,x_.2.2.2.2.2.2.2.2.1,x_.2.2.2.2.2.2.2.2.2.1,r_,())))
def jx.c100003 {ρ:Type} (i:Int) (c2:List ((Int)×((Int)×((List Int)×((Int)×((Int)×(List Int))))))) (t3003:List ((Int)×((Int)×((List Int)×((Int)×((Int)×(List Int))))))) (k_:((Int)×(List ((Int)×((Int)×((List Int)×((Int)×((Int)×(List Int))))))))⊕((Int)×(List ((Int)×((Int)×((List Int)×((Int)×((Int)×(List Int))))))))→Option ρ):Option ρ:=
  br (decide (i < (↑(List.length c2):Int)))
   (bnd (W.jx.c5 i c2 t3003 some) fun y=>
    k_ (.inl ((IntKind.i64.wrap (i+(1:Int))),y)))
   (k_ (.inr (i,t3003)))
def jx.c100003s:Shape:=jx.c5s
def jx.c100003x0:Shape:=jx.c5s
def jx.c100003r:Ck:=Ck.ofLoop (S:=(Int)×(List ((Int)×((Int)×((List Int)×((Int)×((Int)×(List Int)))))))) (T:=(Int)×(List ((Int)×((Int)×((List Int)×((Int)×((Int)×(List Int)))))))) jx.c100003s (fun x_=>(x_.2.1,x_.2.2.2.2.2.2.2.2.2.2.1)) (fun ρ x_ s_ k_=>jx.c100003 s_.1 x_.2.2.2.2.1 s_.2 k_) (fun ρ x_ r_ k_=>k_ 2 (Shape.inj jx.c100003x0 (x_.1,r_.1,x_.2.2.1,x_.2.2.2.1,x_.2.2.2.2.1,x_.2.2.2.2.2.1,x_.2.2.2.2.2.2.1,x_.2.2.2.2.2.2.2.1,x_.2.2.2.2.2.2.2.2.1,x_.2.2.2.2.2.2.2.2.2.1,r_.2,())))
def jx (c:(Int)×((Int)×(List ((Int)×((Int)×((List Int)×((Int)×((Int)×(List Int))))))))):Option ((Int)×((Int)×(List ((Int)×((Int)×((List Int)×((Int)×((Int)×(List Int))))))))):=
  bnd (iter (fun s↦W.jx.c100003 s.1 c.2.2 s.2 some) ((0:Int),[])) fun y=>
  some (c.1,c.2.1,y.2)
def jx.ce:Go.Ql.Callee:=⟨[(.st (.pair (.int .i64) (.pair (.int .i64) (.sl (.st (.pair (.int .i64) (.pair (.int .i64) (.pair (.sl (.int .i64)) (.pair (.int .i64) (.pair (.int .i64) (.sl (.int .i64))))))))))))],[(.st (.pair (.int .i64) (.pair (.int .i64) (.sl (.st (.pair (.int .i64) (.pair (.int .i64) (.pair (.sl (.int .i64)) (.pair (.int .i64) (.pair (.int .i64) (.sl (.int .i64))))))))))))],fun x_=>jx x_⟩
def jx.G:Env:=⟨29,tab,[(37,JH.ce)],[0,1,2,3,4,14],[1,3,9,3001,3003],[(5,[⟨[],[],[19,20,21,22,23,24,25],[25]⟩,⟨[0],[],[19,20,21,22,23,24,25],[25]⟩,⟨[],[],[17,18,21],[]⟩,⟨[2],[],[17,18,21],[]⟩,⟨[],[],[17,18,19,20],[]⟩,⟨[3,2,4],[],[17,18],[]⟩,⟨[5,3,2,4],[],[17,18],[]⟩,⟨[6,5,3,2,4],[],[17,18],[]⟩,⟨[7,6,5,3,2,4],[25],[17,18],[]⟩,⟨[1,0,8,7,6,5,3,2,4],[3003],[],[]⟩,⟨[0,1,2,3,4,5,6,7,8,9],[],[],[]⟩,⟨[10,0,1,2,3,4,5,6,7,8,9],[3],[],[]⟩])],[(100003,jx.c100003r),(5,jx.c5r)],[],Jc,[]⟩
theorem jx.eq (x_:dens jx.ce.params):den jx.G Tryd.f11 jx.ce.params jx.ce.res x_=jx.ce.F x_:=by kernel_rfl
theorem jx.p0:PcA jx.G Tryd.f11 0:=
  JD (s:=jx.c100003r) (by kernel_rfl) (by kernel_rfl) (Ju (sh:=jx.c100003s) (I:=fun x_ s_=>(x_.1,s_.1,x_.2.2.1,x_.2.2.2.1,x_.2.2.2.2.1,x_.2.2.2.2.2.1,x_.2.2.2.2.2.2.1,x_.2.2.2.2.2.2.2.1,x_.2.2.2.2.2.2.2.2.1,x_.2.2.2.2.2.2.2.2.2.1,s_.2,())) (fun x_=>rfl) (fun ρ x_ s_ k_=>(jr (jf fun _=>ja) ja)) (fun ρ x_ t k=>(by kernel_rfl)) (fun x_ s=>by kernel_rfl))
theorem jx.p1:PcA jx.G Tryd.f11 1:=
  jC (s:=jx.c5r) (by kernel_rfl) (by kernel_rfl) (jH (sh:=jx.c5s) (fun ρ x_ k_=>(jf fun _=>(jf fun _=>(jf fun _=>ja)))) (fun ρ x_ t k=>(by kernel_rfl)) (fun x_=>by kernel_rfl))
theorem jx.ok:CalleeOk Tryd.prog 11 jx.ce:=fn_ok (G:=jx.G) Jm mixed Tryd.func11 ⟨(jL JH.ok Je),jW,jK,jV⟩ (m:=2) (by kernel_rfl) ⟨⟨trivial,jx.p0⟩,jx.p1⟩ (by kernel_rfl) jx.eq
def Ji (code:Int) (t1:Int):Option ((Int)×(Int)):=
  some (code,t1)
def Ji.ce:Go.Ql.Callee:=⟨[(.int .i64),(.int .i64)],[(.st (.pair (.int .i64) (.int .i64)))],fun x_=>Ji x_.1 x_.2⟩
def Ji.G:Env:=⟨8,tab,[],[0,1,4],[],[],[],[],Jc,[]⟩
theorem Ji.eq (x_:dens Ji.ce.params):den Ji.G Tryd.f40 Ji.ce.params Ji.ce.res x_=Ji.ce.F x_:=by kernel_rfl
theorem Ji.ok:CalleeOk Tryd.prog 40 Ji.ce:=fn_ok (G:=Ji.G) Jm mixed Tryd.func40 ⟨Je,jW,jK,jV⟩ (m:=0) (by kernel_rfl) trivial (by kernel_rfl) Ji.eq
abbrev ct11:SD:=.one (.val .bool)
def Jb.c1 {ρ:Type} (kind:Int) (k_:Bool→Option ρ):Option ρ:=
  br (kind == (1:Int))
   (k_ true)
   (k_ (kind == (4:Int)))
def Jb.c1s:Shape:=⟨[(0,ct2),(2,ct11)],[]⟩
def Jb.c1x0:Shape:=Jb.c1s
def Jb.c1r:Ck:=Ck.of (T:=Bool) Jb.c1s (fun ρ x_ k_=>Jb.c1 x_.1 k_) (fun ρ x_ r_ k_=>k_ 0 (Shape.inj Jb.c1x0 (x_.1,r_,())))
def Jb (kind:Int):Option Bool:=
  bnd (W.Jb.c1 kind some) fun y=>
  some y
def Jb.ce:Go.Ql.Callee:=⟨[(.int .i64)],[.bool],fun x_=>Jb x_⟩
def Jb.G:Env:=⟨9,tab,[],[0,2],[],[],[(1,Jb.c1r)],[],Jc,[]⟩
theorem Jb.eq (x_:dens Jb.ce.params):den Jb.G Tryd.f68 Jb.ce.params Jb.ce.res x_=Jb.ce.F x_:=by kernel_rfl
theorem Jb.p0:PcA Jb.G Tryd.f68 0:=
  jC (s:=Jb.c1r) (by kernel_rfl) (by kernel_rfl) (jH (sh:=Jb.c1s) (fun ρ x_ k_=>(jr ja ja)) (fun ρ x_ t k=>(by kernel_rfl)) (fun x_=>by kernel_rfl))
theorem Jb.ok:CalleeOk Tryd.prog 68 Jb.ce:=fn_ok (G:=Jb.G) Jm mixed Tryd.func68 ⟨Je,jW,jK,jV⟩ (m:=1) (by kernel_rfl) ⟨trivial,Jb.p0⟩ (by kernel_rfl) Jb.eq
def Jk.c1 {ρ:Type} (kind:Int) (k_:Bool→Option ρ):Option ρ:=
  br (kind == (2:Int))
   (k_ true)
   (br (kind == (3:Int))
     (k_ true)
     (k_ (kind == (4:Int))))
def Jk.c1s:Shape:=⟨[(0,ct2),(2,ct11)],[]⟩
def Jk.c1x0:Shape:=Jk.c1s
def Jk.c1r:Ck:=Ck.of (T:=Bool) Jk.c1s (fun ρ x_ k_=>Jk.c1 x_.1 k_) (fun ρ x_ r_ k_=>k_ 0 (Shape.inj Jk.c1x0 (x_.1,r_,())))
def Jk (kind:Int):Option Bool:=
  bnd (W.Jk.c1 kind some) fun y=>
  some y
def Jk.ce:Go.Ql.Callee:=⟨[(.int .i64)],[.bool],fun x_=>Jk x_⟩
def Jk.G:Env:=⟨13,tab,[],[0,2],[],[],[(1,Jk.c1r)],[],Jc,[]⟩
theorem Jk.eq (x_:dens Jk.ce.params):den Jk.G Tryd.f69 Jk.ce.params Jk.ce.res x_=Jk.ce.F x_:=by kernel_rfl
theorem Jk.p0:PcA Jk.G Tryd.f69 0:=
  jC (s:=Jk.c1r) (by kernel_rfl) (by kernel_rfl) (jH (sh:=Jk.c1s) (fun ρ x_ k_=>(jr ja (jr ja ja))) (fun ρ x_ t k=>(by kernel_rfl)) (fun x_=>by kernel_rfl))
theorem Jk.ok:CalleeOk Tryd.prog 69 Jk.ce:=fn_ok (G:=Jk.G) Jm mixed Tryd.func69 ⟨Je,jW,jK,jV⟩ (m:=1) (by kernel_rfl) ⟨trivial,Jk.p0⟩ (by kernel_rfl) Jk.eq
abbrev ct12:SD:=.one (.val (.st (.pair (.int .i64) (.pair (.int .i64) (.pair (.sl (.int .i64)) (.pair (.int .i64) (.pair (.int .i64) (.sl (.int .i64)))))))))
abbrev ct13:SD:=.one (.ref 1000100 0)
abbrev ct14:SO:=.box [.val (.int .i64),.val (.int .i64),.val (.sl (.int .i64)),.val (.int .i64),.val (.int .i64),.val (.sl (.int .i64))]
abbrev ct15:SD:=.one (.aptr 5 0)
abbrev ct16:SO:=.arr 0 false 96 .bool
def je.pre:Shape:=⟨[(0,ct12),(1,ct13)],[(1000100,ct8)]⟩
def je.post:Shape:=⟨[(0,ct2)],[(1000100,ct8)]⟩
def je.c1 {ρ:Type} (o0:Int) (k_:Bool→Option ρ):Option ρ:=
  br (decide (o0 < (1:Int)))
   (k_ true)
   (k_ (decide (o0 > (6:Int))))
def je.c1s:Shape:=⟨[(0,ct12),(1,ct13),(2,ct6),(4,ct2)],[(2,ct14),(1000100,ct8)]⟩
def je.c1x0:Shape:=⟨[(0,ct12),(1,ct13),(2,ct6),(4,ct2),(17,ct11)],[(2,ct14),(1000100,ct8)]⟩
def je.c1r:Ck:=Ck.of (T:=Bool) je.c1s (fun ρ x_ k_=>je.c1 x_.2.2.1 k_) (fun ρ x_ r_ k_=>k_ 0 (Shape.inj je.c1x0 (x_.1,x_.2.1,r_,x_.2.2)))
def je.c3 {ρ:Type} (o0:Int) (o1:Int) (k_:Bool→Option ρ):Option ρ:=
  br (decide (o1 < (0:Int)))
   (k_ true)
   (br (decide (o1 > (15:Int)))
     (k_ true)
     (bnd (W.Jb o0) fun y=>
      br (!y)
       (k_ (o1 != (0:Int)))
       (k_ false)))
def je.c3s:Shape:=je.c1s
def je.c3x0:Shape:=⟨[(0,ct12),(1,ct13),(2,ct6),(4,ct2),(36,ct11)],[(2,ct14),(1000100,ct8)]⟩
def je.c3r:Ck:=Ck.of (T:=Bool) je.c3s (fun ρ x_ k_=>je.c3 x_.2.2.1 x_.2.2.2.1 k_) (fun ρ x_ r_ k_=>k_ 0 (Shape.inj je.c3x0 (x_.1,x_.2.1,r_,x_.2.2)))
def je.c5 {ρ:Type} (o0:Int) (o3:Int) (t10001000:Int) (k_:Bool→Option ρ):Option ρ:=
  br (decide (o3 < (0:Int)))
   (k_ true)
   (br (decide (o3≥t10001000))
     (k_ true)
     (br (o0 == (1:Int))
       (k_ (o3 != (0:Int)))
       (k_ false)))
def je.c5s:Shape:=je.c1s
def je.c5x0:Shape:=⟨[(0,ct12),(1,ct13),(2,ct6),(4,ct2),(58,ct11)],[(2,ct14),(1000100,ct8)]⟩
def je.c5r:Ck:=Ck.of (T:=Bool) je.c5s (fun ρ x_ k_=>je.c5 x_.2.2.1 x_.2.2.2.2.2.1 x_.2.2.2.2.2.2.2.2.1 k_) (fun ρ x_ r_ k_=>k_ 0 (Shape.inj je.c5x0 (x_.1,x_.2.1,r_,x_.2.2)))
def je.c7 {ρ:Type} (o0:Int) (o2:List (Int)) (k_:Bool→Option ρ):Option ρ:=
  br (decide ((↑(List.length o2):Int) > (0:Int)))
   (bnd (W.Jk o0) fun y=>
    k_ (!y))
   (k_ false)
def je.c7s:Shape:=je.c1s
def je.c7x0:Shape:=⟨[(0,ct12),(1,ct13),(2,ct6),(4,ct2),(68,ct11)],[(2,ct14),(1000100,ct8)]⟩
def je.c7r:Ck:=Ck.of (T:=Bool) je.c7s (fun ρ x_ k_=>je.c7 x_.2.2.1 x_.2.2.2.2.1 k_) (fun ρ x_ r_ k_=>k_ 0 (Shape.inj je.c7x0 (x_.1,x_.2.1,r_,x_.2.2)))
def je.c14 {ρ:Type} (q:Int) (t10001000:Int) (k_:Bool→Option ρ):Option ρ:=
  br (decide (q < (0:Int)))
   (k_ true)
   (k_ (decide (q≥t10001000)))
def je.c14s:Shape:=⟨[(0,ct12),(1,ct13),(2,ct6),(4,ct2),(5,ct15),(7,ct2),(74,ct0),(75,ct2),(76,ct2)],[(2,ct14),(5,ct16),(1000100,ct8)]⟩
def je.c14x0:Shape:=⟨[(0,ct12),(1,ct13),(2,ct6),(4,ct2),(5,ct15),(7,ct2),(74,ct0),(75,ct2),(76,ct2),(80,ct11)],[(2,ct14),(5,ct16),(1000100,ct8)]⟩
def je.c14r:Ck:=Ck.of (T:=Bool) je.c14s (fun ρ x_ k_=>je.c14 x_.2.2.1 x_.2.2.2.2.2.2.2.2.2.2.2.2.2.1 k_) (fun ρ x_ r_ k_=>k_ 0 (Shape.inj je.c14x0 (x_.1,x_.2.1,x_.2.2.1,x_.2.2.2.1,x_.2.2.2.2.1,x_.2.2.2.2.2.1,r_,x_.2.2.2.2.2.2)))
def je.c100012 {ρ:Type} (t74:List (Int)) (t75:Int) (t76:Int) (seen:List Bool) (t10001000:Int) (k_:((Int)×(List Bool))⊕(((Int)×(Int)×(List Bool))⊕((Int)×(List Bool)))→Option ρ):Option ρ:=
  br (decide (t76 < t75))
   (bnd (idx t74 t76) fun y=>
    bnd (W.je.c14 y t10001000 some) fun y_1=>
    br y_1
     (k_ (.inr (.inl ((10:Int),t76,seen))))
     (bnd (okIf (decide ((0:Ty.den (Ty.int IntKind.i64))≤y) && decide (y < (↑(12:Nat):Int)))) fun y_2=>
      bnd (inR (List.length seen) y) fun y_3=>
      bnd (idx seen y) fun y_4=>
      br y_4
       (k_ (.inr (.inl ((12:Int),t76,seen))))
       (bnd (okIf (decide ((0:Ty.den (Ty.int IntKind.i64))≤y) && decide (y < (↑(12:Nat):Int)))) fun y_5=>
        bnd (inR (List.length seen) y) fun y_6=>
        bnd (idx seen y) fun y_7=>
        k_ (.inl ((IntKind.i64.wrap (t76+(1:Int))),(List.set seen (Int.toNat y) true))))))
   (k_ (.inr (.inr (t76,seen))))
def je.c100012s:Shape:=⟨[(0,ct12),(1,ct13),(2,ct6),(4,ct2),(5,ct15),(74,ct0),(75,ct2),(76,ct2)],[(2,ct14),(5,ct16),(1000100,ct8)]⟩
def je.c100012x0:Shape:=je.c100012s
def je.c100012x1:Shape:=je.c100012s
def je.c100012r:Ck:=Ck.ofLoop (S:=(Int)×(List Bool)) (T:=((Int)×(Int)×(List Bool))⊕((Int)×(List Bool))) je.c100012s (fun x_=>(x_.2.2.2.2.1,x_.2.2.2.2.2.2.2.2.2.2.2.1)) (fun ρ x_ s_ k_=>je.c100012 x_.2.2.1 x_.2.2.2.1 s_.1 s_.2 x_.2.2.2.2.2.2.2.2.2.2.2.2.1 k_) (fun ρ x_ r_ k_=>sel r_ (fun r_=>k_ 1 (Shape.inj je.c100012x0 (x_.1,r_.1,x_.2.2.1,x_.2.2.2.1,r_.2.1,x_.2.2.2.2.2.1,x_.2.2.2.2.2.2.1,x_.2.2.2.2.2.2.2.1,x_.2.2.2.2.2.2.2.2.1,x_.2.2.2.2.2.2.2.2.2.1,x_.2.2.2.2.2.2.2.2.2.2.1,r_.2.2,x_.2.2.2.2.2.2.2.2.2.2.2.2))) (fun r_=>k_ 2 (Shape.inj je.c100012x1 (x_.1,x_.2.1,x_.2.2.1,x_.2.2.2.1,r_.1,x_.2.2.2.2.2.1,x_.2.2.2.2.2.2.1,x_.2.2.2.2.2.2.2.1,x_.2.2.2.2.2.2.2.2.1,x_.2.2.2.2.2.2.2.2.2.1,x_.2.2.2.2.2.2.2.2.2.2.1,r_.2,x_.2.2.2.2.2.2.2.2.2.2.2.2))))
def je.c20 {ρ:Type} (o0:Int) (o4:Int) (t10001001:Int) (k_:Bool→Option ρ):Option ρ:=
  br (o0 == (5:Int))
   (br (decide (o4 < (0:Int)))
     (k_ true)
     (br (decide (o4≥t10001001))
       (k_ true)
       (br (o0 != (5:Int))
         (k_ (o4 != (0:Int)))
         (k_ false))))
   (br (o0 != (5:Int))
     (k_ (o4 != (0:Int)))
     (k_ false))
def je.c20s:Shape:=je.c100012s
def je.c20x0:Shape:=⟨[(0,ct12),(1,ct13),(2,ct6),(4,ct2),(5,ct15),(74,ct0),(75,ct2),(76,ct2),(124,ct11)],[(2,ct14),(5,ct16),(1000100,ct8)]⟩
def je.c20r:Ck:=Ck.of (T:=Bool) je.c20s (fun ρ x_ k_=>je.c20 x_.2.2.2.2.2.1 x_.2.2.2.2.2.2.2.2.2.1 x_.2.2.2.2.2.2.2.2.2.2.2.2.2.1 k_) (fun ρ x_ r_ k_=>k_ 0 (Shape.inj je.c20x0 (x_.1,x_.2.1,x_.2.2.1,x_.2.2.2.1,x_.2.2.2.2.1,r_,x_.2.2.2.2.2)))
def je.c27 {ρ:Type} (v:Int) (t10001001:Int) (k_:Bool→Option ρ):Option ρ:=
  br (v == (0:Int))
   (k_ true)
   (br (decide (v > t10001001))
     (k_ true)
     (k_ (decide (v < IntKind.i64.wrap ((0:Int) - t10001001)))))
def je.c27s:Shape:=⟨[(0,ct12),(1,ct13),(2,ct6),(4,ct2),(5,ct15),(9,ct2),(74,ct0),(75,ct2),(76,ct2),(130,ct0),(131,ct2),(132,ct2)],[(2,ct14),(5,ct16),(1000100,ct8)]⟩
def je.c27x0:Shape:=⟨[(0,ct12),(1,ct13),(2,ct6),(4,ct2),(5,ct15),(9,ct2),(74,ct0),(75,ct2),(76,ct2),(130,ct0),(131,ct2),(132,ct2),(154,ct11)],[(2,ct14),(5,ct16),(1000100,ct8)]⟩
def je.c27r:Ck:=Ck.of (T:=Bool) je.c27s (fun ρ x_ k_=>je.c27 x_.2.2.1 x_.2.2.2.2.2.2.2.2.2.2.2.2.2.2.2.2.2.1 k_) (fun ρ x_ r_ k_=>k_ 0 (Shape.inj je.c27x0 (x_.1,x_.2.1,x_.2.2.1,x_.2.2.2.1,x_.2.2.2.2.1,x_.2.2.2.2.2.1,x_.2.2.2.2.2.2.1,x_.2.2.2.2.2.2.2.1,x_.2.2.2.2.2.2.2.2.1,r_,x_.2.2.2.2.2.2.2.2.2)))
def je.c100025 {ρ:Type} (t130:List (Int)) (t131:Int) (t132:Int) (t10001001:Int) (k_:(Int)⊕((Int)⊕(Int))→Option ρ):Option ρ:=
  br (decide (t132 < t131))
   (bnd (idx t130 t132) fun y=>
    bnd (W.je.c27 y t10001001 some) fun y_1=>
    br y_1
     (k_ (.inr (.inl t132)))
     (k_ (.inl (IntKind.i64.wrap (t132+(1:Int))))))
   (k_ (.inr (.inr t132)))
def je.c100025s:Shape:=⟨[(0,ct12),(1,ct13),(2,ct6),(4,ct2),(5,ct15),(74,ct0),(75,ct2),(76,ct2),(130,ct0),(131,ct2),(132,ct2)],[(2,ct14),(5,ct16),(1000100,ct8)]⟩
def je.c100025x0:Shape:=je.c100025s
def je.c100025x1:Shape:=je.c100025s
def je.c100025r:Ck:=Ck.ofLoop (S:=Int) (T:=(Int)⊕(Int)) je.c100025s (fun x_=>x_.2.2.2.2.2.2.2.1) (fun ρ x_ s_ k_=>je.c100025 x_.2.2.2.2.2.1 x_.2.2.2.2.2.2.1 s_ x_.2.2.2.2.2.2.2.2.2.2.2.2.2.2.2.2.1 k_) (fun ρ x_ r_ k_=>sel r_ (fun r_=>k_ 1 (Shape.inj je.c100025x0 (x_.1,(14:Int),x_.2.2.1,x_.2.2.2.1,x_.2.2.2.2.1,x_.2.2.2.2.2.1,x_.2.2.2.2.2.2.1,r_,x_.2.2.2.2.2.2.2.2))) (fun r_=>k_ 5 (Shape.inj je.c100025x1 (x_.1,x_.2.1,x_.2.2.1,x_.2.2.2.1,x_.2.2.2.2.1,x_.2.2.2.2.2.1,x_.2.2.2.2.2.2.1,r_,x_.2.2.2.2.2.2.2.2))))
def je (o:(Int)×((Int)×((List Int)×((Int)×((Int)×(List Int)))))) (t10001000:Int) (t10001001:Int) (t10001002:List ((Int)×((Int)×((List Int)×((Int)×((Int)×(List Int))))))):Option ((Int)×(Int)×(Int)×(List ((Int)×((Int)×((List Int)×((Int)×((Int)×(List Int)))))))×Unit):=
  bnd (W.je.c1 o.1 some) fun y=>
  br y
   (some ((8:Int),t10001000,t10001001,t10001002,()))
   (bnd (W.je.c3 o.1 o.2.1 some) fun y_1=>
    br y_1
     (some ((9:Int),t10001000,t10001001,t10001002,()))
     (bnd (W.je.c5 o.1 o.2.2.2.1 t10001000 some) fun y_2=>
      br y_2
       (some ((10:Int),t10001000,t10001001,t10001002,()))
       (bnd (W.je.c7 o.1 o.2.2.1 some) fun y_3=>
        br y_3
         (some ((11:Int),t10001000,t10001001,t10001002,()))
         (bnd (okIf (decide ((0:Ty.den (Ty.int IntKind.i64))≤o.2.2.2.1) && decide (o.2.2.2.1 < (↑(12:Nat):Int)))) fun y_4=>
          bnd (inR (List.length (List.replicate (12:Nat) false)) o.2.2.2.1) fun y_5=>
          bnd (idx (List.replicate (12:Nat) false) o.2.2.2.1) fun y_6=>
          bnd (iter (fun s↦W.je.c100012 o.2.2.1 (↑(List.length o.2.2.1):Int) s.1 s.2 t10001000 some) ((0:Int),List.set (List.replicate (12:Nat) false) (Int.toNat o.2.2.2.1) true)) fun y_7=>
          sel y_7
           (fun u=>some (u.1,t10001000,t10001001,t10001002,()))
           (fun v=>bnd (W.je.c20 o.1 o.2.2.2.2.1 t10001001 some) fun y_8=>
            br y_8
             (some ((13:Int),t10001000,t10001001,t10001002,()))
             (br (decide ((↑(List.length o.2.2.2.2.2):Int) > (24:Int)))
               (some ((14:Int),t10001000,t10001001,t10001002,()))
               (bnd (iter (fun s↦W.je.c100025 o.2.2.2.2.2 (↑(List.length o.2.2.2.2.2):Int) s t10001001 some) (0:Int)) fun y_9=>
                sel y_9
                 (fun u_1=>some ((14:Int),t10001000,t10001001,t10001002,()))
                 (fun v_1=>some ((0:Int),t10001000,t10001001,t10001002,())))))))))
def je.mc:MCallee:=⟨41,je.pre,je.post,fun x_=>je x_.1 x_.2.1 x_.2.2.1 x_.2.2.2.1⟩
def je.G:Env:=⟨156,tab,[(68,Jb.ce),(69,Jk.ce)],[0,1,2,4,5,7,9,17,36,58,68,74,75,76,77,80,91,124,128,130,131,132,133,154],[5,69],[(20,[⟨[],[],[],[]⟩,⟨[0],[],[],[]⟩,⟨[1,0],[],[],[]⟩,⟨[2,1,0],[],[],[]⟩,⟨[3,2,1,0],[],[],[]⟩,⟨[4,3,2,1,0],[],[],[]⟩,⟨[5,4,3,2,1,0],[],[],[]⟩,⟨[6,5,4,3,2,1,0],[],[],[]⟩,⟨[7,6,5,4,3,2,1,0],[],[108,109,110,111],[]⟩,⟨[8,7,6,5,4,3,2,1,0],[],[108,109,110,111],[]⟩,⟨[7,6,5,4,3,2,1,0],[],[106,107],[]⟩,⟨[10,7,6,5,4,3,2,1,0],[],[106,107],[]⟩,⟨[11,10,7,6,5,4,3,2,1,0],[],[106,107],[]⟩,⟨[12,11,10,7,6,5,4,3,2,1,0],[],[106,107],[]⟩,⟨[9,8,7,6,5,4,3,2,1,0,13,12,11,10],[],[],[]⟩,⟨[7,6,5,4,3,2,1,0,14,9,8,13,12,11,10],[],[],[]⟩,⟨[3,2,1,0,15,7,6,5,4,14,9,8,13,12,11,10],[],[],[]⟩,⟨[16,3,2,1,0,15,7,6,5,4,14,9,8,13,12,11,10],[],[],[]⟩,⟨[17,16,3,2,1,0,15,7,6,5,4,14,9,8,13,12,11,10],[],[],[]⟩,⟨[18,17,16,3,2,1,0,15,7,6,5,4,14,9,8,13,12,11,10],[],[],[]⟩,⟨[19,18,17,16,3,2,1,0,15,7,6,5,4,14,9,8,13,12,11,10],[],[],[]⟩,⟨[20,19,18,17,16,3,2,1,0,15,7,6,5,4,14,9,8,13,12,11,10],[],[],[]⟩,⟨[21,20,19,18,17,16,3,2,1,0,15,7,6,5,4,14,9,8,13,12,11,10],[],[],[]⟩,⟨[22,21,20,19,18,17,16,3,2,1,0,15,7,6,5,4,14,9,8,13,12,11,10],[],[],[]⟩,⟨[23,22,21,20,19,18,17,16,3,2,1,0,15,7,6,5,4,14,9,8,13,12,11,10],[],[],[]⟩,⟨[21,20,19,18,17,16,3,2,1,0,15,7,6,5,4,14,9,8,13,12,11,10,24,23,22],[],[],[]⟩,⟨[17,16,3,2,1,0,15,7,6,5,4,14,9,8,13,12,11,10,25,21,20,19,18,24,23,22],[],[],[]⟩]),
  (5,[⟨[],[],[],[]⟩,⟨[0],[],[],[]⟩,⟨[1,0],[],[],[]⟩,⟨[2,1,0],[],[],[]⟩,⟨[3,2,1,0],[],[43,44,45,46],[]⟩,⟨[4,3,2,1,0],[],[43,44,45,46],[]⟩,⟨[3,2,1,0],[],[41,42],[]⟩,⟨[6,3,2,1,0],[],[41,42],[]⟩,⟨[7,6,3,2,1,0],[],[41,42],[]⟩,⟨[8,7,6,3,2,1,0],[],[41,42],[]⟩,⟨[5,4,3,2,1,0,9,8,7,6],[],[],[]⟩,⟨[3,2,1,0,10,5,4,9,8,7,6],[],[],[]⟩,⟨[11,3,2,1,0,10,5,4,9,8,7,6],[],[],[]⟩,⟨[12,11,3,2,1,0,10,5,4,9,8,7,6],[],[],[]⟩,⟨[13,12,11,3,2,1,0,10,5,4,9,8,7,6],[],[],[]⟩,⟨[14,13,12,11,3,2,1,0,10,5,4,9,8,7,6],[],[],[]⟩,⟨[15,14,13,12,11,3,2,1,0,10,5,4,9,8,7,6],[],[],[]⟩,⟨[16,15,14,13,12,11,3,2,1,0,10,5,4,9,8,7,6],[],[],[]⟩,⟨[17,16,15,14,13,12,11,3,2,1,0,10,5,4,9,8,7,6],[],[],[]⟩,⟨[18,17,16,15,14,13,12,11,3,2,1,0,10,5,4,9,8,7,6],[],[],[]⟩,⟨[16,15,14,13,12,11,3,2,1,0,10,5,4,9,8,7,6,19,18,17],[],[],[]⟩,⟨[12,11,3,2,1,0,10,5,4,9,8,7,6,20,16,15,14,13,19,18,17],[],[],[]⟩])],[(100025,je.c100025r),(27,je.c27r),(20,je.c20r),(100012,je.c100012r),(14,je.c14r),(7,je.c7r),(5,je.c5r),(3,je.c3r),(1,je.c1r)],[],Jc,[]⟩
theorem je.eq (x_:densU je.mc.pre.tys):denM je.G Tryd.f41 je.mc.pre je.mc.post x_=je.mc.F x_:=by kernel_rfl
theorem je.p0:PcA je.G Tryd.f41 0:=
  jC (s:=je.c1r) (by kernel_rfl) (by kernel_rfl) (jH (sh:=je.c1s) (fun ρ x_ k_=>(jr ja ja)) (fun ρ x_ t k=>(by kernel_rfl)) (fun x_=>by kernel_rfl))
theorem je.p1:PcA je.G Tryd.f41 1:=
  jC (s:=je.c3r) (by kernel_rfl) (by kernel_rfl) (jH (sh:=je.c3s) (fun ρ x_ k_=>(jr ja (jr ja (jf fun _=>(jr ja ja))))) (fun ρ x_ t k=>(by kernel_rfl)) (fun x_=>by kernel_rfl))
theorem je.p2:PcA je.G Tryd.f41 2:=
  jC (s:=je.c5r) (by kernel_rfl) (by kernel_rfl) (jH (sh:=je.c5s) (fun ρ x_ k_=>(jr ja (jr ja (jr ja ja)))) (fun ρ x_ t k=>(by kernel_rfl)) (fun x_=>by kernel_rfl))
theorem je.p3:PcA je.G Tryd.f41 3:=
  jC (s:=je.c7r) (by kernel_rfl) (by kernel_rfl) (jH (sh:=je.c7s) (fun ρ x_ k_=>(jr (jf fun _=>ja) ja)) (fun ρ x_ t k=>(by kernel_rfl)) (fun x_=>by kernel_rfl))
theorem je.p4:PcA je.G Tryd.f41 4:=
  JD (s:=je.c100012r) (by kernel_rfl) (by kernel_rfl) (Ju (sh:=je.c100012s) (I:=fun x_ s_=>(x_.1,x_.2.1,x_.2.2.1,x_.2.2.2.1,s_.1,x_.2.2.2.2.2.1,x_.2.2.2.2.2.2.1,x_.2.2.2.2.2.2.2.1,x_.2.2.2.2.2.2.2.2.1,x_.2.2.2.2.2.2.2.2.2.1,x_.2.2.2.2.2.2.2.2.2.2.1,s_.2,x_.2.2.2.2.2.2.2.2.2.2.2.2)) (fun x_=>rfl) (fun ρ x_ s_ k_=>(jr (jf fun _=>(jf fun _=>(jr ja (jf fun _=>(jf fun _=>(jf fun _=>(jr ja (jf fun _=>(jf fun _=>(jf fun _=>ja)))))))))) ja)) (fun ρ x_ t k=>(ki (fun _=>(by kernel_rfl)) (fun _=>(by kernel_rfl)))) (fun x_ s=>by kernel_rfl))
theorem je.p5:PcA je.G Tryd.f41 5:=
  jC (s:=je.c14r) (by kernel_rfl) (by kernel_rfl) (jH (sh:=je.c14s) (fun ρ x_ k_=>(jr ja ja)) (fun ρ x_ t k=>(by kernel_rfl)) (fun x_=>by kernel_rfl))
theorem je.p6:PcA je.G Tryd.f41 6:=
  jC (s:=je.c20r) (by kernel_rfl) (by kernel_rfl) (jH (sh:=je.c20s) (fun ρ x_ k_=>(jr (jr ja (jr ja (jr ja ja))) (jr ja ja))) (fun ρ x_ t k=>(by kernel_rfl)) (fun x_=>by kernel_rfl))
theorem je.p7:PcA je.G Tryd.f41 7:=
  JD (s:=je.c100025r) (by kernel_rfl) (by kernel_rfl) (Ju (sh:=je.c100025s) (I:=fun x_ s_=>(x_.1,x_.2.1,x_.2.2.1,x_.2.2.2.1,x_.2.2.2.2.1,x_.2.2.2.2.2.1,x_.2.2.2.2.2.2.1,s_,x_.2.2.2.2.2.2.2.2)) (fun x_=>rfl) (fun ρ x_ s_ k_=>(jr (jf fun _=>(jf fun _=>(jr ja ja))) ja)) (fun ρ x_ t k=>(ki (fun _=>(by kernel_rfl)) (fun _=>(by kernel_rfl)))) (fun x_ s=>by kernel_rfl))
theorem je.p8:PcA je.G Tryd.f41 8:=
  jC (s:=je.c27r) (by kernel_rfl) (by kernel_rfl) (jH (sh:=je.c27s) (fun ρ x_ k_=>(jr ja (jr ja ja))) (fun ρ x_ t k=>(by kernel_rfl)) (fun x_=>by kernel_rfl))
theorem je.ok:MOk Tryd.prog 41 je.mc:=kW (G:=je.G) Jm mixed Tryd.func41 ⟨(jL Jb.ok (jL Jk.ok Je)),jW,jK,jV⟩ (m:=9) (by kernel_rfl) ⟨⟨⟨⟨⟨⟨⟨⟨⟨trivial,je.p0⟩,je.p1⟩,je.p2⟩,je.p3⟩,je.p4⟩,je.p5⟩,je.p6⟩,je.p7⟩,je.p8⟩ (by kernel_rfl) je.eq
abbrev ct17:SO:=.box [.val (.int .i64),.val (.int .i64)]
abbrev ct18:SD:=.one (.val (.sl (.st (.pair (.int .i64) (.pair (.int .i64) (.pair (.sl (.int .i64)) (.pair (.int .i64) (.pair (.int .i64) (.sl (.int .i64))))))))))
def jt.c1 {ρ:Type} (c0:Int) (k_:Bool→Option ρ):Option ρ:=
  br (decide (c0 < (1:Int)))
   (k_ true)
   (k_ (decide (c0 > (12:Int))))
def jt.c1s:Shape:=⟨[(0,ct4),(1,ct5),(2,ct6)],[(1,ct8),(2,ct17)]⟩
def jt.c1x0:Shape:=⟨[(0,ct4),(1,ct5),(2,ct6),(6,ct11)],[(1,ct8),(2,ct17)]⟩
def jt.c1r:Ck:=Ck.of (T:=Bool) jt.c1s (fun ρ x_ k_=>jt.c1 x_.2.1 k_) (fun ρ x_ r_ k_=>k_ 0 (Shape.inj jt.c1x0 (x_.1,r_,x_.2)))
def jt.c3 {ρ:Type} (c1:Int) (k_:Bool→Option ρ):Option ρ:=
  br (decide (c1 < (0:Int)))
   (k_ true)
   (k_ (decide (c1 > (12:Int))))
def jt.c3s:Shape:=jt.c1s
def jt.c3x0:Shape:=⟨[(0,ct4),(1,ct5),(2,ct6),(16,ct11)],[(1,ct8),(2,ct17)]⟩
def jt.c3r:Ck:=Ck.of (T:=Bool) jt.c3s (fun ρ x_ k_=>jt.c3 x_.2.2.1 k_) (fun ρ x_ r_ k_=>k_ 0 (Shape.inj jt.c3x0 (x_.1,r_,x_.2)))
def jt.c100008 {ρ:Type} (t33:List ((Int)×((Int)×((List Int)×((Int)×((Int)×(List Int))))))) (t34:Int) (t35:Int) (c0:Int) (c1:Int) (c2:List ((Int)×((Int)×((List Int)×((Int)×((Int)×(List Int))))))) (k_:((Int)×(Int)×(Int)×(List ((Int)×((Int)×((List Int)×((Int)×((Int)×(List Int))))))))⊕(((Int)×(Int)×(Int)×(List ((Int)×((Int)×((List Int)×((Int)×((Int)×(List Int)))))))×(Int)×(Int))⊕((Int)×(Int)×(Int)×(List ((Int)×((Int)×((List Int)×((Int)×((Int)×(List Int)))))))))→Option ρ):Option ρ:=
  br (decide (t35 < t34))
   (bnd (idx t33 t35) fun y=>
    bnd (W.je (y.1,y.2.1,y.2.2.1,y.2.2.2.1,y.2.2.2.2.1,y.2.2.2.2.2) c0 c1 c2) fun y_1=>
    br (y_1.1 != (0:Int))
     (bnd (W.Ji y_1.1 t35) fun y_2=>
      k_ (.inr (.inl (t35,y_1.2.1,y_1.2.2.1,y_1.2.2.2.1,y_2.1,y_2.2))))
     (k_ (.inl ((IntKind.i64.wrap (t35+(1:Int))),y_1.2.1,y_1.2.2.1,y_1.2.2.2.1))))
   (k_ (.inr (.inr (t35,c0,c1,c2))))
def jt.c100008s:Shape:=⟨[(0,ct4),(1,ct5),(2,ct6),(33,ct18),(34,ct2),(35,ct2)],[(1,ct8),(2,ct17)]⟩
def jt.c100008x0:Shape:=jt.c100008s
def jt.c100008x1:Shape:=jt.c100008s
def jt.c100008r:Ck:=Ck.ofLoop (S:=(Int)×(Int)×(Int)×(List ((Int)×((Int)×((List Int)×((Int)×((Int)×(List Int)))))))) (T:=((Int)×(Int)×(Int)×(List ((Int)×((Int)×((List Int)×((Int)×((Int)×(List Int)))))))×(Int)×(Int))⊕((Int)×(Int)×(Int)×(List ((Int)×((Int)×((List Int)×((Int)×((Int)×(List Int))))))))) jt.c100008s (fun x_=>(x_.2.2.2.1,x_.2.2.2.2.1,x_.2.2.2.2.2.1,x_.2.2.2.2.2.2.1)) (fun ρ x_ s_ k_=>jt.c100008 x_.2.1 x_.2.2.1 s_.1 s_.2.1 s_.2.2.1 s_.2.2.2 k_) (fun ρ x_ r_ k_=>sel r_ (fun r_=>k_ 1 (Shape.inj jt.c100008x0 (x_.1,x_.2.1,x_.2.2.1,r_.1,r_.2.1,r_.2.2.1,r_.2.2.2.1,r_.2.2.2.2.1,r_.2.2.2.2.2,()))) (fun r_=>k_ 3 (Shape.inj jt.c100008x1 (x_.1,x_.2.1,x_.2.2.1,r_.1,r_.2.1,r_.2.2.1,r_.2.2.2,x_.2.2.2.2.2.2.2))))
def jt (c:(Int)×((Int)×(List ((Int)×((Int)×((List Int)×((Int)×((Int)×(List Int))))))))):Option ((Int)×(Int)):=
  bnd (W.jt.c1 c.1 some) fun y=>
  br y
   (bnd (W.Ji (6:Int) (0:Int)) fun y_1=>
    some (y_1.1,y_1.2))
   (bnd (W.jt.c3 c.2.1 some) fun y_2=>
    br y_2
     (bnd (W.Ji (7:Int) (0:Int)) fun y_3=>
      some (y_3.1,y_3.2))
     (br (decide ((↑(List.length c.2.2):Int) > (4096:Int)))
       (bnd (W.Ji (2:Int) (0:Int)) fun y_4=>
        some (y_4.1,y_4.2))
       (bnd (iter (fun s↦W.jt.c100008 c.2.2 (↑(List.length c.2.2):Int) s.1 s.2.1 s.2.2.1 s.2.2.2 some) ((0:Int),c.1,c.2.1,c.2.2)) fun y_5=>
        sel y_5
         (fun u=>some (u.2.2.2.2.1,u.2.2.2.2.2))
         (fun v=>some ((0:Int),(0:Int))))))
def jt.ce:Go.Ql.Callee:=⟨[(.st (.pair (.int .i64) (.pair (.int .i64) (.sl (.st (.pair (.int .i64) (.pair (.int .i64) (.pair (.sl (.int .i64)) (.pair (.int .i64) (.pair (.int .i64) (.sl (.int .i64))))))))))))],[(.st (.pair (.int .i64) (.int .i64)))],fun x_=>jt x_⟩
def jt.G:Env:=⟨49,tab,[(40,Ji.ce)],[0,1,2,3,4,5,6,16,26,33,34,35,36,43],[],[],[(100008,jt.c100008r),(3,jt.c3r),(1,jt.c1r)],[(41,je.mc)],Jc,[]⟩
theorem jt.eq (x_:dens jt.ce.params):den jt.G Tryd.f14 jt.ce.params jt.ce.res x_=jt.ce.F x_:=by kernel_rfl
theorem jt.p0:PcA jt.G Tryd.f14 0:=
  jC (s:=jt.c1r) (by kernel_rfl) (by kernel_rfl) (jH (sh:=jt.c1s) (fun ρ x_ k_=>(jr ja ja)) (fun ρ x_ t k=>(by kernel_rfl)) (fun x_=>by kernel_rfl))
theorem jt.p1:PcA jt.G Tryd.f14 1:=
  jC (s:=jt.c3r) (by kernel_rfl) (by kernel_rfl) (jH (sh:=jt.c3s) (fun ρ x_ k_=>(jr ja ja)) (fun ρ x_ t k=>(by kernel_rfl)) (fun x_=>by kernel_rfl))
theorem jt.p2:PcA jt.G Tryd.f14 2:=
  JD (s:=jt.c100008r) (by kernel_rfl) (by kernel_rfl) (Ju (sh:=jt.c100008s) (I:=fun x_ s_=>(x_.1,x_.2.1,x_.2.2.1,s_.1,s_.2.1,s_.2.2.1,s_.2.2.2,x_.2.2.2.2.2.2.2)) (fun x_=>rfl) (fun ρ x_ s_ k_=>(jr (jf fun _=>(jf fun _=>(jr (jf fun _=>ja) ja))) ja)) (fun ρ x_ t k=>(ki (fun _=>(by kernel_rfl)) (fun _=>(by kernel_rfl)))) (fun x_ s=>by kernel_rfl))
theorem jt.ok:CalleeOk Tryd.prog 14 jt.ce:=fn_ok (G:=jt.G) Jm mixed Tryd.func14 ⟨(jL Ji.ok Je),(JG je.ok jW),jK,jV⟩ (m:=3) (by kernel_rfl) ⟨⟨⟨trivial,jt.p0⟩,jt.p1⟩,jt.p2⟩ (by kernel_rfl) jt.eq
abbrev ct19:SD:=.one (.ref 5 0)
def jJ.c7 {ρ:Type} (o0:Int) (o5:List (Int)) (k_:Bool→Option ρ):Option ρ:=
  br (o0 == (5:Int))
   (k_ true)
   (br (o0 == (6:Int))
     (k_ true)
     (k_ (decide ((↑(List.length o5):Int) > (0:Int)))))
def jJ.c7s:Shape:=⟨[(0,ct4),(1,ct5),(2,ct6),(3,ct7),(4,ct2),(5,ct19),(13,ct18),(14,ct2),(15,ct2)],[(1,ct8),(2,ct17),(3,ct17),(5,ct14)]⟩
def jJ.c7x0:Shape:=⟨[(0,ct4),(1,ct5),(2,ct6),(3,ct7),(4,ct2),(5,ct19),(13,ct18),(14,ct2),(15,ct2),(33,ct11)],[(1,ct8),(2,ct17),(3,ct17),(5,ct14)]⟩
def jJ.c7r:Ck:=Ck.of (T:=Bool) jJ.c7s (fun ρ x_ k_=>jJ.c7 x_.2.2.2.2.2.2.2.2.2.2.2.2.1 x_.2.2.2.2.2.2.2.2.2.2.2.2.2.2.2.2.2.1 k_) (fun ρ x_ r_ k_=>k_ 0 (Shape.inj jJ.c7x0 (x_.1,x_.2.1,x_.2.2.1,x_.2.2.2.1,x_.2.2.2.2.1,r_,x_.2.2.2.2.2)))
def jJ.c100005 {ρ:Type} (t13:List ((Int)×((Int)×((List Int)×((Int)×((Int)×(List Int))))))) (t14:Int) (t15:Int) (k_:(Int)⊕(((Int)×(Int)×(Int))⊕(Int))→Option ρ):Option ρ:=
  br (decide (t15 < t14))
   (bnd (idx t13 t15) fun y=>
    bnd (W.jJ.c7 y.1 y.2.2.2.2.2 some) fun y_1=>
    br y_1
     (bnd (W.Ji (15:Int) t15) fun y_2=>
      k_ (.inr (.inl (t15,y_2.1,y_2.2))))
     (k_ (.inl (IntKind.i64.wrap (t15+(1:Int))))))
   (k_ (.inr (.inr t15)))
def jJ.c100005s:Shape:=⟨[(0,ct4),(1,ct5),(2,ct6),(3,ct7),(13,ct18),(14,ct2),(15,ct2)],[(1,ct8),(2,ct17),(3,ct17)]⟩
def jJ.c100005x0:Shape:=jJ.c100005s
def jJ.c100005x1:Shape:=jJ.c100005s
def jJ.c100005r:Ck:=Ck.ofLoop (S:=Int) (T:=((Int)×(Int)×(Int))⊕(Int)) jJ.c100005s (fun x_=>x_.2.2.2.1) (fun ρ x_ s_ k_=>jJ.c100005 x_.2.1 x_.2.2.1 s_ k_) (fun ρ x_ r_ k_=>sel r_ (fun r_=>k_ 1 (Shape.inj jJ.c100005x0 (x_.1,x_.2.1,x_.2.2.1,r_.1,x_.2.2.2.2.1,x_.2.2.2.2.2.1,x_.2.2.2.2.2.2.1,r_.2.1,r_.2.2,x_.2.2.2.2.2.2.2.2.2))) (fun r_=>k_ 2 (Shape.inj jJ.c100005x1 (x_.1,x_.2.1,x_.2.2.1,r_,x_.2.2.2.2))))
def jJ (c:(Int)×((Int)×(List ((Int)×((Int)×((List Int)×((Int)×((Int)×(List Int))))))))):Option ((Int)×(Int)):=
  bnd (W.jt (c.1,c.2.1,c.2.2)) fun y=>
  br (y.1 != (0:Int))
   (some (y.1,y.2))
   (bnd (iter (fun s↦W.jJ.c100005 c.2.2 (↑(List.length c.2.2):Int) s some) (0:Int)) fun y_1=>
    sel y_1
     (fun u=>some (u.2.1,u.2.2))
     (fun v=>some ((0:Int),(0:Int))))
def jJ.ce:Go.Ql.Callee:=⟨[(.st (.pair (.int .i64) (.pair (.int .i64) (.sl (.st (.pair (.int .i64) (.pair (.int .i64) (.pair (.sl (.int .i64)) (.pair (.int .i64) (.pair (.int .i64) (.sl (.int .i64))))))))))))],[(.st (.pair (.int .i64) (.int .i64)))],fun x_=>jJ x_⟩
def jJ.G:Env:=⟨38,tab,[(14,jt.ce),(40,Ji.ce)],[0,1,2,3,4,5,10,13,14,15,16,33],[],[],[(100005,jJ.c100005r),(7,jJ.c7r)],[],Jc,[]⟩
theorem jJ.eq (x_:dens jJ.ce.params):den jJ.G Tryd.f44 jJ.ce.params jJ.ce.res x_=jJ.ce.F x_:=by kernel_rfl
theorem jJ.p0:PcA jJ.G Tryd.f44 0:=
  JD (s:=jJ.c100005r) (by kernel_rfl) (by kernel_rfl) (Ju (sh:=jJ.c100005s) (I:=fun x_ s_=>(x_.1,x_.2.1,x_.2.2.1,s_,x_.2.2.2.2)) (fun x_=>rfl) (fun ρ x_ s_ k_=>(jr (jf fun _=>(jf fun _=>(jr (jf fun _=>ja) ja))) ja)) (fun ρ x_ t k=>(ki (fun _=>(by kernel_rfl)) (fun _=>(by kernel_rfl)))) (fun x_ s=>by kernel_rfl))
theorem jJ.p1:PcA jJ.G Tryd.f44 1:=
  jC (s:=jJ.c7r) (by kernel_rfl) (by kernel_rfl) (jH (sh:=jJ.c7s) (fun ρ x_ k_=>(jr ja (jr ja ja))) (fun ρ x_ t k=>(by kernel_rfl)) (fun x_=>by kernel_rfl))
theorem jJ.ok:CalleeOk Tryd.prog 44 jJ.ce:=fn_ok (G:=jJ.G) Jm mixed Tryd.func44 ⟨(jL jt.ok (jL Ji.ok Je)),jW,jK,jV⟩ (m:=2) (by kernel_rfl) ⟨⟨trivial,jJ.p0⟩,jJ.p1⟩ (by kernel_rfl) jJ.eq
abbrev ct20:SD:=.one (.own 0 0)
def jN.pre:Shape:=⟨[(0,ct0)],[]⟩
def jN.post:Shape:=⟨[(0,ct20)],[(0,ct3)]⟩
def jN (s:List (Int)):Option ((List Int)×Unit):=
  br (List.isEmpty s)
   (both
     (some ([],()))
     (bnd (okIf (decide (((0:Nat)+List.length s)*(8:Nat)≤(140737488355328:Nat)) && decide ((0:Nat)+List.length s≤(140737488355328:Nat)))) fun y=>
      some (s,())))
   (bnd (okIf (decide (((0:Nat)+List.length s)*(8:Nat)≤(140737488355328:Nat)) && decide ((0:Nat)+List.length s≤(140737488355328:Nat)))) fun y_1=>
    some (s,()))
def jN.mc:MCallee:=⟨70,jN.pre,jN.post,fun x_=>jN x_.1⟩
def jN.G:Env:=⟨8,tab,[],[0,2,4],[2,5],[],[],[],Jc,[]⟩
theorem jN.eq (x_:densU jN.mc.pre.tys):denM jN.G Tryd.f70 jN.mc.pre jN.mc.post x_=jN.mc.F x_:=by kernel_rfl
theorem jN.ok:MOk Tryd.prog 70 jN.mc:=kW (G:=jN.G) Jm mixed Tryd.func70 ⟨Je,jW,jK,jV⟩ (m:=0) (by kernel_rfl) trivial (by kernel_rfl) jN.eq
def jT.c1 {ρ:Type} (o2:List (Int)) (o5:List (Int)) (k_:(List Int)×(List Int)→Option ρ):Option ρ:=
  bnd (W.jN o2) fun y=>
  bnd (W.jN o5) fun y_1=>
  k_ (y.1,y_1.1)
def jT.c1s:Shape:=⟨[(0,ct12),(1,ct5),(2,ct6)],[(1,ct14),(2,ct14)]⟩
def jT.c1x0:Shape:=jT.c1s
def jT.c1r:Ck:=Ck.of (T:=(List Int)×(List Int)) jT.c1s (fun ρ x_ k_=>jT.c1 x_.2.2.2.1 x_.2.2.2.2.2.2.1 k_) (fun ρ x_ r_ k_=>k_ 0 (Shape.inj jT.c1x0 (x_.1,x_.2.1,x_.2.2.1,r_.1,x_.2.2.2.2.1,x_.2.2.2.2.2.1,r_.2,x_.2.2.2.2.2.2.2)))
def jT (o:(Int)×((Int)×((List Int)×((Int)×((Int)×(List Int)))))):Option ((Int)×((Int)×((List Int)×((Int)×((Int)×(List Int)))))):=
  bnd (W.jT.c1 o.2.2.1 o.2.2.2.2.2 some) fun y=>
  some (o.1,o.2.1,y.1,o.2.2.2.1,o.2.2.2.2.1,y.2)
def jT.ce:Go.Ql.Callee:=⟨[(.st (.pair (.int .i64) (.pair (.int .i64) (.pair (.sl (.int .i64)) (.pair (.int .i64) (.pair (.int .i64) (.sl (.int .i64))))))))],[(.st (.pair (.int .i64) (.pair (.int .i64) (.pair (.sl (.int .i64)) (.pair (.int .i64) (.pair (.int .i64) (.sl (.int .i64))))))))],fun x_=>jT x_⟩
def jT.G:Env:=⟨12,tab,[],[0,1,2],[],[(1,[⟨[],[],[6,7],[]⟩,⟨[0],[],[6,7],[]⟩,⟨[1,0],[5],[6,7],[]⟩,⟨[],[],[3,4,5],[5]⟩,⟨[3],[],[3,4,5],[5]⟩,⟨[4,3,2,1,0],[8],[9],[]⟩,⟨[0,1,2,3,4],[],[8],[8]⟩,⟨[6,0,1,2,3,4,5],[1],[],[]⟩,⟨[0,1,2,3,4,5,6,7],[],[],[]⟩,⟨[8,0,1,2,3,4,5,6,7],[1],[],[]⟩])],[(1,jT.c1r)],[(70,jN.mc)],Jc,[]⟩
theorem jT.eq (x_:dens jT.ce.params):den jT.G Tryd.f45 jT.ce.params jT.ce.res x_=jT.ce.F x_:=by kernel_rfl
theorem jT.p0:PcA jT.G Tryd.f45 0:=
  jC (s:=jT.c1r) (by kernel_rfl) (by kernel_rfl) (jH (sh:=jT.c1s) (fun ρ x_ k_=>(jf fun _=>(jf fun _=>ja))) (fun ρ x_ t k=>(by kernel_rfl)) (fun x_=>by kernel_rfl))
theorem jT.ok:CalleeOk Tryd.prog 45 jT.ce:=fn_ok (G:=jT.G) Jm mixed Tryd.func45 ⟨Je,(JG jN.ok jW),jK,jV⟩ (m:=1) (by kernel_rfl) ⟨trivial,jT.p0⟩ (by kernel_rfl) jT.eq
def Js (o:(Int)×((Int)×((List Int)×((Int)×((Int)×(List Int)))))):Option ((Int)×((Int)×((List Int)×((Int)×((Int)×(List Int)))))):=
  some (o.1,Int.tmod (IntKind.i64.wrap ((16:Int) - o.2.1)) (16:Int),o.2.2.1,o.2.2.2.1,o.2.2.2.2.1,o.2.2.2.2.2)
def Js.ce:Go.Ql.Callee:=⟨[(.st (.pair (.int .i64) (.pair (.int .i64) (.pair (.sl (.int .i64)) (.pair (.int .i64) (.pair (.int .i64) (.sl (.int .i64))))))))],[(.st (.pair (.int .i64) (.pair (.int .i64) (.pair (.sl (.int .i64)) (.pair (.int .i64) (.pair (.int .i64) (.sl (.int .i64))))))))],fun x_=>Js x_⟩
def Js.G:Env:=⟨9,tab,[],[0,1,2],[],[],[],[],Jc,[]⟩
theorem Js.eq (x_:dens Js.ce.params):den Js.G Tryd.f48 Js.ce.params Js.ce.res x_=Js.ce.F x_:=by kernel_rfl
theorem Js.ok:CalleeOk Tryd.prog 48 Js.ce:=fn_ok (G:=Js.G) Jm mixed Tryd.func48 ⟨Je,jW,jK,jV⟩ (m:=0) (by kernel_rfl) trivial (by kernel_rfl) Js.eq
abbrev ct21:SD:=.one (.fn 48)
abbrev ct22:SD:=.agg [.val (.int .i64),.val (.int .i64),.own 2 0]
abbrev ct23:SD:=.one (.ref 4 0)
abbrev ct24:SD:=.one (.ref 7 0)
abbrev ct25:SO:=.box [.val (.int .i64),.val (.int .i64),.own 3004 0]
abbrev ct26:SO:=.box [.val (.int .i64),.val (.int .i64),.own 3005 0]
def jv.pre:Shape:=⟨[(0,ct4),(1,ct21)],[]⟩
def jv.post:Shape:=⟨[(0,ct22)],[(2,ct10)]⟩
def jv.c5 {ρ:Type} (o0:Int) (o1:Int) (o2:List (Int)) (o3:Int) (o4:Int) (o5:List (Int)) (t3005:List ((Int)×((Int)×((List Int)×((Int)×((Int)×(List Int))))))) (k_:List ((Int)×((Int)×((List Int)×((Int)×((Int)×(List Int))))))→Option ρ):Option ρ:=
  bnd (W.jT (o0,o1,o2,o3,o4,o5)) fun y=>
  bnd (W.Js y) fun y_1=>
  bnd (okIf (decide ((List.length t3005+(1:Nat))*(80:Nat)≤(140737488355328:Nat)) && decide (List.length t3005+(1:Nat)≤(140737488355328:Nat)))) fun y_2=>
  k_ (t3005++[y_1])
def jv.c5s:Shape:=⟨[(0,ct4),(1,ct21),(2,ct6),(4,ct23),(5,ct19),(7,ct24),(14,ct18),(15,ct2),(16,ct2)],[(2,ct8),(4,ct25),(5,ct26),(7,ct14),(3004,ct10),(3005,ct10)]⟩
def jv.c5x0:Shape:=jv.c5s
def jv.c5r:Ck:=Ck.of (T:=List ((Int)×((Int)×((List Int)×((Int)×((Int)×(List Int))))))) jv.c5s (fun ρ x_ k_=>jv.c5 x_.2.2.2.2.2.2.2.2.2.2.2.1 x_.2.2.2.2.2.2.2.2.2.2.2.2.1 x_.2.2.2.2.2.2.2.2.2.2.2.2.2.1 x_.2.2.2.2.2.2.2.2.2.2.2.2.2.2.1 x_.2.2.2.2.2.2.2.2.2.2.2.2.2.2.2.1 x_.2.2.2.2.2.2.2.2.2.2.2.2.2.2.2.2.1 x_.2.2.2.2.2.2.2.2.2.2.2.2.2.2.2.2.2.2.1 k_) (fun ρ x_ r_ k_=>k_ 0 (Shape.inj jv.c5x0 (x_.1,x_.2.1,x_.2.2.1,x_.2.2.2.1,x_.2.2.2.2.1,x_.2.2.2.2.2.1,x_.2.2.2.2.2.2.1,x_.2.2.2.2.2.2.2.1,x_.2.2.2.2.2.2.2.2.1,x_.2.2.2.2.2.2.2.2.2.1,x_.2.2.2.2.2.2.2.2.2.2.1,x_.2.2.2.2.2.2.2.2.2.2.2.1,x_.2.2.2.2.2.2.2.2.2.2.2.2.1,x_.2.2.2.2.2.2.2.2.2.2.2.2.2.1,x_.2.2.2.2.2.2.2.2.2.2.2.2.2.2.1,x_.2.2.2.2.2.2.2.2.2.2.2.2.2.2.2.1,x_.2.2.2.2.2.2.2.2.2.2.2.2.2.2.2.2.1,x_.2.2.2.2.2.2.2.2.2.2.2.2.2.2.2.2.2.1,r_,())))
def jv.c100003 {ρ:Type} (t14:List ((Int)×((Int)×((List Int)×((Int)×((Int)×(List Int))))))) (t15:Int) (t16:Int) (t3005:List ((Int)×((Int)×((List Int)×((Int)×((Int)×(List Int))))))) (k_:((Int)×(List ((Int)×((Int)×((List Int)×((Int)×((Int)×(List Int))))))))⊕((Int)×(List ((Int)×((Int)×((List Int)×((Int)×((Int)×(List Int))))))))→Option ρ):Option ρ:=
  br (decide (t16 < t15))
   (bnd (idx t14 t16) fun y=>
    bnd (W.jv.c5 y.1 y.2.1 y.2.2.1 y.2.2.2.1 y.2.2.2.2.1 y.2.2.2.2.2 t3005 some) fun y_1=>
    k_ (.inl ((IntKind.i64.wrap (t16+(1:Int))),y_1)))
   (k_ (.inr (t16,t3005)))
def jv.c100003s:Shape:=⟨[(0,ct4),(1,ct21),(2,ct6),(4,ct23),(5,ct19),(14,ct18),(15,ct2),(16,ct2)],[(2,ct8),(4,ct25),(5,ct26),(3004,ct10),(3005,ct10)]⟩
def jv.c100003x0:Shape:=jv.c100003s
def jv.c100003r:Ck:=Ck.ofLoop (S:=(Int)×(List ((Int)×((Int)×((List Int)×((Int)×((Int)×(List Int)))))))) (T:=(Int)×(List ((Int)×((Int)×((List Int)×((Int)×((Int)×(List Int)))))))) jv.c100003s (fun x_=>(x_.2.2.2.1,x_.2.2.2.2.2.2.2.2.2.2.2.2.1)) (fun ρ x_ s_ k_=>jv.c100003 x_.2.1 x_.2.2.1 s_.1 s_.2 k_) (fun ρ x_ r_ k_=>k_ 2 (Shape.inj jv.c100003x0 (x_.1,x_.2.1,x_.2.2.1,r_.1,x_.2.2.2.2.1,x_.2.2.2.2.2.1,x_.2.2.2.2.2.2.1,x_.2.2.2.2.2.2.2.1,x_.2.2.2.2.2.2.2.2.1,x_.2.2.2.2.2.2.2.2.2.1,x_.2.2.2.2.2.2.2.2.2.2.1,x_.2.2.2.2.2.2.2.2.2.2.2.1,r_.2,())))
def jv (c:(Int)×((Int)×(List ((Int)×((Int)×((List Int)×((Int)×((Int)×(List Int))))))))):Option ((Int)×(Int)×(List ((Int)×((Int)×((List Int)×((Int)×((Int)×(List Int)))))))×Unit):=
  bnd (iter (fun s↦W.jv.c100003 c.2.2 (↑(List.length c.2.2):Int) s.1 s.2 some) ((0:Int),[])) fun y=>
  some (c.1,c.2.1,y.2,())
def jv.mc:MCallee:=⟨46,jv.pre,jv.post,fun x_=>jv x_.1⟩
def jv.G:Env:=⟨31,tab,[(45,jT.ce),(48,Js.ce)],[0,1,2,4,5,7,14,15,16,17],[2,4,5,12,3002,3004,3005],[(5,[⟨[],[],[22,23,24,25,26],[26]⟩,⟨[0],[],[22,23,24,25,26],[26]⟩,⟨[],[],[20,21,23,24],[]⟩,⟨[],[],[20,21,22],[]⟩,⟨[3],[],[20,21,22],[]⟩,⟨[2,4,3],[],[20,21],[]⟩,⟨[5,2,4,3],[26],[20,21],[]⟩,⟨[1,0,6,5,2,4,3],[3005],[],[]⟩,⟨[0,1,2,3,4,5,6,7],[],[],[]⟩,⟨[8,0,1,2,3,4,5,6,7],[5],[],[]⟩])],[(100003,jv.c100003r),(5,jv.c5r)],[],Jc,[]⟩
theorem jv.eq (x_:densU jv.mc.pre.tys):denM jv.G Tryd.f46 jv.mc.pre jv.mc.post x_=jv.mc.F x_:=by kernel_rfl
theorem jv.p0:PcA jv.G Tryd.f46 0:=
  JD (s:=jv.c100003r) (by kernel_rfl) (by kernel_rfl) (Ju (sh:=jv.c100003s) (I:=fun x_ s_=>(x_.1,x_.2.1,x_.2.2.1,s_.1,x_.2.2.2.2.1,x_.2.2.2.2.2.1,x_.2.2.2.2.2.2.1,x_.2.2.2.2.2.2.2.1,x_.2.2.2.2.2.2.2.2.1,x_.2.2.2.2.2.2.2.2.2.1,x_.2.2.2.2.2.2.2.2.2.2.1,x_.2.2.2.2.2.2.2.2.2.2.2.1,s_.2,())) (fun x_=>rfl) (fun ρ x_ s_ k_=>(jr (jf fun _=>(jf fun _=>ja)) ja)) (fun ρ x_ t k=>(by kernel_rfl)) (fun x_ s=>by kernel_rfl))
theorem jv.p1:PcA jv.G Tryd.f46 1:=
  jC (s:=jv.c5r) (by kernel_rfl) (by kernel_rfl) (jH (sh:=jv.c5s) (fun ρ x_ k_=>(jf fun _=>(jf fun _=>(jf fun _=>ja)))) (fun ρ x_ t k=>(by kernel_rfl)) (fun x_=>by kernel_rfl))
theorem jv.ok:MOk Tryd.prog 46 jv.mc:=kW (G:=jv.G) Jm mixed Tryd.func46 ⟨(jL jT.ok (jL Js.ok Je)),jW,jK,jV⟩ (m:=2) (by kernel_rfl) ⟨⟨trivial,jv.p0⟩,jv.p1⟩ (by kernel_rfl) jv.eq
abbrev ct27:SD:=.one (.own 2000000 0)
def jk.pre:Shape:=⟨[(0,ct27)],[(2000000,ct10)]⟩
def jk.post:Shape:=⟨[],[(2000000,ct10)]⟩
def jk.c3 {ρ:Type} (i:Int) (j:Int) (t2000000:List ((Int)×((Int)×((List Int)×((Int)×((Int)×(List Int))))))) (k_:List ((Int)×((Int)×((List Int)×((Int)×((Int)×(List Int))))))→Option ρ):Option ρ:=
  bnd (inR (List.length t2000000) j) fun y=>
  bnd (idx t2000000 j) fun y_1=>
  bnd (inR (List.length t2000000) i) fun y_2=>
  bnd (idx t2000000 i) fun y_3=>
  bnd (inR (List.length t2000000) i) fun y_4=>
  bnd (idx t2000000 i) fun y_5=>
  bnd (inR (List.length (List.set t2000000 (Int.toNat i) y_1)) j) fun y_6=>
  bnd (idx (List.set t2000000 (Int.toNat i) y_1) j) fun y_7=>
  k_ (List.set (List.set t2000000 (Int.toNat i) y_1) (Int.toNat j) y_3)
def jk.c3s:Shape:=⟨[(0,ct27),(2,ct2),(3,ct2)],[(2000000,ct10)]⟩
def jk.c3x0:Shape:=jk.c3s
def jk.c3r:Ck:=Ck.of (T:=List ((Int)×((Int)×((List Int)×((Int)×((Int)×(List Int))))))) jk.c3s (fun ρ x_ k_=>jk.c3 x_.1 x_.2.1 x_.2.2.1 k_) (fun ρ x_ r_ k_=>k_ 0 (Shape.inj jk.c3x0 (x_.1,x_.2.1,r_,())))
def jk.c100001 {ρ:Type} (i:Int) (j:Int) (t2000000:List ((Int)×((Int)×((List Int)×((Int)×((Int)×(List Int))))))) (k_:((Int)×(Int)×(List ((Int)×((Int)×((List Int)×((Int)×((Int)×(List Int))))))))⊕((Int)×(Int)×(List ((Int)×((Int)×((List Int)×((Int)×((Int)×(List Int))))))))→Option ρ):Option ρ:=
  br (decide (i < j))
   (bnd (W.jk.c3 i j t2000000 some) fun y=>
    k_ (.inl ((IntKind.i64.wrap (i+(1:Int))),(IntKind.i64.wrap (j - (1:Int))),y)))
   (k_ (.inr (i,j,t2000000)))
def jk.c100001s:Shape:=jk.c3s
def jk.c100001x0:Shape:=jk.c3s
def jk.c100001r:Ck:=Ck.ofLoop (S:=(Int)×(Int)×(List ((Int)×((Int)×((List Int)×((Int)×((Int)×(List Int)))))))) (T:=(Int)×(Int)×(List ((Int)×((Int)×((List Int)×((Int)×((Int)×(List Int)))))))) jk.c100001s (fun x_=>(x_.1,x_.2.1,x_.2.2.1)) (fun ρ x_ s_ k_=>jk.c100001 s_.1 s_.2.1 s_.2.2 k_) (fun ρ x_ r_ k_=>k_ 2 (Shape.inj jk.c100001x0 (r_.1,r_.2.1,r_.2.2,())))
def jk (t2000000:List ((Int)×((Int)×((List Int)×((Int)×((Int)×(List Int))))))):Option ((List ((Int)×((Int)×((List Int)×((Int)×((Int)×(List Int)))))))×Unit):=
  bnd (iter (fun s↦W.jk.c100001 s.1 s.2.1 s.2.2 some) ((0:Int),IntKind.i64.wrap ((↑(List.length t2000000):Int) - (1:Int)),t2000000)) fun y=>
  some (y.2.2,())
def jk.mc:MCallee:=⟨49,jk.pre,jk.post,fun x_=>jk x_.1⟩
def jk.G:Env:=⟨28,tab,[],[0,2,3,9],[2000000],[(3,[⟨[],[],[15,16,17,18,19,20,21,22,23,24,25],[]⟩,⟨[],[],[14,16,17,18,19,20,21,22,23,24,25],[]⟩,⟨[],[],[14,15,17,18,19,20,21,22,23,24,25,26],[2000000]⟩,⟨[],[],[14,15,16,18,19,20,21,22,23,24,25,26],[2000000]⟩,⟨[],[],[14,15,16,17,19,22,23,24,25],[]⟩,⟨[],[],[14,15,16,17,18,22,23,24,25],[]⟩,⟨[4,5],[],[14,15,16,17,22,23,24,25],[]⟩,⟨[6,4,5],[],[14,15,16,17,22,23,24,25],[]⟩,⟨[],[],[14,15,16,17,18,19,20,21,23],[]⟩,⟨[],[],[14,15,16,17,18,19,20,21,22],[]⟩,⟨[8,9],[],[14,15,16,17,18,19,20,21],[]⟩,⟨[10,8,9],[],[14,15,16,17,18,19,20,21],[]⟩,⟨[0,1,4,5,6,7,11,10,8,9],[],[16,17],[]⟩,⟨[12,0,1,4,5,6,7,11,10,8,9],[2000000],[16,17],[]⟩,⟨[2,3,0,1,4,5,6,7,8,9,10,11,12,13],[],[],[]⟩,⟨[14,2,3,0,1,4,5,6,7,8,9,10,11,12,13],[2000000],[],[]⟩])],[(100001,jk.c100001r),(3,jk.c3r)],[],Jc,[]⟩
theorem jk.eq (x_:densU jk.mc.pre.tys):denM jk.G Tryd.f49 jk.mc.pre jk.mc.post x_=jk.mc.F x_:=by kernel_rfl
theorem jk.p0:PcA jk.G Tryd.f49 0:=
  JD (s:=jk.c100001r) (by kernel_rfl) (by kernel_rfl) (Ju (sh:=jk.c100001s) (I:=fun x_ s_=>(s_.1,s_.2.1,s_.2.2,())) (fun x_=>rfl) (fun ρ x_ s_ k_=>(jr (jf fun _=>ja) ja)) (fun ρ x_ t k=>(by kernel_rfl)) (fun x_ s=>by kernel_rfl))
theorem jk.p1:PcA jk.G Tryd.f49 1:=
  jC (s:=jk.c3r) (by kernel_rfl) (by kernel_rfl) (jH (sh:=jk.c3s) (fun ρ x_ k_=>(jf fun _=>(jf fun _=>(jf fun _=>(jf fun _=>(jf fun _=>(jf fun _=>(jf fun _=>(jf fun _=>ja))))))))) (fun ρ x_ t k=>(by kernel_rfl)) (fun x_=>by kernel_rfl))
theorem jk.ok:MOk Tryd.prog 49 jk.mc:=kW (G:=jk.G) Jm mixed Tryd.func49 ⟨Je,jW,jK,jV⟩ (m:=2) (by kernel_rfl) ⟨⟨trivial,jk.p0⟩,jk.p1⟩ (by kernel_rfl) jk.eq
def jS.c3 {ρ:Type}  (k_:Unit→Option ρ):Option ρ:=
  k_ ()
def jS.c3s:Shape:=⟨[(0,ct4),(1,ct5),(2,ct6),(3,ct7),(4,ct23)],[(1,ct8),(2,ct8),(3,ct17),(4,ct17)]⟩
def jS.c3x0:Shape:=jS.c3s
def jS.c3r:Ck:=Ck.of (T:=Unit) jS.c3s (fun ρ x_ k_=>jS.c3  k_) (fun ρ x_ r_ k_=>k_ 0 (Shape.inj jS.c3x0 (x_.1,x_.2.1,x_.2.2.1,x_.2.2.2.1,(0:Int),(0:Int),[],x_.2.2.2.2.2.2.2.2.2.1,x_.2.2.2.2.2.2.2.2.2.2.1,x_.2.2.2.2.2.2.2.2.2)))
def jS (c:(Int)×((Int)×(List ((Int)×((Int)×((List Int)×((Int)×((Int)×(List Int))))))))):Option (((Int)×((Int)×(List ((Int)×((Int)×((List Int)×((Int)×((Int)×(List Int)))))))))×((Int)×(Int))):=
  bnd (W.jJ (c.1,c.2.1,c.2.2)) fun y=>
  br (y.1 != (0:Int))
   (bnd (W.jS.c3 some) fun y_1=>
    some (((0:Int),(0:Int),[]),y.1,y.2))
   (bnd (W.jv (c.1,c.2.1,c.2.2)) fun y_2=>
    bnd (W.jk y_2.2.2.1) fun y_3=>
    some ((y_2.1,y_2.2.1,y_3.1),(0:Int),(0:Int)))
def jS.ce:Go.Ql.Callee:=⟨[(.st (.pair (.int .i64) (.pair (.int .i64) (.sl (.st (.pair (.int .i64) (.pair (.int .i64) (.pair (.sl (.int .i64)) (.pair (.int .i64) (.pair (.int .i64) (.sl (.int .i64))))))))))))],[(.st (.pair (.int .i64) (.pair (.int .i64) (.sl (.st (.pair (.int .i64) (.pair (.int .i64) (.pair (.sl (.int .i64)) (.pair (.int .i64) (.pair (.int .i64) (.sl (.int .i64)))))))))))),(.st (.pair (.int .i64) (.int .i64)))],fun x_=>jS x_⟩
def jS.G:Env:=⟨20,tab,[(44,jJ.ce)],[0,1,2,3,4,5,10],[5,2014,3005],[(3,[⟨[],[],[12],[]⟩,⟨[],[],[11],[2]⟩,⟨[0],[2],[12],[]⟩,⟨[1,2,0],[3],[],[]⟩])],[(3,jS.c3r)],[(46,jv.mc),(49,jk.mc)],Jc,[]⟩
theorem jS.eq (x_:dens jS.ce.params):den jS.G Tryd.f23 jS.ce.params jS.ce.res x_=jS.ce.F x_:=by kernel_rfl
theorem jS.p0:PcA jS.G Tryd.f23 0:=
  jC (s:=jS.c3r) (by kernel_rfl) (by kernel_rfl) (jH (sh:=jS.c3s) (fun ρ x_ k_=>ja) (fun ρ x_ t k=>(by kernel_rfl)) (fun x_=>by kernel_rfl))
theorem jS.ok:CalleeOk Tryd.prog 23 jS.ce:=fn_ok (G:=jS.G) Jm mixed Tryd.func23 ⟨(jL jJ.ok Je),(JG jv.ok (JG jk.ok jW)),jK,jV⟩ (m:=1) (by kernel_rfl) ⟨trivial,jS.p0⟩ (by kernel_rfl) jS.eq
def Jt (code:Int) (t1:Int):Option ((Int)×(Int)):=
  some (code,t1)
def Jt.ce:Go.Ql.Callee:=⟨[(.int .i64),(.int .i64)],[(.st (.pair (.int .i64) (.int .i64)))],fun x_=>Jt x_.1 x_.2⟩
def Jt.G:Env:=⟨8,tab,[],[0,1,4],[],[],[],[],Jc,[]⟩
theorem Jt.eq (x_:dens Jt.ce.params):den Jt.G Tryd.f42 Jt.ce.params Jt.ce.res x_=Jt.ce.F x_:=by kernel_rfl
theorem Jt.ok:CalleeOk Tryd.prog 42 Jt.ce:=fn_ok (G:=Jt.G) Jm mixed Tryd.func42 ⟨Je,jW,jK,jV⟩ (m:=0) (by kernel_rfl) trivial (by kernel_rfl) Jt.eq
def Jd.c100002 {ρ:Type} (l:List (Int)) (x:Int) (i:Int) (k_:(Int)⊕((Int)⊕(Int))→Option ρ):Option ρ:=
  br (decide (i < (↑(List.length l):Int)))
   (bnd (idx l i) fun y=>
    br (y == x)
     (k_ (.inr (.inl i)))
     (k_ (.inl (IntKind.i64.wrap (i+(1:Int))))))
   (k_ (.inr (.inr i)))
def Jd.c100002s:Shape:=⟨[(0,ct0),(1,ct2),(4,ct11),(5,ct2)],[]⟩
def Jd.c100002x0:Shape:=Jd.c100002s
def Jd.c100002x1:Shape:=Jd.c100002s
def Jd.c100002r:Ck:=Ck.ofLoop (S:=Int) (T:=(Int)⊕(Int)) Jd.c100002s (fun x_=>x_.2.2.2.1) (fun ρ x_ s_ k_=>Jd.c100002 x_.1 x_.2.1 s_ k_) (fun ρ x_ r_ k_=>sel r_ (fun r_=>k_ 1 (Shape.inj Jd.c100002x0 (x_.1,x_.2.1,true,r_,()))) (fun r_=>k_ 2 (Shape.inj Jd.c100002x1 (x_.1,x_.2.1,x_.2.2.1,r_,()))))
def Jd (l:List (Int)) (x:Int):Option Bool:=
  bnd (iter (fun s↦W.Jd.c100002 l x s some) (0:Int)) fun y=>
  sel y
   (fun u=>some true)
   (fun v=>some false)
def Jd.ce:Go.Ql.Callee:=⟨[(.sl (.int .i64)),(.int .i64)],[.bool],fun x_=>Jd x_.1 x_.2⟩
def Jd.G:Env:=⟨18,tab,[],[0,1,4,5,9,17],[],[],[(100002,Jd.c100002r)],[],Jc,[]⟩
theorem Jd.eq (x_:dens Jd.ce.params):den Jd.G Tryd.f52 Jd.ce.params Jd.ce.res x_=Jd.ce.F x_:=by kernel_rfl
theorem Jd.p0:PcA Jd.G Tryd.f52 0:=
  JD (s:=Jd.c100002r) (by kernel_rfl) (by kernel_rfl) (Ju (sh:=Jd.c100002s) (I:=fun x_ s_=>(x_.1,x_.2.1,x_.2.2.1,s_,())) (fun x_=>rfl) (fun ρ x_ s_ k_=>(jr (jf fun _=>(jr ja ja)) ja)) (fun ρ x_ t k=>(ki (fun _=>(by kernel_rfl)) (fun _=>(by kernel_rfl)))) (fun x_ s=>by kernel_rfl))
theorem Jd.ok:CalleeOk Tryd.prog 52 Jd.ce:=fn_ok (G:=Jd.G) Jm mixed Tryd.func52 ⟨Je,jW,jK,jV⟩ (m:=1) (by kernel_rfl) ⟨trivial,Jd.p0⟩ (by kernel_rfl) Jd.eq
def jd.c1 {ρ:Type} (o0:Int) (k_:Bool→Option ρ):Option ρ:=
  br (decide (o0 < (1:Int)))
   (k_ true)
   (k_ (decide (o0 > (6:Int))))
def jd.c1s:Shape:=⟨[(0,ct12),(1,ct2),(2,ct2),(3,ct7),(6,ct2)],[(3,ct14)]⟩
def jd.c1x0:Shape:=⟨[(0,ct12),(1,ct2),(2,ct2),(3,ct7),(6,ct2),(17,ct11)],[(3,ct14)]⟩
def jd.c1r:Ck:=Ck.of (T:=Bool) jd.c1s (fun ρ x_ k_=>jd.c1 x_.2.2.2.2.1 k_) (fun ρ x_ r_ k_=>k_ 0 (Shape.inj jd.c1x0 (x_.1,x_.2.1,x_.2.2.1,x_.2.2.2.1,r_,x_.2.2.2.2)))
def jd.c3 {ρ:Type} (o0:Int) (k_:Bool→Option ρ):Option ρ:=
  br (o0 == (1:Int))
   (k_ true)
   (k_ (o0 == (4:Int)))
def jd.c3s:Shape:=jd.c1s
def jd.c3x0:Shape:=⟨[(0,ct12),(1,ct2),(2,ct2),(3,ct7),(6,ct2),(7,ct11)],[(3,ct14)]⟩
def jd.c3r:Ck:=Ck.of (T:=Bool) jd.c3s (fun ρ x_ k_=>jd.c3 x_.2.2.2.2.1 k_) (fun ρ x_ r_ k_=>k_ 0 (Shape.inj jd.c3x0 (x_.1,x_.2.1,x_.2.2.1,x_.2.2.2.1,r_,x_.2.2.2.2)))
def jd.c4 {ρ:Type} (angle:Bool) (o1:Int) (k_:Bool→Option ρ):Option ρ:=
  br (decide (o1 < (0:Int)))
   (k_ true)
   (br (decide (o1 > (15:Int)))
     (k_ true)
     (br (decide (o1 > (0:Int)))
       (k_ (!angle))
       (k_ false)))
def jd.c4s:Shape:=jd.c3x0
def jd.c4x0:Shape:=⟨[(0,ct12),(1,ct2),(2,ct2),(3,ct7),(6,ct2),(7,ct11),(42,ct11)],[(3,ct14)]⟩
def jd.c4r:Ck:=Ck.of (T:=Bool) jd.c4s (fun ρ x_ k_=>jd.c4 x_.2.2.2.2.1 x_.2.2.2.2.2.2.1 k_) (fun ρ x_ r_ k_=>k_ 0 (Shape.inj jd.c4x0 (x_.1,x_.2.1,x_.2.2.1,x_.2.2.2.1,x_.2.2.2.2.1,r_,x_.2.2.2.2.2)))
def jd.c6 {ρ:Type} (qubits:Int) (o0:Int) (o3:Int) (k_:Bool→Option ρ):Option ρ:=
  br (decide (o3 < (0:Int)))
   (k_ true)
   (br (decide (o3≥qubits))
     (k_ true)
     (br (o0 == (1:Int))
       (k_ (decide (o3 > (0:Int))))
       (k_ false)))
def jd.c6s:Shape:=jd.c3x0
def jd.c6x0:Shape:=⟨[(0,ct12),(1,ct2),(2,ct2),(3,ct7),(6,ct2),(7,ct11),(61,ct11)],[(3,ct14)]⟩
def jd.c6r:Ck:=Ck.of (T:=Bool) jd.c6s (fun ρ x_ k_=>jd.c6 x_.2.1 x_.2.2.2.2.2.1 x_.2.2.2.2.2.2.2.2.1 k_) (fun ρ x_ r_ k_=>k_ 0 (Shape.inj jd.c6x0 (x_.1,x_.2.1,x_.2.2.1,x_.2.2.2.1,x_.2.2.2.2.1,r_,x_.2.2.2.2.2)))
def jd.c8 {ρ:Type} (o0:Int) (o2:List (Int)) (k_:Bool→Option ρ):Option ρ:=
  br (decide ((↑(List.length o2):Int) > (0:Int)))
   (br (o0 != (2:Int))
     (br (o0 != (3:Int))
       (k_ (o0 != (4:Int)))
       (k_ false))
     (k_ false))
   (k_ false)
def jd.c8s:Shape:=jd.c3x0
def jd.c8x0:Shape:=⟨[(0,ct12),(1,ct2),(2,ct2),(3,ct7),(6,ct2),(7,ct11),(80,ct11)],[(3,ct14)]⟩
def jd.c8r:Ck:=Ck.of (T:=Bool) jd.c8s (fun ρ x_ k_=>jd.c8 x_.2.2.2.2.2.1 x_.2.2.2.2.2.2.2.1 k_) (fun ρ x_ r_ k_=>k_ 0 (Shape.inj jd.c8x0 (x_.1,x_.2.1,x_.2.2.1,x_.2.2.2.1,x_.2.2.2.2.1,r_,x_.2.2.2.2.2)))
def jd.c13 {ρ:Type} (qubits:Int) (i:Int) (o2:List (Int)) (k_:Bool→Option ρ):Option ρ:=
  bnd (idx o2 i) fun y=>
  br (decide (y < (0:Int)))
   (k_ true)
   (bnd (idx o2 i) fun y_1=>
    k_ (decide (y_1≥qubits)))
def jd.c13s:Shape:=⟨[(0,ct12),(1,ct2),(2,ct2),(3,ct7),(6,ct2),(7,ct11),(8,ct2)],[(3,ct14)]⟩
def jd.c13x0:Shape:=⟨[(0,ct12),(1,ct2),(2,ct2),(3,ct7),(6,ct2),(7,ct11),(8,ct2),(102,ct11)],[(3,ct14)]⟩
def jd.c13r:Ck:=Ck.of (T:=Bool) jd.c13s (fun ρ x_ k_=>jd.c13 x_.2.1 x_.2.2.2.2.2.1 x_.2.2.2.2.2.2.2.2.1 k_) (fun ρ x_ r_ k_=>k_ 0 (Shape.inj jd.c13x0 (x_.1,x_.2.1,x_.2.2.1,x_.2.2.2.1,x_.2.2.2.2.1,x_.2.2.2.2.2.1,r_,x_.2.2.2.2.2.2)))
def jd.c15 {ρ:Type} (i:Int) (o2:List (Int)) (o3:Int) (k_:Bool→Option ρ):Option ρ:=
  bnd (idx o2 i) fun y=>
  br (y == o3)
   (k_ true)
   (bnd (okIf (decide ((0:Int)≤i) && decide (i≤(↑(List.length o2):Int)))) fun y_1=>
    bnd (idx o2 i) fun y_2=>
    bnd (W.Jd (List.take (Int.toNat i) o2) y_2) fun y_3=>
    k_ y_3)
def jd.c15s:Shape:=jd.c13s
def jd.c15x0:Shape:=⟨[(0,ct12),(1,ct2),(2,ct2),(3,ct7),(6,ct2),(7,ct11),(8,ct2),(122,ct11)],[(3,ct14)]⟩
def jd.c15r:Ck:=Ck.of (T:=Bool) jd.c15s (fun ρ x_ k_=>jd.c15 x_.2.2.2.2.2.1 x_.2.2.2.2.2.2.2.2.1 x_.2.2.2.2.2.2.2.2.2.1 k_) (fun ρ x_ r_ k_=>k_ 0 (Shape.inj jd.c15x0 (x_.1,x_.2.1,x_.2.2.1,x_.2.2.2.1,x_.2.2.2.2.1,x_.2.2.2.2.2.1,r_,x_.2.2.2.2.2.2)))
def jd.c100011 {ρ:Type} (qubits:Int) (i:Int) (o2:List (Int)) (o3:Int) (k_:(Int)⊕(((Int)×(Int))⊕(Int))→Option ρ):Option ρ:=
  br (decide (i < (↑(List.length o2):Int)))
   (bnd (W.jd.c13 qubits i o2 some) fun y=>
    br y
     (k_ (.inr (.inl ((10:Int),i))))
     (bnd (W.jd.c15 i o2 o3 some) fun y_1=>
      br y_1
       (k_ (.inr (.inl ((12:Int),i))))
       (k_ (.inl (IntKind.i64.wrap (i+(1:Int)))))))
   (k_ (.inr (.inr i)))
def jd.c100011s:Shape:=jd.c13s
def jd.c100011x0:Shape:=jd.c13s
def jd.c100011x1:Shape:=jd.c13s
def jd.c100011r:Ck:=Ck.ofLoop (S:=Int) (T:=((Int)×(Int))⊕(Int)) jd.c100011s (fun x_=>x_.2.2.2.2.2.1) (fun ρ x_ s_ k_=>jd.c100011 x_.2.1 s_ x_.2.2.2.2.2.2.2.2.1 x_.2.2.2.2.2.2.2.2.2.1 k_) (fun ρ x_ r_ k_=>sel r_ (fun r_=>k_ 1 (Shape.inj jd.c100011x0 (x_.1,x_.2.1,x_.2.2.1,r_.1,x_.2.2.2.2.1,r_.2,x_.2.2.2.2.2.2))) (fun r_=>k_ 2 (Shape.inj jd.c100011x1 (x_.1,x_.2.1,x_.2.2.1,x_.2.2.2.1,x_.2.2.2.2.1,r_,x_.2.2.2.2.2.2))))
def jd.c18 {ρ:Type} (bits:Int) (o4:Int) (k_:Bool→Option ρ):Option ρ:=
  br (decide (o4 < (0:Int)))
   (k_ true)
   (k_ (decide (o4≥bits)))
def jd.c18s:Shape:=jd.c13s
def jd.c18x0:Shape:=⟨[(0,ct12),(1,ct2),(2,ct2),(3,ct7),(6,ct2),(7,ct11),(8,ct2),(134,ct11)],[(3,ct14)]⟩
def jd.c18r:Ck:=Ck.of (T:=Bool) jd.c18s (fun ρ x_ k_=>jd.c18 x_.2.2.1 x_.2.2.2.2.2.2.2.2.2.2.1 k_) (fun ρ x_ r_ k_=>k_ 0 (Shape.inj jd.c18x0 (x_.1,x_.2.1,x_.2.2.1,x_.2.2.2.1,x_.2.2.2.2.1,x_.2.2.2.2.2.1,r_,x_.2.2.2.2.2.2)))
def jd.c269649 {ρ:Type} (bits:Int) (o0:Int) (o4:Int) (k_:(Unit)⊕(Unit)→Option ρ):Option ρ:=
  br (o0 == (5:Int))
   (bnd (W.jd.c18 bits o4 some) fun y=>
    br y
     (k_ (.inl ()))
     (k_ (.inr ())))
   (br (o4 != (0:Int))
     (k_ (.inl ()))
     (k_ (.inr ())))
def jd.c269649s:Shape:=jd.c13s
def jd.c269649x0:Shape:=jd.c13s
def jd.c269649x1:Shape:=jd.c13s
def jd.c269649r:Ck:=Ck.of (T:=(Unit)⊕(Unit)) jd.c269649s (fun ρ x_ k_=>jd.c269649 x_.2.2.1 x_.2.2.2.2.2.2.1 x_.2.2.2.2.2.2.2.2.2.2.1 k_) (fun ρ x_ r_ k_=>sel r_ (fun r_=>k_ 1 (Shape.inj jd.c269649x0 (x_.1,x_.2.1,x_.2.2.1,(13:Int),x_.2.2.2.2))) (fun r_=>k_ 0 (Shape.inj jd.c269649x1 x_)))
def jd.c27 {ρ:Type} (bits:Int) (i_1:Int) (o5:List (Int)) (k_:Bool→Option ρ):Option ρ:=
  bnd (idx o5 i_1) fun y=>
  br (y == (0:Int))
   (k_ true)
   (bnd (idx o5 i_1) fun y_1=>
    br (decide (y_1 > bits))
     (k_ true)
     (bnd (idx o5 i_1) fun y_2=>
      k_ (decide (y_2 < IntKind.i64.wrap ((0:Int) - bits)))))
def jd.c27s:Shape:=⟨[(0,ct12),(1,ct2),(2,ct2),(3,ct7),(6,ct2),(7,ct11),(8,ct2),(9,ct2)],[(3,ct14)]⟩
def jd.c27x0:Shape:=⟨[(0,ct12),(1,ct2),(2,ct2),(3,ct7),(6,ct2),(7,ct11),(8,ct2),(9,ct2),(173,ct11)],[(3,ct14)]⟩
def jd.c27r:Ck:=Ck.of (T:=Bool) jd.c27s (fun ρ x_ k_=>jd.c27 x_.2.2.1 x_.2.2.2.2.2.2.1 x_.2.2.2.2.2.2.2.2.2.2.2.2.1 k_) (fun ρ x_ r_ k_=>k_ 0 (Shape.inj jd.c27x0 (x_.1,x_.2.1,x_.2.2.1,x_.2.2.2.1,x_.2.2.2.2.1,x_.2.2.2.2.2.1,x_.2.2.2.2.2.2.1,r_,x_.2.2.2.2.2.2.2)))
def jd.c100025 {ρ:Type} (bits:Int) (i_1:Int) (o5:List (Int)) (k_:(Int)⊕((Int)⊕(Int))→Option ρ):Option ρ:=
  br (decide (i_1 < (↑(List.length o5):Int)))
   (bnd (W.jd.c27 bits i_1 o5 some) fun y=>
    br y
     (k_ (.inr (.inl i_1)))
     (k_ (.inl (IntKind.i64.wrap (i_1+(1:Int))))))
   (k_ (.inr (.inr i_1)))
def jd.c100025s:Shape:=jd.c27s
def jd.c100025x0:Shape:=jd.c27s
def jd.c100025x1:Shape:=jd.c27s
def jd.c100025r:Ck:=Ck.ofLoop (S:=Int) (T:=(Int)⊕(Int)) jd.c100025s (fun x_=>x_.2.2.2.2.2.2.1) (fun ρ x_ s_ k_=>jd.c100025 x_.2.2.1 s_ x_.2.2.2.2.2.2.2.2.2.2.2.2.1 k_) (fun ρ x_ r_ k_=>sel r_ (fun r_=>k_ 1 (Shape.inj jd.c100025x0 (x_.1,x_.2.1,x_.2.2.1,(14:Int),x_.2.2.2.2.1,x_.2.2.2.2.2.1,r_,x_.2.2.2.2.2.2.2))) (fun r_=>k_ 4 (Shape.inj jd.c100025x1 (x_.1,x_.2.1,x_.2.2.1,x_.2.2.2.1,x_.2.2.2.2.1,x_.2.2.2.2.2.1,r_,x_.2.2.2.2.2.2.2))))
def jd (o:(Int)×((Int)×((List Int)×((Int)×((Int)×(List Int)))))) (qubits:Int) (bits:Int):Option (Int):=
  bnd (W.jd.c1 o.1 some) fun y=>
  br y
   (some (8:Int))
   (bnd (W.jd.c3 o.1 some) fun y_1=>
    bnd (W.jd.c4 y_1 o.2.1 some) fun y_2=>
    br y_2
     (some (9:Int))
     (bnd (W.jd.c6 qubits o.1 o.2.2.2.1 some) fun y_3=>
      br y_3
       (some (10:Int))
       (bnd (W.jd.c8 o.1 o.2.2.1 some) fun y_4=>
        br y_4
         (some (11:Int))
         (bnd (iter (fun s↦W.jd.c100011 qubits s o.2.2.1 o.2.2.2.1 some) (0:Int)) fun y_5=>
          sel y_5
           (fun u=>some u.1)
           (fun v=>bnd (W.jd.c269649 bits o.1 o.2.2.2.2.1 some) fun y_6=>
            sel y_6
             (fun u_1=>some (13:Int))
             (fun v_1=>br (decide ((↑(List.length o.2.2.2.2.2):Int) > (24:Int)))
               (some (14:Int))
               (bnd (iter (fun s↦W.jd.c100025 bits s o.2.2.2.2.2 some) (0:Int)) fun y_7=>
                sel y_7
                 (fun u_2=>some (14:Int))
                 (fun v_2=>some (0:Int)))))))))
def jd.ce:Go.Ql.Callee:=⟨[(.st (.pair (.int .i64) (.pair (.int .i64) (.pair (.sl (.int .i64)) (.pair (.int .i64) (.pair (.int .i64) (.sl (.int .i64)))))))),(.int .i64),(.int .i64)],[(.int .i64)],fun x_=>jd x_.1 x_.2.1 x_.2.2⟩
def jd.G:Env:=⟨174,tab,[(52,Jd.ce)],[0,1,2,3,6,7,8,9,17,42,61,80,85,102,122,125,134,137,141,146,173],[],[(15,[⟨[],[],[105,108,109],[]⟩,⟨[0],[],[105,108,109],[]⟩,⟨[],[],[103,104,108,109],[]⟩,⟨[1,0,2],[],[108,109],[]⟩,⟨[3,1,0,2],[],[108,109],[]⟩,⟨[],[],[103,104,105,106,107],[]⟩,⟨[5],[],[103,104,105,106,107],[]⟩,⟨[4,3,1,0,2,6,5],[],[],[]⟩,⟨[7,4,3,1,0,2,6,5],[],[],[]⟩,⟨[8,7,4,3,1,0,2,6,5],[],[114,116,117,118,119,120],[]⟩,⟨[9,8,7,4,3,1,0,2,6,5],[],[114,116,117,118,119,120],[]⟩,⟨[8,7,4,3,1,0,2,6,5],[],[112,113,116,117,118,119,120],[]⟩,⟨[10,9,8,7,4,3,1,0,2,6,5,11],[],[116,117,118,119,120],[]⟩,⟨[8,7,4,3,1,0,2,6,5],[],[112,113,114,115,118],[]⟩,⟨[13,8,7,4,3,1,0,2,6,5],[],[112,113,114,115,118],[]⟩,⟨[8,7,4,3,1,0,2,6,5],[],[112,113,114,115,116,117],[]⟩,⟨[14,13,8,7,4,3,1,0,2,6,5,15],[],[112,113,114,115],[]⟩,⟨[16,14,13,8,7,4,3,1,0,2,6,5,15],[],[112,113,114,115],[]⟩,⟨[12,10,9,8,7,4,3,1,0,2,6,5,11,17,16,14,13,15],[],[],[]⟩,⟨[8,7,4,3,1,0,2,6,5,18,12,10,9,11,17,16,14,13,15],[],[],[]⟩])],[(100025,jd.c100025r),(27,jd.c27r),(269649,jd.c269649r),(18,jd.c18r),(100011,jd.c100011r),(15,jd.c15r),(13,jd.c13r),(8,jd.c8r),(6,jd.c6r),(4,jd.c4r),(3,jd.c3r),(1,jd.c1r)],[],Jc,[]⟩
theorem jd.eq (x_:dens jd.ce.params):den jd.G Tryd.f43 jd.ce.params jd.ce.res x_=jd.ce.F x_:=by kernel_rfl
theorem jd.p0:PcA jd.G Tryd.f43 0:=
  jC (s:=jd.c1r) (by kernel_rfl) (by kernel_rfl) (jH (sh:=jd.c1s) (fun ρ x_ k_=>(jr ja ja)) (fun ρ x_ t k=>(by kernel_rfl)) (fun x_=>by kernel_rfl))
theorem jd.p1:PcA jd.G Tryd.f43 1:=
  jC (s:=jd.c3r) (by kernel_rfl) (by kernel_rfl) (jH (sh:=jd.c3s) (fun ρ x_ k_=>(jr ja ja)) (fun ρ x_ t k=>(by kernel_rfl)) (fun x_=>by kernel_rfl))
theorem jd.p2:PcA jd.G Tryd.f43 2:=
  jC (s:=jd.c4r) (by kernel_rfl) (by kernel_rfl) (jH (sh:=jd.c4s) (fun ρ x_ k_=>(jr ja (jr ja (jr ja ja)))) (fun ρ x_ t k=>(by kernel_rfl)) (fun x_=>by kernel_rfl))
theorem jd.p3:PcA jd.G Tryd.f43 3:=
  jC (s:=jd.c6r) (by kernel_rfl) (by kernel_rfl) (jH (sh:=jd.c6s) (fun ρ x_ k_=>(jr ja (jr ja (jr ja ja)))) (fun ρ x_ t k=>(by kernel_rfl)) (fun x_=>by kernel_rfl))
theorem jd.p4:PcA jd.G Tryd.f43 4:=
  jC (s:=jd.c8r) (by kernel_rfl) (by kernel_rfl) (jH (sh:=jd.c8s) (fun ρ x_ k_=>(jr (jr (jr ja ja) ja) ja)) (fun ρ x_ t k=>(by kernel_rfl)) (fun x_=>by kernel_rfl))
theorem jd.p5:PcA jd.G Tryd.f43 5:=
  JD (s:=jd.c100011r) (by kernel_rfl) (by kernel_rfl) (Ju (sh:=jd.c100011s) (I:=fun x_ s_=>(x_.1,x_.2.1,x_.2.2.1,x_.2.2.2.1,x_.2.2.2.2.1,s_,x_.2.2.2.2.2.2)) (fun x_=>rfl) (fun ρ x_ s_ k_=>(jr (jf fun _=>(jr ja (jf fun _=>(jr ja ja)))) ja)) (fun ρ x_ t k=>(ki (fun _=>(by kernel_rfl)) (fun _=>(by kernel_rfl)))) (fun x_ s=>by kernel_rfl))
theorem jd.p6:PcA jd.G Tryd.f43 6:=
  jC (s:=jd.c13r) (by kernel_rfl) (by kernel_rfl) (jH (sh:=jd.c13s) (fun ρ x_ k_=>(jf fun _=>(jr ja (jf fun _=>ja)))) (fun ρ x_ t k=>(by kernel_rfl)) (fun x_=>by kernel_rfl))
theorem jd.p7:PcA jd.G Tryd.f43 7:=
  jC (s:=jd.c15r) (by kernel_rfl) (by kernel_rfl) (jH (sh:=jd.c15s) (fun ρ x_ k_=>(jf fun _=>(jr ja (jf fun _=>(jf fun _=>(jf fun _=>ja)))))) (fun ρ x_ t k=>(by kernel_rfl)) (fun x_=>by kernel_rfl))
theorem jd.p8:PcA jd.G Tryd.f43 8:=
  kG (s:=jd.c269649r) (by kernel_rfl) (by kernel_rfl) (jH (sh:=jd.c269649s) (fun ρ x_ k_=>(jr (jf fun _=>(jr ja ja)) (jr ja ja))) (fun ρ x_ t k=>(ki (fun _=>(by kernel_rfl)) (fun _=>(by kernel_rfl)))) (fun x_=>by kernel_rfl))
theorem jd.p9:PcA jd.G Tryd.f43 9:=
  jC (s:=jd.c18r) (by kernel_rfl) (by kernel_rfl) (jH (sh:=jd.c18s) (fun ρ x_ k_=>(jr ja ja)) (fun ρ x_ t k=>(by kernel_rfl)) (fun x_=>by kernel_rfl))
theorem jd.p10:PcA jd.G Tryd.f43 10:=
  JD (s:=jd.c100025r) (by kernel_rfl) (by kernel_rfl) (Ju (sh:=jd.c100025s) (I:=fun x_ s_=>(x_.1,x_.2.1,x_.2.2.1,x_.2.2.2.1,x_.2.2.2.2.1,x_.2.2.2.2.2.1,s_,x_.2.2.2.2.2.2.2)) (fun x_=>rfl) (fun ρ x_ s_ k_=>(jr (jf fun _=>(jr ja ja)) ja)) (fun ρ x_ t k=>(ki (fun _=>(by kernel_rfl)) (fun _=>(by kernel_rfl)))) (fun x_ s=>by kernel_rfl))
theorem jd.p11:PcA jd.G Tryd.f43 11:=
  jC (s:=jd.c27r) (by kernel_rfl) (by kernel_rfl) (jH (sh:=jd.c27s) (fun ρ x_ k_=>(jf fun _=>(jr ja (jf fun _=>(jr ja (jf fun _=>ja)))))) (fun ρ x_ t k=>(by kernel_rfl)) (fun x_=>by kernel_rfl))
theorem jd.ok:CalleeOk Tryd.prog 43 jd.ce:=fn_ok (G:=jd.G) Jm mixed Tryd.func43 ⟨(jL Jd.ok Je),jW,jK,jV⟩ (m:=12) (by kernel_rfl) ⟨⟨⟨⟨⟨⟨⟨⟨⟨⟨⟨⟨trivial,jd.p0⟩,jd.p1⟩,jd.p2⟩,jd.p3⟩,jd.p4⟩,jd.p5⟩,jd.p6⟩,jd.p7⟩,jd.p8⟩,jd.p9⟩,jd.p10⟩,jd.p11⟩ (by kernel_rfl) jd.eq
def jB.c1 {ρ:Type} (c0:Int) (k_:Bool→Option ρ):Option ρ:=
  br (decide (c0 < (1:Int)))
   (k_ true)
   (k_ (decide (c0 > (12:Int))))
def jB.c1s:Shape:=⟨[(0,ct4),(1,ct5),(2,ct6)],[(1,ct8),(2,ct17)]⟩
def jB.c1x0:Shape:=⟨[(0,ct4),(1,ct5),(2,ct6),(12,ct11)],[(1,ct8),(2,ct17)]⟩
def jB.c1r:Ck:=Ck.of (T:=Bool) jB.c1s (fun ρ x_ k_=>jB.c1 x_.2.1 k_) (fun ρ x_ r_ k_=>k_ 0 (Shape.inj jB.c1x0 (x_.1,r_,x_.2)))
def jB.c3 {ρ:Type} (c1:Int) (k_:Bool→Option ρ):Option ρ:=
  br (decide (c1 < (0:Int)))
   (k_ true)
   (k_ (decide (c1 > (12:Int))))
def jB.c3s:Shape:=jB.c1s
def jB.c3x0:Shape:=⟨[(0,ct4),(1,ct5),(2,ct6),(21,ct11)],[(1,ct8),(2,ct17)]⟩
def jB.c3r:Ck:=Ck.of (T:=Bool) jB.c3s (fun ρ x_ k_=>jB.c3 x_.2.2.1 k_) (fun ρ x_ r_ k_=>k_ 0 (Shape.inj jB.c3x0 (x_.1,r_,x_.2)))
def jB.c10 {ρ:Type} (i:Int) (c0:Int) (c1:Int) (c2:List ((Int)×((Int)×((List Int)×((Int)×((Int)×(List Int))))))) (k_:Int→Option ρ):Option ρ:=
  bnd (idx c2 i) fun y=>
  bnd (W.jd y c0 c1) fun y_1=>
  k_ y_1
def jB.c10s:Shape:=⟨[(0,ct4),(1,ct5),(2,ct6),(3,ct2)],[(1,ct8),(2,ct17)]⟩
def jB.c10x0:Shape:=⟨[(0,ct4),(1,ct5),(2,ct6),(3,ct2),(4,ct2)],[(1,ct8),(2,ct17)]⟩
def jB.c10r:Ck:=Ck.of (T:=Int) jB.c10s (fun ρ x_ k_=>jB.c10 x_.2.1 x_.2.2.1 x_.2.2.2.1 x_.2.2.2.2.1 k_) (fun ρ x_ r_ k_=>k_ 0 (Shape.inj jB.c10x0 (x_.1,x_.2.1,r_,x_.2.2)))
def jB.c100008 {ρ:Type} (i:Int) (c0:Int) (c1:Int) (c2:List ((Int)×((Int)×((List Int)×((Int)×((Int)×(List Int))))))) (k_:(Int)⊕(((Int)×(Int)×(Int))⊕(Int))→Option ρ):Option ρ:=
  br (decide (i < (↑(List.length c2):Int)))
   (bnd (W.jB.c10 i c0 c1 c2 some) fun y=>
    br (y != (0:Int))
     (bnd (W.Jt y i) fun y_1=>
      k_ (.inr (.inl (i,y_1.1,y_1.2))))
     (k_ (.inl (IntKind.i64.wrap (i+(1:Int))))))
   (k_ (.inr (.inr i)))
def jB.c100008s:Shape:=jB.c10s
def jB.c100008x0:Shape:=jB.c10s
def jB.c100008x1:Shape:=jB.c10s
def jB.c100008r:Ck:=Ck.ofLoop (S:=Int) (T:=((Int)×(Int)×(Int))⊕(Int)) jB.c100008s (fun x_=>x_.2.1) (fun ρ x_ s_ k_=>jB.c100008 s_ x_.2.2.1 x_.2.2.2.1 x_.2.2.2.2.1 k_) (fun ρ x_ r_ k_=>sel r_ (fun r_=>k_ 1 (Shape.inj jB.c100008x0 (x_.1,r_.1,x_.2.2.1,x_.2.2.2.1,x_.2.2.2.2.1,r_.2.1,r_.2.2,()))) (fun r_=>k_ 2 (Shape.inj jB.c100008x1 (x_.1,r_,x_.2.2))))
def jB (c:(Int)×((Int)×(List ((Int)×((Int)×((List Int)×((Int)×((Int)×(List Int))))))))):Option ((Int)×(Int)):=
  bnd (W.jB.c1 c.1 some) fun y=>
  br y
   (bnd (W.Jt (6:Int) (0:Int)) fun y_1=>
    some (y_1.1,y_1.2))
   (bnd (W.jB.c3 c.2.1 some) fun y_2=>
    br y_2
     (bnd (W.Jt (7:Int) (0:Int)) fun y_3=>
      some (y_3.1,y_3.2))
     (br (decide ((↑(List.length c.2.2):Int) > (4096:Int)))
       (bnd (W.Jt (2:Int) (0:Int)) fun y_4=>
        some (y_4.1,y_4.2))
       (bnd (iter (fun s↦W.jB.c100008 s c.1 c.2.1 c.2.2 some) (0:Int)) fun y_5=>
        sel y_5
         (fun u=>some (u.2.1,u.2.2))
         (fun v=>some ((0:Int),(0:Int))))))
def jB.ce:Go.Ql.Callee:=⟨[(.st (.pair (.int .i64) (.pair (.int .i64) (.sl (.st (.pair (.int .i64) (.pair (.int .i64) (.pair (.sl (.int .i64)) (.pair (.int .i64) (.pair (.int .i64) (.sl (.int .i64))))))))))))],[(.st (.pair (.int .i64) (.int .i64)))],fun x_=>jB x_⟩
def jB.G:Env:=⟨51,tab,[(42,Jt.ce),(43,jd.ce)],[0,1,2,3,4,12,21,26,32,46],[],[(10,[⟨[],[],[37,40,41,42,43],[]⟩,⟨[0],[],[37,40,41,42,43],[]⟩,⟨[],[],[35,36,40,41,42,43],[]⟩,⟨[1,0,2],[],[40,41,42,43],[]⟩,⟨[3,1,0,2],[],[40,41,42,43],[]⟩,⟨[],[],[35,36,37,38,39,42,43],[]⟩,⟨[5],[],[35,36,37,38,39,42,43],[]⟩,⟨[],[],[35,36,37,38,39,40,41],[]⟩,⟨[7],[],[35,36,37,38,39,40,41],[]⟩,⟨[4,3,1,0,2,6,5,8,7],[],[],[]⟩,⟨[9,4,3,1,0,2,6,5,8,7],[],[],[]⟩])],[(100008,jB.c100008r),(10,jB.c10r),(3,jB.c3r),(1,jB.c1r)],[],Jc,[]⟩
theorem jB.eq (x_:dens jB.ce.params):den jB.G Tryd.f15 jB.ce.params jB.ce.res x_=jB.ce.F x_:=by kernel_rfl
theorem jB.p0:PcA jB.G Tryd.f15 0:=
  jC (s:=jB.c1r) (by kernel_rfl) (by kernel_rfl) (jH (sh:=jB.c1s) (fun ρ x_ k_=>(jr ja ja)) (fun ρ x_ t k=>(by kernel_rfl)) (fun x_=>by kernel_rfl))
theorem jB.p1:PcA jB.G Tryd.f15 1:=
  jC (s:=jB.c3r) (by kernel_rfl) (by kernel_rfl) (jH (sh:=jB.c3s) (fun ρ x_ k_=>(jr ja ja)) (fun ρ x_ t k=>(by kernel_rfl)) (fun x_=>by kernel_rfl))
theorem jB.p2:PcA jB.G Tryd.f15 2:=
  JD (s:=jB.c100008r) (by kernel_rfl) (by kernel_rfl) (Ju (sh:=jB.c100008s) (I:=fun x_ s_=>(x_.1,s_,x_.2.2)) (fun x_=>rfl) (fun ρ x_ s_ k_=>(jr (jf fun _=>(jr (jf fun _=>ja) ja)) ja)) (fun ρ x_ t k=>(ki (fun _=>(by kernel_rfl)) (fun _=>(by kernel_rfl)))) (fun x_ s=>by kernel_rfl))
theorem jB.p3:PcA jB.G Tryd.f15 3:=
  jC (s:=jB.c10r) (by kernel_rfl) (by kernel_rfl) (jH (sh:=jB.c10s) (fun ρ x_ k_=>(jf fun _=>(jf fun _=>ja))) (fun ρ x_ t k=>(by kernel_rfl)) (fun x_=>by kernel_rfl))
theorem jB.ok:CalleeOk Tryd.prog 15 jB.ce:=fn_ok (G:=jB.G) Jm mixed Tryd.func15 ⟨(jL Jt.ok (jL jd.ok Je)),jW,jK,jV⟩ (m:=4) (by kernel_rfl) ⟨⟨⟨⟨trivial,jB.p0⟩,jB.p1⟩,jB.p2⟩,jB.p3⟩ (by kernel_rfl) jB.eq
def Jf.c7 {ρ:Type} (i:Int) (c2:List ((Int)×((Int)×((List Int)×((Int)×((Int)×(List Int))))))) (k_:Bool→Option ρ):Option ρ:=
  bnd (idx c2 i) fun y=>
  br (decide (y.1≥(5:Int)))
   (k_ true)
   (bnd (idx c2 i) fun y_1=>
    k_ (decide ((↑(List.length y_1.2.2.2.2.2):Int) > (0:Int))))
def Jf.c7s:Shape:=⟨[(0,ct4),(1,ct5),(2,ct6),(3,ct7),(4,ct2)],[(1,ct8),(2,ct17),(3,ct17)]⟩
def Jf.c7x0:Shape:=⟨[(0,ct4),(1,ct5),(2,ct6),(3,ct7),(4,ct2),(34,ct11)],[(1,ct8),(2,ct17),(3,ct17)]⟩
def Jf.c7r:Ck:=Ck.of (T:=Bool) Jf.c7s (fun ρ x_ k_=>Jf.c7 x_.2.1 x_.2.2.2.2.1 k_) (fun ρ x_ r_ k_=>k_ 0 (Shape.inj Jf.c7x0 (x_.1,x_.2.1,r_,x_.2.2)))
def Jf.c100005 {ρ:Type} (i:Int) (c2:List ((Int)×((Int)×((List Int)×((Int)×((Int)×(List Int))))))) (k_:(Int)⊕(((Int)×(Int)×(Int))⊕(Int))→Option ρ):Option ρ:=
  br (decide (i < (↑(List.length c2):Int)))
   (bnd (W.Jf.c7 i c2 some) fun y=>
    br y
     (bnd (W.Jt (15:Int) i) fun y_1=>
      k_ (.inr (.inl (i,y_1.1,y_1.2))))
     (k_ (.inl (IntKind.i64.wrap (i+(1:Int))))))
   (k_ (.inr (.inr i)))
def Jf.c100005s:Shape:=Jf.c7s
def Jf.c100005x0:Shape:=Jf.c7s
def Jf.c100005x1:Shape:=Jf.c7s
def Jf.c100005r:Ck:=Ck.ofLoop (S:=Int) (T:=((Int)×(Int)×(Int))⊕(Int)) Jf.c100005s (fun x_=>x_.2.1) (fun ρ x_ s_ k_=>Jf.c100005 s_ x_.2.2.2.2.1 k_) (fun ρ x_ r_ k_=>sel r_ (fun r_=>k_ 1 (Shape.inj Jf.c100005x0 (x_.1,r_.1,x_.2.2.1,x_.2.2.2.1,x_.2.2.2.2.1,r_.2.1,r_.2.2,x_.2.2.2.2.2.2.2))) (fun r_=>k_ 2 (Shape.inj Jf.c100005x1 (x_.1,r_,x_.2.2))))
def Jf (c:(Int)×((Int)×(List ((Int)×((Int)×((List Int)×((Int)×((Int)×(List Int))))))))):Option ((Int)×(Int)):=
  bnd (W.jB (c.1,c.2.1,c.2.2)) fun y=>
  br (y.1 != (0:Int))
   (some (y.1,y.2))
   (bnd (iter (fun s↦W.Jf.c100005 s c.2.2 some) (0:Int)) fun y_1=>
    sel y_1
     (fun u=>some (u.2.1,u.2.2))
     (fun v=>some (y.1,y.2)))
def Jf.ce:Go.Ql.Callee:=⟨[(.st (.pair (.int .i64) (.pair (.int .i64) (.sl (.st (.pair (.int .i64) (.pair (.int .i64) (.pair (.sl (.int .i64)) (.pair (.int .i64) (.pair (.int .i64) (.sl (.int .i64))))))))))))],[(.st (.pair (.int .i64) (.int .i64)))],fun x_=>Jf x_⟩
def Jf.G:Env:=⟨38,tab,[(15,jB.ce),(42,Jt.ce)],[0,1,2,3,4,9,15,34],[],[],[(100005,Jf.c100005r),(7,Jf.c7r)],[],Jc,[]⟩
theorem Jf.eq (x_:dens Jf.ce.params):den Jf.G Tryd.f17 Jf.ce.params Jf.ce.res x_=Jf.ce.F x_:=by kernel_rfl
theorem Jf.p0:PcA Jf.G Tryd.f17 0:=
  JD (s:=Jf.c100005r) (by kernel_rfl) (by kernel_rfl) (Ju (sh:=Jf.c100005s) (I:=fun x_ s_=>(x_.1,s_,x_.2.2)) (fun x_=>rfl) (fun ρ x_ s_ k_=>(jr (jf fun _=>(jr (jf fun _=>ja) ja)) ja)) (fun ρ x_ t k=>(ki (fun _=>(by kernel_rfl)) (fun _=>(by kernel_rfl)))) (fun x_ s=>by kernel_rfl))
theorem Jf.p1:PcA Jf.G Tryd.f17 1:=
  jC (s:=Jf.c7r) (by kernel_rfl) (by kernel_rfl) (jH (sh:=Jf.c7s) (fun ρ x_ k_=>(jf fun _=>(jr ja (jf fun _=>ja)))) (fun ρ x_ t k=>(by kernel_rfl)) (fun x_=>by kernel_rfl))
theorem Jf.ok:CalleeOk Tryd.prog 17 Jf.ce:=fn_ok (G:=Jf.G) Jm mixed Tryd.func17 ⟨(jL jB.ok (jL Jt.ok Je)),jW,jK,jV⟩ (m:=2) (by kernel_rfl) ⟨⟨trivial,Jf.p0⟩,Jf.p1⟩ (by kernel_rfl) Jf.eq
def jw.c3 {ρ:Type}  (k_:Unit→Option ρ):Option ρ:=
  k_ ()
def jw.c3s:Shape:=⟨[(0,ct4),(1,ct5),(2,ct6),(3,ct7),(4,ct23)],[(1,ct8),(2,ct8),(3,ct17),(4,ct17)]⟩
def jw.c3x0:Shape:=jw.c3s
def jw.c3r:Ck:=Ck.of (T:=Unit) jw.c3s (fun ρ x_ k_=>jw.c3  k_) (fun ρ x_ r_ k_=>k_ 0 (Shape.inj jw.c3x0 (x_.1,x_.2.1,x_.2.2.1,x_.2.2.2.1,(0:Int),(0:Int),[],x_.2.2.2.2.2.2.2.2.2.1,x_.2.2.2.2.2.2.2.2.2.2.1,x_.2.2.2.2.2.2.2.2.2)))
def jw.c236869 {ρ:Type} (o1:Int) (k_:Int→Option ρ):Option ρ:=
  br (decide (o1 > (0:Int)))
   (k_ (IntKind.i64.wrap ((16:Int) - o1)))
   (k_ o1)
def jw.c236869s:Shape:=⟨[(0,ct4),(1,ct5),(2,ct6),(3,ct7),(4,ct23),(5,ct19),(6,ct2),(7,ct24)],[(1,ct8),(2,ct8),(3,ct17),(4,ct17),(5,ct26),(7,ct14),(3005,ct10)]⟩
def jw.c236869x0:Shape:=jw.c236869s
def jw.c236869r:Ck:=Ck.of (T:=Int) jw.c236869s (fun ρ x_ k_=>jw.c236869 x_.2.2.2.2.2.2.2.2.2.2.2.2.2.2.2.1 k_) (fun ρ x_ r_ k_=>k_ 0 (Shape.inj jw.c236869x0 (x_.1,x_.2.1,x_.2.2.1,x_.2.2.2.1,x_.2.2.2.2.1,x_.2.2.2.2.2.1,x_.2.2.2.2.2.2.1,x_.2.2.2.2.2.2.2.1,x_.2.2.2.2.2.2.2.2.1,x_.2.2.2.2.2.2.2.2.2.1,x_.2.2.2.2.2.2.2.2.2.2.1,x_.2.2.2.2.2.2.2.2.2.2.2.1,x_.2.2.2.2.2.2.2.2.2.2.2.2.1,x_.2.2.2.2.2.2.2.2.2.2.2.2.2.1,x_.2.2.2.2.2.2.2.2.2.2.2.2.2.2.1,r_,x_.2.2.2.2.2.2.2.2.2.2.2.2.2.2.2.2)))
def jw.c100006 {ρ:Type} (i:Int) (c2:List ((Int)×((Int)×((List Int)×((Int)×((Int)×(List Int))))))) (t3005:List ((Int)×((Int)×((List Int)×((Int)×((Int)×(List Int))))))) (k_:((Int)×(List ((Int)×((Int)×((List Int)×((Int)×((Int)×(List Int))))))))⊕((Int)×(List ((Int)×((Int)×((List Int)×((Int)×((Int)×(List Int))))))))→Option ρ):Option ρ:=
  br (decide (i≥(0:Int)))
   (bnd (idx c2 i) fun y=>
    bnd (W.JH y) fun y_1=>
    bnd (W.jw.c236869 y_1.2.1 some) fun y_2=>
    bnd (okIf (decide ((List.length t3005+(1:Nat))*(80:Nat)≤(140737488355328:Nat)) && decide (List.length t3005+(1:Nat)≤(140737488355328:Nat)))) fun y_3=>
    k_ (.inl ((IntKind.i64.wrap (i - (1:Int))),(t3005++[(y_1.1,y_2,y_1.2.2.1,y_1.2.2.2.1,y_1.2.2.2.2.1,y_1.2.2.2.2.2)]))))
   (k_ (.inr (i,t3005)))
def jw.c100006s:Shape:=⟨[(0,ct4),(1,ct5),(2,ct6),(3,ct7),(4,ct23),(5,ct19),(6,ct2)],[(1,ct8),(2,ct8),(3,ct17),(4,ct17),(5,ct26),(3005,ct10)]⟩
def jw.c100006x0:Shape:=jw.c100006s
def jw.c100006r:Ck:=Ck.ofLoop (S:=(Int)×(List ((Int)×((Int)×((List Int)×((Int)×((Int)×(List Int)))))))) (T:=(Int)×(List ((Int)×((Int)×((List Int)×((Int)×((Int)×(List Int)))))))) jw.c100006s (fun x_=>(x_.2.1,x_.2.2.2.2.2.2.2.2.2.2.2.2.2.2.1)) (fun ρ x_ s_ k_=>jw.c100006 s_.1 x_.2.2.2.2.1 s_.2 k_) (fun ρ x_ r_ k_=>k_ 2 (Shape.inj jw.c100006x0 (x_.1,r_.1,x_.2.2.1,x_.2.2.2.1,x_.2.2.2.2.1,x_.2.2.2.2.2.1,x_.2.2.2.2.2.2.1,x_.2.2.2.2.2.2.2.1,x_.2.2.2.2.2.2.2.2.1,x_.2.2.2.2.2.2.2.2.2.1,x_.2.2.2.2.2.2.2.2.2.2.1,x_.2.2.2.2.2.2.2.2.2.2.2.1,x_.2.2.2.2.2.2.2.2.2.2.2.2.1,x_.2.2.2.2.2.2.2.2.2.2.2.2.2.1,r_.2,())))
def jw.c12 {ρ:Type}  (k_:Unit→Option ρ):Option ρ:=
  k_ ()
def jw.c12s:Shape:=jw.c100006s
def jw.c12x0:Shape:=⟨[(0,ct4),(1,ct5),(2,ct6),(3,ct7),(4,ct23),(5,ct19),(6,ct2)],[(1,ct8),(2,ct26),(3,ct17),(4,ct17),(5,ct26),(3005,ct10)]⟩
def jw.c12r:Ck:=Ck.of (T:=Unit) jw.c12s (fun ρ x_ k_=>jw.c12  k_) (fun ρ x_ r_ k_=>k_ 0 (Shape.inj jw.c12x0 (x_.1,x_.2.1,x_.2.2.1,x_.2.2.2.1,x_.2.2.2.2.1,x_.2.2.2.2.2.2.2.2.2.2.2.2.1,x_.2.2.2.2.2.2.2.2.2.2.2.2.2.1,x_.2.2.2.2.2.2.2.2.2.2.1,x_.2.2.2.2.2.2.2.2.2.2.2.1,x_.2.2.2.2.2.2.2.2.2.2)))
def jw (c:(Int)×((Int)×(List ((Int)×((Int)×((List Int)×((Int)×((Int)×(List Int))))))))):Option (((Int)×((Int)×(List ((Int)×((Int)×((List Int)×((Int)×((Int)×(List Int)))))))))×((Int)×(Int))):=
  bnd (W.Jf (c.1,c.2.1,c.2.2)) fun y=>
  br (y.1 != (0:Int))
   (bnd (W.jw.c3 some) fun y_1=>
    some (((0:Int),(0:Int),[]),y.1,y.2))
   (bnd (iter (fun s↦W.jw.c100006 s.1 c.2.2 s.2 some) (IntKind.i64.wrap ((↑(List.length c.2.2):Int) - (1:Int)),[])) fun y_2=>
    bnd (W.jw.c12 some) fun y_3=>
    some ((c.1,c.2.1,y_2.2),y.1,y.2))
def jw.ce:Go.Ql.Callee:=⟨[(.st (.pair (.int .i64) (.pair (.int .i64) (.sl (.st (.pair (.int .i64) (.pair (.int .i64) (.pair (.sl (.int .i64)) (.pair (.int .i64) (.pair (.int .i64) (.sl (.int .i64))))))))))))],[(.st (.pair (.int .i64) (.pair (.int .i64) (.sl (.st (.pair (.int .i64) (.pair (.int .i64) (.pair (.sl (.int .i64)) (.pair (.int .i64) (.pair (.int .i64) (.sl (.int .i64)))))))))))),(.st (.pair (.int .i64) (.int .i64)))],fun x_=>jw x_⟩
def jw.G:Env:=⟨49,tab,[(17,Jf.ce),(37,JH.ce)],[0,1,2,3,4,5,6,7,12,25,36],[1,5,19,3001,3005],[(12,[⟨[],[],[48],[]⟩,⟨[],[],[47],[2]⟩,⟨[0],[2],[48],[]⟩,⟨[1,2,0],[3],[],[]⟩]),
  (3,[⟨[],[],[14],[]⟩,⟨[],[],[13],[2]⟩,⟨[0],[2],[14],[]⟩,⟨[1,2,0],[3],[],[]⟩])],[(12,jw.c12r),(100006,jw.c100006r),(236869,jw.c236869r),(3,jw.c3r)],[],Jc,[]⟩
theorem jw.eq (x_:dens jw.ce.params):den jw.G Tryd.f24 jw.ce.params jw.ce.res x_=jw.ce.F x_:=by kernel_rfl
theorem jw.p0:PcA jw.G Tryd.f24 0:=
  jC (s:=jw.c3r) (by kernel_rfl) (by kernel_rfl) (jH (sh:=jw.c3s) (fun ρ x_ k_=>ja) (fun ρ x_ t k=>(by kernel_rfl)) (fun x_=>by kernel_rfl))
theorem jw.p1:PcA jw.G Tryd.f24 1:=
  JD (s:=jw.c100006r) (by kernel_rfl) (by kernel_rfl) (Ju (sh:=jw.c100006s) (I:=fun x_ s_=>(x_.1,s_.1,x_.2.2.1,x_.2.2.2.1,x_.2.2.2.2.1,x_.2.2.2.2.2.1,x_.2.2.2.2.2.2.1,x_.2.2.2.2.2.2.2.1,x_.2.2.2.2.2.2.2.2.1,x_.2.2.2.2.2.2.2.2.2.1,x_.2.2.2.2.2.2.2.2.2.2.1,x_.2.2.2.2.2.2.2.2.2.2.2.1,x_.2.2.2.2.2.2.2.2.2.2.2.2.1,x_.2.2.2.2.2.2.2.2.2.2.2.2.2.1,s_.2,())) (fun x_=>rfl) (fun ρ x_ s_ k_=>(jr (jf fun _=>(jf fun _=>(jf fun _=>(jf fun _=>ja)))) ja)) (fun ρ x_ t k=>(by kernel_rfl)) (fun x_ s=>by kernel_rfl))
theorem jw.p2:PcA jw.G Tryd.f24 2:=
  kG (s:=jw.c236869r) (by kernel_rfl) (by kernel_rfl) (jH (sh:=jw.c236869s) (fun ρ x_ k_=>(jr ja ja)) (fun ρ x_ t k=>(by kernel_rfl)) (fun x_=>by kernel_rfl))
theorem jw.p3:PcA jw.G Tryd.f24 3:=
  jC (s:=jw.c12r) (by kernel_rfl) (by kernel_rfl) (jH (sh:=jw.c12s) (fun ρ x_ k_=>ja) (fun ρ x_ t k=>(by kernel_rfl)) (fun x_=>by kernel_rfl))
theorem jw.ok:CalleeOk Tryd.prog 24 jw.ce:=fn_ok (G:=jw.G) Jm mixed Tryd.func24 ⟨(jL Jf.ok (jL JH.ok Je)),jW,jK,jV⟩ (m:=4) (by kernel_rfl) ⟨⟨⟨⟨trivial,jw.p0⟩,jw.p1⟩,jw.p2⟩,jw.p3⟩ (by kernel_rfl) jw.eq
def JV  : Option ((Int)×((Int)×(List ((Int)×((Int)×((List Int)×((Int)×((Int)×(List Int))))))))):=
  some ((2:Int),(1:Int),[((3:Int),(0:Int),[],(0:Int),(0:Int),[]),((2:Int),(0:Int),[(0:Int)],(1:Int),(0:Int),[]),((5:Int),(0:Int),[],(1:Int),(0:Int),[(-1:Int)])])
def JV.ce:Go.Ql.Callee:=⟨[],[(.st (.pair (.int .i64) (.pair (.int .i64) (.sl (.st (.pair (.int .i64) (.pair (.int .i64) (.pair (.sl (.int .i64)) (.pair (.int .i64) (.pair (.int .i64) (.sl (.int .i64))))))))))))],fun x_=>JV⟩
def JV.G:Env:=⟨8,tab,[],[0],[],[],[],[],Jc,[]⟩
theorem JV.eq (x_:dens JV.ce.params):den JV.G Tryd.f39 JV.ce.params JV.ce.res x_=JV.ce.F x_:=by kernel_rfl
theorem JV.ok:CalleeOk Tryd.prog 39 JV.ce:=fn_ok (G:=JV.G) Jm mixed Tryd.func39 ⟨Je,jW,jK,jV⟩ (m:=0) (by kernel_rfl) trivial (by kernel_rfl) JV.eq
def istrconv_small (i:Int):Option (List UInt8):=
  br (decide (i < (10:Int)))
   (bnd (okIf (decide ((0:Int)≤i) && decide (i≤IntKind.i64.wrap (i+(1:Int))) && decide (IntKind.i64.wrap (i+(1:Int))≤(↑(List.length (Array.toList (ByteArray.data (ByteArray.mk #[(48:UInt8),(49:UInt8),(50:UInt8),(51:UInt8),(52:UInt8),(53:UInt8),(54:UInt8),(55:UInt8),(56:UInt8),(57:UInt8),(97:UInt8),(98:UInt8),(99:UInt8),(100:UInt8),(101:UInt8),(102:UInt8),(103:UInt8),(104:UInt8),(105:UInt8),(106:UInt8),(107:UInt8),(108:UInt8),(109:UInt8),(110:UInt8),(111:UInt8),(112:UInt8),(113:UInt8),(114:UInt8),(115:UInt8),(116:UInt8),(117:UInt8),(118:UInt8),(119:UInt8),(120:UInt8),(121:UInt8),(122:UInt8)])))):Int)))) fun y=>
    some (List.drop (Int.toNat i) (List.take (Int.toNat (IntKind.i64.wrap (i+(1:Int)))) (Array.toList (ByteArray.data (ByteArray.mk #[(48:UInt8),(49:UInt8),(50:UInt8),(51:UInt8),(52:UInt8),(53:UInt8),(54:UInt8),(55:UInt8),(56:UInt8),(57:UInt8),(97:UInt8),(98:UInt8),(99:UInt8),(100:UInt8),(101:UInt8),(102:UInt8),(103:UInt8),(104:UInt8),(105:UInt8),(106:UInt8),(107:UInt8),(108:UInt8),(109:UInt8),(110:UInt8),(111:UInt8),(112:UInt8),(113:UInt8),(114:UInt8),(115:UInt8),(116:UInt8),(117:UInt8),(118:UInt8),(119:UInt8),(120:UInt8),(121:UInt8),(122:UInt8)]))))))
   (bnd (okIf (decide ((0:Int)≤IntKind.i64.wrap (i*(2:Int))) && decide (IntKind.i64.wrap (i*(2:Int))≤IntKind.i64.wrap (IntKind.i64.wrap (i*(2:Int))+(2:Int))) && decide (IntKind.i64.wrap (IntKind.i64.wrap (i*(2:Int))+(2:Int))≤(↑(List.length (Array.toList (ByteArray.data (ByteArray.mk (List.toArray (List.append (List.append [(48:UInt8),(48:UInt8),(48:UInt8),(49:UInt8),(48:UInt8),(50:UInt8),(48:UInt8),(51:UInt8),(48:UInt8),(52:UInt8),(48:UInt8),(53:UInt8),(48:UInt8),(54:UInt8),(48:UInt8),(55:UInt8),(48:UInt8),(56:UInt8),(48:UInt8),(57:UInt8),(49:UInt8),(48:UInt8),(49:UInt8),(49:UInt8),(49:UInt8),(50:UInt8),(49:UInt8),(51:UInt8),(49:UInt8),(52:UInt8),(49:UInt8),(53:UInt8),(49:UInt8),(54:UInt8),(49:UInt8),(55:UInt8),(49:UInt8),(56:UInt8),(49:UInt8),(57:UInt8),(50:UInt8),(48:UInt8),(50:UInt8),(49:UInt8),(50:UInt8),(50:UInt8),(50:UInt8),(51:UInt8),(50:UInt8),(52:UInt8)] [(50:UInt8),(53:UInt8),(50:UInt8),(54:UInt8),(50:UInt8),(55:UInt8),(50:UInt8),(56:UInt8),(50:UInt8),(57:UInt8),(51:UInt8),(48:UInt8),(51:UInt8),(49:UInt8),(51:UInt8),(50:UInt8),(51:UInt8),(51:UInt8),(51:UInt8),(52:UInt8),(51:UInt8),(53:UInt8),(51:UInt8),(54:UInt8),(51:UInt8),(55:UInt8),(51:UInt8),(56:UInt8),(51:UInt8),(57:UInt8),(52:UInt8),(48:UInt8),(52:UInt8),(49:UInt8),(52:UInt8),(50:UInt8),(52:UInt8),(51:UInt8),(52:UInt8),(52:UInt8),(52:UInt8),(53:UInt8),(52:UInt8),(54:UInt8),(52:UInt8),(55:UInt8),(52:UInt8),(56:UInt8),(52:UInt8),(57:UInt8)]) (List.append [(53:UInt8),(48:UInt8),(53:UInt8),(49:UInt8),(53:UInt8),(50:UInt8),(53:UInt8),(51:UInt8),(53:UInt8),(52:UInt8),(53:UInt8),(53:UInt8),(53:UInt8),(54:UInt8),(53:UInt8),(55:UInt8),(53:UInt8),(56:UInt8),(53:UInt8),(57:UInt8),(54:UInt8),(48:UInt8),(54:UInt8),(49:UInt8),(54:UInt8),(50:UInt8),(54:UInt8),(51:UInt8),(54:UInt8),(52:UInt8),(54:UInt8),(53:UInt8),(54:UInt8),(54:UInt8),(54:UInt8),(55:UInt8),(54:UInt8),(56:UInt8),(54:UInt8),(57:UInt8),(55:UInt8),(48:UInt8),(55:UInt8),(49:UInt8),(55:UInt8),(50:UInt8),(55:UInt8),(51:UInt8),(55:UInt8),(52:UInt8)] [(55:UInt8),(53:UInt8),(55:UInt8),(54:UInt8),(55:UInt8),(55:UInt8),(55:UInt8),(56:UInt8),(55:UInt8),(57:UInt8),(56:UInt8),(48:UInt8),(56:UInt8),(49:UInt8),(56:UInt8),(50:UInt8),(56:UInt8),(51:UInt8),(56:UInt8),(52:UInt8),(56:UInt8),(53:UInt8),(56:UInt8),(54:UInt8),(56:UInt8),(55:UInt8),(56:UInt8),(56:UInt8),(56:UInt8),(57:UInt8),(57:UInt8),(48:UInt8),(57:UInt8),(49:UInt8),(57:UInt8),(50:UInt8),(57:UInt8),(51:UInt8),(57:UInt8),(52:UInt8),(57:UInt8),(53:UInt8),(57:UInt8),(54:UInt8),(57:UInt8),(55:UInt8),(57:UInt8),(56:UInt8),(57:UInt8),(57:UInt8)]))))))):Int)))) fun y_1=>
    some (List.drop (Int.toNat (IntKind.i64.wrap (i*(2:Int)))) (List.take (Int.toNat (IntKind.i64.wrap (IntKind.i64.wrap (i*(2:Int))+(2:Int)))) (Array.toList (ByteArray.data (ByteArray.mk (List.toArray (List.append (List.append [(48:UInt8),(48:UInt8),(48:UInt8),(49:UInt8),(48:UInt8),(50:UInt8),(48:UInt8),(51:UInt8),(48:UInt8),(52:UInt8),(48:UInt8),(53:UInt8),(48:UInt8),(54:UInt8),(48:UInt8),(55:UInt8),(48:UInt8),(56:UInt8),(48:UInt8),(57:UInt8),(49:UInt8),(48:UInt8),(49:UInt8),(49:UInt8),(49:UInt8),(50:UInt8),(49:UInt8),(51:UInt8),(49:UInt8),(52:UInt8),(49:UInt8),(53:UInt8),(49:UInt8),(54:UInt8),(49:UInt8),(55:UInt8),(49:UInt8),(56:UInt8),(49:UInt8),(57:UInt8),(50:UInt8),(48:UInt8),(50:UInt8),(49:UInt8),(50:UInt8),(50:UInt8),(50:UInt8),(51:UInt8),(50:UInt8),(52:UInt8)] [(50:UInt8),(53:UInt8),(50:UInt8),(54:UInt8),(50:UInt8),(55:UInt8),(50:UInt8),(56:UInt8),(50:UInt8),(57:UInt8),(51:UInt8),(48:UInt8),(51:UInt8),(49:UInt8),(51:UInt8),(50:UInt8),(51:UInt8),(51:UInt8),(51:UInt8),(52:UInt8),(51:UInt8),(53:UInt8),(51:UInt8),(54:UInt8),(51:UInt8),(55:UInt8),(51:UInt8),(56:UInt8),(51:UInt8),(57:UInt8),(52:UInt8),(48:UInt8),(52:UInt8),(49:UInt8),(52:UInt8),(50:UInt8),(52:UInt8),(51:UInt8),(52:UInt8),(52:UInt8),(52:UInt8),(53:UInt8),(52:UInt8),(54:UInt8),(52:UInt8),(55:UInt8),(52:UInt8),(56:UInt8),(52:UInt8),(57:UInt8)]) (List.append [(53:UInt8),(48:UInt8),(53:UInt8),(49:UInt8),(53:UInt8),(50:UInt8),(53:UInt8),(51:UInt8),(53:UInt8),(52:UInt8),(53:UInt8),(53:UInt8),(53:UInt8),(54:UInt8),(53:UInt8),(55:UInt8),(53:UInt8),(56:UInt8),(53:UInt8),(57:UInt8),(54:UInt8),(48:UInt8),(54:UInt8),(49:UInt8),(54:UInt8),(50:UInt8),(54:UInt8),(51:UInt8),(54:UInt8),(52:UInt8),(54:UInt8),(53:UInt8),(54:UInt8),(54:UInt8),(54:UInt8),(55:UInt8),(54:UInt8),(56:UInt8),(54:UInt8),(57:UInt8),(55:UInt8),(48:UInt8),(55:UInt8),(49:UInt8),(55:UInt8),(50:UInt8),(55:UInt8),(51:UInt8),(55:UInt8),(52:UInt8)] [(55:UInt8),(53:UInt8),(55:UInt8),(54:UInt8),(55:UInt8),(55:UInt8),(55:UInt8),(56:UInt8),(55:UInt8),(57:UInt8),(56:UInt8),(48:UInt8),(56:UInt8),(49:UInt8),(56:UInt8),(50:UInt8),(56:UInt8),(51:UInt8),(56:UInt8),(52:UInt8),(56:UInt8),(53:UInt8),(56:UInt8),(54:UInt8),(56:UInt8),(55:UInt8),(56:UInt8),(56:UInt8),(56:UInt8),(57:UInt8),(57:UInt8),(48:UInt8),(57:UInt8),(49:UInt8),(57:UInt8),(50:UInt8),(57:UInt8),(51:UInt8),(57:UInt8),(52:UInt8),(57:UInt8),(53:UInt8),(57:UInt8),(54:UInt8),(57:UInt8),(55:UInt8),(57:UInt8),(56:UInt8),(57:UInt8),(57:UInt8)])))))))))
def istrconv_small.ce:Go.Ql.Callee:=⟨[(.int .i64)],[.str],fun x_=>istrconv_small x_⟩
def istrconv_small.G:Env:=⟨15,tab,[],[0,2,4],[],[],[],[],Jc,[]⟩
theorem istrconv_small.eq (x_:dens istrconv_small.ce.params):den istrconv_small.G Tryd.f91 istrconv_small.ce.params istrconv_small.ce.res x_=istrconv_small.ce.F x_:=by kernel_rfl
theorem istrconv_small.ok:CalleeOk Tryd.prog 91 istrconv_small.ce:=fn_ok (G:=istrconv_small.G) Jm mixed Tryd.func91 ⟨Je,jW,jK,jV⟩ (m:=0) (by kernel_rfl) trivial (by kernel_rfl) istrconv_small.eq
abbrev ct28:SD:=.one (.val .str)
abbrev ct29:SD:=.one (.val (.int .u64))
abbrev ct30:SO:=.arr 0 false 118 (.int .u8)
def istrconv_FormatInt.c2 {ρ:Type} (i:Int) (k_:Bool→Option ρ):Option ρ:=
  br (decide ((0:Int)≤i))
   (k_ (decide (i < (100:Int))))
   (k_ false)
def istrconv_FormatInt.c2s:Shape:=⟨[(0,ct2),(1,ct2),(4,ct28)],[]⟩
def istrconv_FormatInt.c2x0:Shape:=⟨[(0,ct2),(1,ct2),(4,ct28),(17,ct11)],[]⟩
def istrconv_FormatInt.c2r:Ck:=Ck.of (T:=Bool) istrconv_FormatInt.c2s (fun ρ x_ k_=>istrconv_FormatInt.c2 x_.1 k_) (fun ρ x_ r_ k_=>k_ 0 (Shape.inj istrconv_FormatInt.c2x0 (x_.1,x_.2.1,x_.2.2.1,r_,())))
def istrconv_FormatInt.c224581 {ρ:Type} (i:Int) (u:Int) (k_:Int→Option ρ):Option ρ:=
  br (decide (i < (0:Int)))
   (k_ (IntKind.u64.wrap ((0:Int) - u)))
   (k_ u)
def istrconv_FormatInt.c224581s:Shape:=⟨[(0,ct2),(1,ct2),(4,ct28),(5,ct15),(6,ct29)],[(5,ct30)]⟩
def istrconv_FormatInt.c224581x0:Shape:=istrconv_FormatInt.c224581s
def istrconv_FormatInt.c224581r:Ck:=Ck.of (T:=Int) istrconv_FormatInt.c224581s (fun ρ x_ k_=>istrconv_FormatInt.c224581 x_.1 x_.2.2.2.1 k_) (fun ρ x_ r_ k_=>k_ 0 (Shape.inj istrconv_FormatInt.c224581x0 (x_.1,x_.2.1,x_.2.2.1,r_,x_.2.2.2.2)))
def istrconv_FormatInt (i:Int) (base:Int):Option (List UInt8):=
  br (base == (10:Int))
   (bnd (W.istrconv_FormatInt.c2 i some) fun y=>
    br y
     (bnd (W.istrconv_small i) fun y_1=>
      some y_1)
     (bnd (W.istrconv_FormatInt.c224581 i (IntKind.wrap IntKind.u64 i) some) fun y_2=>
      none))
   (none)
def istrconv_FormatInt.ce:Go.Ql.Callee:=⟨[(.int .i64),(.int .i64)],[.str],fun x_=>istrconv_FormatInt x_.1 x_.2⟩
def istrconv_FormatInt.G:Env:=⟨54,tab,[(91,istrconv_small.ce)],[0,1,4,5,6,7,9,11,17,23,34],[5],[],[(224581,istrconv_FormatInt.c224581r),(2,istrconv_FormatInt.c2r)],[],Jc,[]⟩
theorem istrconv_FormatInt.eq (x_:dens istrconv_FormatInt.ce.params):den istrconv_FormatInt.G Tryd.f85 istrconv_FormatInt.ce.params istrconv_FormatInt.ce.res x_=istrconv_FormatInt.ce.F x_:=by kernel_rfl
theorem istrconv_FormatInt.p0:PcA istrconv_FormatInt.G Tryd.f85 0:=
  jC (s:=istrconv_FormatInt.c2r) (by kernel_rfl) (by kernel_rfl) (jH (sh:=istrconv_FormatInt.c2s) (fun ρ x_ k_=>(jr ja ja)) (fun ρ x_ t k=>(by kernel_rfl)) (fun x_=>by kernel_rfl))
theorem istrconv_FormatInt.p1:PcA istrconv_FormatInt.G Tryd.f85 1:=
  kG (s:=istrconv_FormatInt.c224581r) (by kernel_rfl) (by kernel_rfl) (jH (sh:=istrconv_FormatInt.c224581s) (fun ρ x_ k_=>(jr ja ja)) (fun ρ x_ t k=>(by kernel_rfl)) (fun x_=>by kernel_rfl))
theorem istrconv_FormatInt.ok:CalleeOk Tryd.prog 85 istrconv_FormatInt.ce:=fn_ok (G:=istrconv_FormatInt.G) Jm mixed Tryd.func85 ⟨(jL istrconv_small.ok Je),jW,jK,jV⟩ (m:=2) (by kernel_rfl) ⟨⟨trivial,istrconv_FormatInt.p0⟩,istrconv_FormatInt.p1⟩ (by kernel_rfl) istrconv_FormatInt.eq
def istrconv_Itoa (i:Int):Option (List UInt8):=
  bnd (W.istrconv_FormatInt i (10:Int)) fun y=>
  some y
def istrconv_Itoa.ce:Go.Ql.Callee:=⟨[(.int .i64)],[.str],fun x_=>istrconv_Itoa x_⟩
def istrconv_Itoa.G:Env:=⟨5,tab,[(85,istrconv_FormatInt.ce)],[0,2],[],[],[],[],Jc,[]⟩
theorem istrconv_Itoa.eq (x_:dens istrconv_Itoa.ce.params):den istrconv_Itoa.G Tryd.f73 istrconv_Itoa.ce.params istrconv_Itoa.ce.res x_=istrconv_Itoa.ce.F x_:=by kernel_rfl
theorem istrconv_Itoa.ok:CalleeOk Tryd.prog 73 istrconv_Itoa.ce:=fn_ok (G:=istrconv_Itoa.G) Jm mixed Tryd.func73 ⟨(jL istrconv_FormatInt.ok Je),jW,jK,jV⟩ (m:=0) (by kernel_rfl) trivial (by kernel_rfl) istrconv_Itoa.eq
def Jl (i:Int):Option (List UInt8):=
  bnd (W.istrconv_Itoa i) fun y=>
  some y
def Jl.ce:Go.Ql.Callee:=⟨[(.int .i64)],[.str],fun x_=>Jl x_⟩
def Jl.G:Env:=⟨5,tab,[(73,istrconv_Itoa.ce)],[0,2],[],[],[],[],Jc,[]⟩
theorem Jl.eq (x_:dens Jl.ce.params):den Jl.G Tryd.f55 Jl.ce.params Jl.ce.res x_=Jl.ce.F x_:=by kernel_rfl
theorem Jl.ok:CalleeOk Tryd.prog 55 Jl.ce:=fn_ok (G:=Jl.G) Jm mixed Tryd.func55 ⟨(jL istrconv_Itoa.ok Je),jW,jK,jV⟩ (m:=0) (by kernel_rfl) trivial (by kernel_rfl) Jl.eq
abbrev ct31:SD:=.one (.ref 1000000 0)
abbrev ct32:SO:=.box [.selfp 1000000 72,.own 1000001 0]
abbrev ct33:SO:=.arr 0 false 5 (.int .u8)
abbrev ct34:SD:=.one (.val (.nilv 1))
def jo.pre:Shape:=⟨[(0,ct31),(1,ct28)],[(1000000,ct32),(1000001,ct33)]⟩
def jo.post:Shape:=⟨[(0,ct2),(1,ct34)],[(1000001,ct33),(1000000,ct32)]⟩
def jo (s:List UInt8) (t1000001:List (Int)):Option ((Int)×(Unit)×(List Int)×Unit):=
  bnd (W.jR t1000001) fun y=>
  bnd (okIf (decide (List.length y.1+List.length s≤(140737488355328:Nat)))) fun y_1=>
  some ((↑(List.length s):Int),(),y.1++List.map (fun b↦(↑(UInt8.toNat b):Int)) s,())
def jo.mc:MCallee:=⟨54,jo.pre,jo.post,fun x_=>jo x_.1 x_.2.1⟩
def jo.G:Env:=⟨19,tab,[],[0,1,4,5],[1000000,1000001],[],[],[(72,jR.mc)],Jc,[]⟩
theorem jo.eq (x_:densU jo.mc.pre.tys):denM jo.G Tryd.f54 jo.mc.pre jo.mc.post x_=jo.mc.F x_:=by kernel_rfl
theorem jo.ok:MOk Tryd.prog 54 jo.mc:=kW (G:=jo.G) Jm mixed Tryd.func54 ⟨Je,(JG jR.ok jW),jK,jV⟩ (m:=0) (by kernel_rfl) trivial (by kernel_rfl) jo.eq
def JS (kind:Int):Option (List UInt8):=
  br (kind == (1:Int))
   (some (Array.toList (ByteArray.data (ByteArray.mk #[(112:UInt8),(104:UInt8),(97:UInt8),(115:UInt8),(101:UInt8)]))))
   (br (kind == (2:Int))
     (some (Array.toList (ByteArray.data (ByteArray.mk #[(120:UInt8)]))))
     (br (kind == (3:Int))
       (some (Array.toList (ByteArray.data (ByteArray.mk #[(104:UInt8)]))))
       (br (kind == (4:Int))
         (some (Array.toList (ByteArray.data (ByteArray.mk #[(112:UInt8)]))))
         (br (kind == (5:Int))
           (some (Array.toList (ByteArray.data (ByteArray.mk #[(109:UInt8),(101:UInt8),(97:UInt8),(115:UInt8),(117:UInt8),(114:UInt8),(101:UInt8)]))))
           (some (Array.toList (ByteArray.data (ByteArray.mk #[(114:UInt8),(101:UInt8),(115:UInt8),(101:UInt8),(116:UInt8)]))))))))
def JS.ce:Go.Ql.Callee:=⟨[(.int .i64)],[.str],fun x_=>JS x_⟩
def JS.G:Env:=⟨14,tab,[],[0,2,3,4,6,8,10,12],[],[],[],[],Jc,[]⟩
theorem JS.eq (x_:dens JS.ce.params):den JS.G Tryd.f75 JS.ce.params JS.ce.res x_=JS.ce.F x_:=by kernel_rfl
theorem JS.ok:CalleeOk Tryd.prog 75 JS.ce:=fn_ok (G:=JS.G) Jm mixed Tryd.func75 ⟨Je,jW,jK,jV⟩ (m:=0) (by kernel_rfl) trivial (by kernel_rfl) JS.eq
abbrev ct35:SD:=.one (.val (.int .u8))
def jI.pre:Shape:=⟨[(0,ct31),(1,ct35)],[(1000000,ct32),(1000001,ct33)]⟩
def jI.post:Shape:=⟨[(0,ct34)],[(1000001,ct33),(1000000,ct32)]⟩
def jI (c:Int) (t1000001:List (Int)):Option ((Unit)×(List Int)×Unit):=
  bnd (W.jR t1000001) fun y=>
  bnd (okIf (decide ((List.length y.1+(1:Nat))*(1:Nat)≤(140737488355328:Nat)) && decide (List.length y.1+(1:Nat)≤(140737488355328:Nat)))) fun y_1=>
  some ((),y.1++[c],())
def jI.mc:MCallee:=⟨76,jI.pre,jI.post,fun x_=>jI x_.1 x_.2.1⟩
def jI.G:Env:=⟨17,tab,[],[0,1,4],[1000000,1000001],[],[],[(72,jR.mc)],Jc,[]⟩
theorem jI.eq (x_:densU jI.mc.pre.tys):denM jI.G Tryd.f76 jI.mc.pre jI.mc.post x_=jI.mc.F x_:=by kernel_rfl
theorem jI.ok:MOk Tryd.prog 76 jI.mc:=kW (G:=jI.G) Jm mixed Tryd.func76 ⟨Je,(JG jR.ok jW),jK,jV⟩ (m:=0) (by kernel_rfl) trivial (by kernel_rfl) jI.eq
abbrev ct36:SO:=.box [.ref 1000200 0]
abbrev ct37:SO:=.box [.selfp 1000200 72,.own 1000201 0]
def jz.pre:Shape:=⟨[(0,ct0),(1,ct13)],[(1000100,ct36),(1000200,ct37),(1000201,ct33)]⟩
def jz.post:Shape:=⟨[],[(1000201,ct33),(1000200,ct37),(1000100,ct36)]⟩
def jz.c3 {ρ:Type} (n:Int) (t1000201:List (Int)) (k_:List (Int)→Option ρ):Option ρ:=
  bnd (W.Jl n) fun y=>
  bnd (okIf (decide (List.length (Array.toList (ByteArray.data (ByteArray.mk #[(32:UInt8)])))+List.length y≤(9223372036854775807:Nat)))) fun y_1=>
  bnd (W.jo (Array.toList (ByteArray.data (ByteArray.mk #[(32:UInt8)]))++y) t1000201) fun y_2=>
  k_ y_2.2.2.1
def jz.c3s:Shape:=⟨[(0,ct0),(1,ct13),(4,ct2),(5,ct0),(6,ct2),(7,ct2)],[(1000100,ct36),(1000200,ct37),(1000201,ct33)]⟩
def jz.c3x0:Shape:=jz.c3s
def jz.c3r:Ck:=Ck.of (T:=List (Int)) jz.c3s (fun ρ x_ k_=>jz.c3 x_.2.1 x_.2.2.2.2.2.1 k_) (fun ρ x_ r_ k_=>k_ 0 (Shape.inj jz.c3x0 (x_.1,x_.2.1,x_.2.2.1,x_.2.2.2.1,x_.2.2.2.2.1,r_,())))
def jz.c100001 {ρ:Type} (t5:List (Int)) (t6:Int) (t7:Int) (t1000201:List (Int)) (k_:((Int)×(List Int))⊕((Int)×(List Int))→Option ρ):Option ρ:=
  br (decide (t7 < t6))
   (bnd (idx t5 t7) fun y=>
    bnd (W.jz.c3 y t1000201 some) fun y_1=>
    k_ (.inl ((IntKind.i64.wrap (t7+(1:Int))),y_1)))
   (k_ (.inr (t7,t1000201)))
def jz.c100001s:Shape:=⟨[(0,ct0),(1,ct13),(5,ct0),(6,ct2),(7,ct2)],[(1000100,ct36),(1000200,ct37),(1000201,ct33)]⟩
def jz.c100001x0:Shape:=jz.c100001s
def jz.c100001r:Ck:=Ck.ofLoop (S:=(Int)×(List Int)) (T:=(Int)×(List Int)) jz.c100001s (fun x_=>(x_.2.2.2.1,x_.2.2.2.2.1)) (fun ρ x_ s_ k_=>jz.c100001 x_.2.1 x_.2.2.1 s_.1 s_.2 k_) (fun ρ x_ r_ k_=>k_ 2 (Shape.inj jz.c100001x0 (x_.1,x_.2.1,x_.2.2.1,r_.1,r_.2,())))
def jz (ns:List (Int)) (t1000201:List (Int)):Option ((List Int)×Unit):=
  bnd (iter (fun s↦W.jz.c100001 ns (↑(List.length ns):Int) s.1 s.2 some) ((0:Int),t1000201)) fun y=>
  some (y.2,())
def jz.mc:MCallee:=⟨74,jz.pre,jz.post,fun x_=>jz x_.1 x_.2.1⟩
def jz.G:Env:=⟨17,tab,[(55,Jl.ce)],[0,1,4,5,6,7,8],[1000100,1000200,1000201],[(3,[⟨[],[],[12,13,14],[]⟩,⟨[],[],[11],[]⟩,⟨[1],[],[11],[]⟩,⟨[2,1],[],[11],[]⟩,⟨[0,3,2,1],[1000201,1000200],[],[]⟩])],[(100001,jz.c100001r),(3,jz.c3r)],[(54,jo.mc)],Jc,[]⟩
theorem jz.eq (x_:densU jz.mc.pre.tys):denM jz.G Tryd.f74 jz.mc.pre jz.mc.post x_=jz.mc.F x_:=by kernel_rfl
theorem jz.p0:PcA jz.G Tryd.f74 0:=
  JD (s:=jz.c100001r) (by kernel_rfl) (by kernel_rfl) (Ju (sh:=jz.c100001s) (I:=fun x_ s_=>(x_.1,x_.2.1,x_.2.2.1,s_.1,s_.2,())) (fun x_=>rfl) (fun ρ x_ s_ k_=>(jr (jf fun _=>(jf fun _=>ja)) ja)) (fun ρ x_ t k=>(by kernel_rfl)) (fun x_ s=>by kernel_rfl))
theorem jz.p1:PcA jz.G Tryd.f74 1:=
  jC (s:=jz.c3r) (by kernel_rfl) (by kernel_rfl) (jH (sh:=jz.c3s) (fun ρ x_ k_=>(jf fun _=>(jf fun _=>(jf fun _=>ja)))) (fun ρ x_ t k=>(by kernel_rfl)) (fun x_=>by kernel_rfl))
theorem jz.ok:MOk Tryd.prog 74 jz.mc:=kW (G:=jz.G) Jm mixed Tryd.func74 ⟨(jL Jl.ok Je),(JG jo.ok jW),jK,jV⟩ (m:=2) (by kernel_rfl) ⟨⟨trivial,jz.p0⟩,jz.p1⟩ (by kernel_rfl) jz.eq
abbrev ct38:SD:=.one (.clo 7)
abbrev ct39:SO:=.box [.ref 1000000 0]
abbrev ct40:SO:=.clo 74 [] [.ref 2 0]
def jc.pre:Shape:=⟨[(0,ct31),(1,ct12)],[(1000000,ct32),(1000001,ct33)]⟩
def jc.post:Shape:=⟨[],[(1000001,ct33),(1000000,ct32)]⟩
def jc.c2 {ρ:Type} (o0:Int) (t1000001:List (Int)) (k_:List (Int)→Option ρ):Option ρ:=
  bnd (W.JS o0) fun y=>
  bnd (W.jo y t1000001) fun y_1=>
  k_ y_1.2.2.1
def jc.c2s:Shape:=⟨[(0,ct31),(1,ct12),(2,ct6),(3,ct7),(4,ct38)],[(2,ct39),(3,ct14),(7,ct40),(1000000,ct32),(1000001,ct33)]⟩
def jc.c2x0:Shape:=jc.c2s
def jc.c2r:Ck:=Ck.of (T:=List (Int)) jc.c2s (fun ρ x_ k_=>jc.c2 x_.2.1 x_.2.2.2.2.2.2.2.1 k_) (fun ρ x_ r_ k_=>k_ 0 (Shape.inj jc.c2x0 (x_.1,x_.2.1,x_.2.2.1,x_.2.2.2.1,x_.2.2.2.2.1,x_.2.2.2.2.2.1,x_.2.2.2.2.2.2.1,r_,())))
def jc.c212293 {ρ:Type} (o0:Int) (o1:Int) (t1000001:List (Int)) (k_:List (Int)→Option ρ):Option ρ:=
  bnd (W.Jb o0) fun y=>
  br y
   (bnd (W.jz [o1] t1000001) fun y_1=>
    k_ y_1.1)
   (k_ t1000001)
def jc.c212293s:Shape:=jc.c2s
def jc.c212293x0:Shape:=jc.c2s
def jc.c212293r:Ck:=Ck.of (T:=List (Int)) jc.c212293s (fun ρ x_ k_=>jc.c212293 x_.2.1 x_.2.2.1 x_.2.2.2.2.2.2.2.1 k_) (fun ρ x_ r_ k_=>k_ 0 (Shape.inj jc.c212293x0 (x_.1,x_.2.1,x_.2.2.1,x_.2.2.2.1,x_.2.2.2.2.1,x_.2.2.2.2.2.1,x_.2.2.2.2.2.2.1,r_,())))
def jc.c220485 {ρ:Type} (o0:Int) (o3:Int) (t1000001:List (Int)) (k_:List (Int)→Option ρ):Option ρ:=
  br (o0 != (1:Int))
   (bnd (W.jz [o3] t1000001) fun y=>
    k_ y.1)
   (k_ t1000001)
def jc.c220485s:Shape:=jc.c2s
def jc.c220485x0:Shape:=jc.c2s
def jc.c220485r:Ck:=Ck.of (T:=List (Int)) jc.c220485s (fun ρ x_ k_=>jc.c220485 x_.2.1 x_.2.2.2.2.1 x_.2.2.2.2.2.2.2.1 k_) (fun ρ x_ r_ k_=>k_ 0 (Shape.inj jc.c220485x0 (x_.1,x_.2.1,x_.2.2.1,x_.2.2.2.1,x_.2.2.2.2.1,x_.2.2.2.2.2.1,x_.2.2.2.2.2.2.1,r_,())))
def jc.c228679 {ρ:Type} (o2:List (Int)) (t1000001:List (Int)) (k_:List (Int)→Option ρ):Option ρ:=
  br (decide ((↑(List.length o2):Int) > (0:Int)))
   (bnd (W.jo (Array.toList (ByteArray.data (ByteArray.mk #[(32:UInt8),(111:UInt8),(110:UInt8)]))) t1000001) fun y=>
    bnd (W.jz o2 y.2.2.1) fun y_1=>
    k_ y_1.1)
   (k_ t1000001)
def jc.c228679s:Shape:=jc.c2s
def jc.c228679x0:Shape:=jc.c2s
def jc.c228679r:Ck:=Ck.of (T:=List (Int)) jc.c228679s (fun ρ x_ k_=>jc.c228679 x_.2.2.2.1 x_.2.2.2.2.2.2.2.1 k_) (fun ρ x_ r_ k_=>k_ 0 (Shape.inj jc.c228679x0 (x_.1,x_.2.1,x_.2.2.1,x_.2.2.2.1,x_.2.2.2.2.1,x_.2.2.2.2.2.1,x_.2.2.2.2.2.2.1,r_,())))
def jc.c240967 {ρ:Type} (o0:Int) (o4:Int) (t1000001:List (Int)) (k_:List (Int)→Option ρ):Option ρ:=
  br (o0 == (5:Int))
   (bnd (W.jo (Array.toList (ByteArray.data (ByteArray.mk #[(32:UInt8),(116:UInt8),(111:UInt8)]))) t1000001) fun y=>
    bnd (W.jz [o4] y.2.2.1) fun y_1=>
    k_ y_1.1)
   (k_ t1000001)
def jc.c240967s:Shape:=jc.c2s
def jc.c240967x0:Shape:=jc.c2s
def jc.c240967r:Ck:=Ck.of (T:=List (Int)) jc.c240967s (fun ρ x_ k_=>jc.c240967 x_.2.1 x_.2.2.2.2.2.1 x_.2.2.2.2.2.2.2.1 k_) (fun ρ x_ r_ k_=>k_ 0 (Shape.inj jc.c240967x0 (x_.1,x_.2.1,x_.2.2.1,x_.2.2.2.1,x_.2.2.2.2.1,x_.2.2.2.2.2.1,x_.2.2.2.2.2.2.1,r_,())))
def jc.c19 {ρ:Type} (v:Int) (t1000001:List (Int)) (k_:List (Int)→Option ρ):Option ρ:=
  bnd (W.Jl (IntKind.i64.wrap (IntKind.i64.wrap ((0:Int) - v) - (1:Int)))) fun y=>
  bnd (okIf (decide (List.length (Array.toList (ByteArray.data (ByteArray.mk #[(32:UInt8),(33:UInt8)])))+List.length y≤(9223372036854775807:Nat)))) fun y_1=>
  bnd (W.jo (Array.toList (ByteArray.data (ByteArray.mk #[(32:UInt8),(33:UInt8)]))++y) t1000001) fun y_2=>
  k_ y_2.2.2.1
def jc.c19s:Shape:=⟨[(0,ct31),(1,ct12),(2,ct6),(3,ct7),(4,ct38),(6,ct2),(56,ct0),(57,ct2),(58,ct2)],[(2,ct39),(3,ct14),(7,ct40),(1000000,ct32),(1000001,ct33)]⟩
def jc.c19x0:Shape:=jc.c19s
def jc.c19r:Ck:=Ck.of (T:=List (Int)) jc.c19s (fun ρ x_ k_=>jc.c19 x_.2.1 x_.2.2.2.2.2.2.2.2.2.2.2.1 k_) (fun ρ x_ r_ k_=>k_ 0 (Shape.inj jc.c19x0 (x_.1,x_.2.1,x_.2.2.1,x_.2.2.2.1,x_.2.2.2.2.1,x_.2.2.2.2.2.1,x_.2.2.2.2.2.2.1,x_.2.2.2.2.2.2.2.1,x_.2.2.2.2.2.2.2.2.1,x_.2.2.2.2.2.2.2.2.2.1,x_.2.2.2.2.2.2.2.2.2.2.1,r_,())))
def jc.c269640 {ρ:Type} (t56:List (Int)) (t58:Int) (t1000001:List (Int)) (k_:List (Int)→Option ρ):Option ρ:=
  bnd (idx t56 t58) fun y=>
  br (decide (y < (0:Int)))
   (bnd (W.jc.c19 y t1000001 some) fun y_1=>
    k_ y_1)
   (bnd (W.jz [IntKind.i64.wrap (y - (1:Int))] t1000001) fun y_2=>
    k_ y_2.1)
def jc.c269640s:Shape:=⟨[(0,ct31),(1,ct12),(2,ct6),(3,ct7),(4,ct38),(56,ct0),(57,ct2),(58,ct2)],[(2,ct39),(3,ct14),(7,ct40),(1000000,ct32),(1000001,ct33)]⟩
def jc.c269640x0:Shape:=jc.c269640s
def jc.c269640r:Ck:=Ck.of (T:=List (Int)) jc.c269640s (fun ρ x_ k_=>jc.c269640 x_.2.1 x_.2.2.2.1 x_.2.2.2.2.2.2.2.2.2.2.1 k_) (fun ρ x_ r_ k_=>k_ 0 (Shape.inj jc.c269640x0 (x_.1,x_.2.1,x_.2.2.1,x_.2.2.2.1,x_.2.2.2.2.1,x_.2.2.2.2.2.1,x_.2.2.2.2.2.2.1,x_.2.2.2.2.2.2.2.1,x_.2.2.2.2.2.2.2.2.1,x_.2.2.2.2.2.2.2.2.2.1,r_,())))
def jc.c100016 {ρ:Type} (t56:List (Int)) (t57:Int) (t58:Int) (t1000001:List (Int)) (k_:((Int)×(List Int))⊕((Int)×(List Int))→Option ρ):Option ρ:=
  br (decide (t58 < t57))
   (bnd (W.jc.c269640 t56 t58 t1000001 some) fun y=>
    k_ (.inl ((IntKind.i64.wrap (t58+(1:Int))),y)))
   (k_ (.inr (t58,t1000001)))
def jc.c100016s:Shape:=jc.c269640s
def jc.c100016x0:Shape:=jc.c269640s
def jc.c100016r:Ck:=Ck.ofLoop (S:=(Int)×(List Int)) (T:=(Int)×(List Int)) jc.c100016s (fun x_=>(x_.2.2.2.1,x_.2.2.2.2.2.2.2.2.2.2.1)) (fun ρ x_ s_ k_=>jc.c100016 x_.2.1 x_.2.2.1 s_.1 s_.2 k_) (fun ρ x_ r_ k_=>k_ 2 (Shape.inj jc.c100016x0 (x_.1,x_.2.1,x_.2.2.1,r_.1,x_.2.2.2.2.1,x_.2.2.2.2.2.1,x_.2.2.2.2.2.2.1,x_.2.2.2.2.2.2.2.1,x_.2.2.2.2.2.2.2.2.1,x_.2.2.2.2.2.2.2.2.2.1,r_.2,())))
def jc.c253274 {ρ:Type} (o5:List (Int)) (t1000001:List (Int)) (k_:List (Int)→Option ρ):Option ρ:=
  br (decide ((↑(List.length o5):Int) > (0:Int)))
   (bnd (W.jo (Array.toList (ByteArray.data (ByteArray.mk #[(32:UInt8),(105:UInt8),(102:UInt8)]))) t1000001) fun y=>
    bnd (iter (fun s↦W.jc.c100016 o5 (↑(List.length o5):Int) s.1 s.2 some) ((0:Int),y.2.2.1)) fun y_1=>
    k_ y_1.2)
   (k_ t1000001)
def jc.c253274s:Shape:=jc.c2s
def jc.c253274x0:Shape:=jc.c2s
def jc.c253274r:Ck:=Ck.of (T:=List (Int)) jc.c253274s (fun ρ x_ k_=>jc.c253274 x_.2.2.2.2.2.2.1 x_.2.2.2.2.2.2.2.1 k_) (fun ρ x_ r_ k_=>k_ 0 (Shape.inj jc.c253274x0 (x_.1,x_.2.1,x_.2.2.1,x_.2.2.2.1,x_.2.2.2.2.1,x_.2.2.2.2.2.1,x_.2.2.2.2.2.2.1,r_,())))
def jc (o:(Int)×((Int)×((List Int)×((Int)×((Int)×(List Int)))))) (t1000001:List (Int)):Option ((List Int)×Unit):=
  bnd (W.jc.c2 o.1 t1000001 some) fun y=>
  bnd (W.jc.c212293 o.1 o.2.1 y some) fun y_1=>
  bnd (W.jc.c220485 o.1 o.2.2.2.1 y_1 some) fun y_2=>
  bnd (W.jc.c228679 o.2.2.1 y_2 some) fun y_3=>
  bnd (W.jc.c240967 o.1 o.2.2.2.2.1 y_3 some) fun y_4=>
  bnd (W.jc.c253274 o.2.2.2.2.2 y_4 some) fun y_5=>
  bnd (W.jI (10:Int) y_5) fun y_6=>
  some (y_6.2.1,())
def jc.mc:MCallee:=⟨56,jc.pre,jc.post,fun x_=>jc x_.1 x_.2.1⟩
def jc.G:Env:=⟨79,tab,[(75,JS.ce),(68,Jb.ce),(55,Jl.ce)],[0,1,2,3,4,6,15,23,32,41,52,56,57,58,59,63],[2,1002,1000000,1000001],[(19,[⟨[],[],[65,66,67,68,69],[]⟩,⟨[],[],[64],[]⟩,⟨[1],[],[64],[]⟩,⟨[2,1],[],[64],[]⟩,⟨[3,2,1],[],[64],[]⟩,⟨[4,3,2,1],[],[64],[]⟩,⟨[0,5,4,3,2,1],[1000001,1000000],[],[]⟩]),
  (2,[⟨[],[],[9,10,11],[]⟩,⟨[],[],[8],[]⟩,⟨[1],[],[8],[]⟩,⟨[2,1],[],[8],[]⟩,⟨[0,3,2,1],[1000001,1000000],[],[]⟩])],[(253274,jc.c253274r),(100016,jc.c100016r),(269640,jc.c269640r),(19,jc.c19r),(240967,jc.c240967r),(228679,jc.c228679r),(220485,jc.c220485r),(212293,jc.c212293r),(2,jc.c2r)],[(54,jo.mc),(76,jI.mc),(74,jz.mc)],Jc,[]⟩
theorem jc.eq (x_:densU jc.mc.pre.tys):denM jc.G Tryd.f56 jc.mc.pre jc.mc.post x_=jc.mc.F x_:=by kernel_rfl
theorem jc.p0:PcA jc.G Tryd.f56 0:=
  jC (s:=jc.c2r) (by kernel_rfl) (by kernel_rfl) (jH (sh:=jc.c2s) (fun ρ x_ k_=>(jf fun _=>(jf fun _=>ja))) (fun ρ x_ t k=>(by kernel_rfl)) (fun x_=>by kernel_rfl))
theorem jc.p1:PcA jc.G Tryd.f56 1:=
  kG (s:=jc.c212293r) (by kernel_rfl) (by kernel_rfl) (jH (sh:=jc.c212293s) (fun ρ x_ k_=>(jf fun _=>(jr (jf fun _=>ja) ja))) (fun ρ x_ t k=>(by kernel_rfl)) (fun x_=>by kernel_rfl))
theorem jc.p2:PcA jc.G Tryd.f56 2:=
  kG (s:=jc.c220485r) (by kernel_rfl) (by kernel_rfl) (jH (sh:=jc.c220485s) (fun ρ x_ k_=>(jr (jf fun _=>ja) ja)) (fun ρ x_ t k=>(by kernel_rfl)) (fun x_=>by kernel_rfl))
theorem jc.p3:PcA jc.G Tryd.f56 3:=
  kG (s:=jc.c228679r) (by kernel_rfl) (by kernel_rfl) (jH (sh:=jc.c228679s) (fun ρ x_ k_=>(jr (jf fun _=>(jf fun _=>ja)) ja)) (fun ρ x_ t k=>(by kernel_rfl)) (fun x_=>by kernel_rfl))
theorem jc.p4:PcA jc.G Tryd.f56 4:=
  kG (s:=jc.c240967r) (by kernel_rfl) (by kernel_rfl) (jH (sh:=jc.c240967s) (fun ρ x_ k_=>(jr (jf fun _=>(jf fun _=>ja)) ja)) (fun ρ x_ t k=>(by kernel_rfl)) (fun x_=>by kernel_rfl))
theorem jc.p5:PcA jc.G Tryd.f56 5:=
  kG (s:=jc.c253274r) (by kernel_rfl) (by kernel_rfl) (jH (sh:=jc.c253274s) (fun ρ x_ k_=>(jr (jf fun _=>(jf fun _=>ja)) ja)) (fun ρ x_ t k=>(by kernel_rfl)) (fun x_=>by kernel_rfl))
theorem jc.p6:PcA jc.G Tryd.f56 6:=
  JD (s:=jc.c100016r) (by kernel_rfl) (by kernel_rfl) (Ju (sh:=jc.c100016s) (I:=fun x_ s_=>(x_.1,x_.2.1,x_.2.2.1,s_.1,x_.2.2.2.2.1,x_.2.2.2.2.2.1,x_.2.2.2.2.2.2.1,x_.2.2.2.2.2.2.2.1,x_.2.2.2.2.2.2.2.2.1,x_.2.2.2.2.2.2.2.2.2.1,s_.2,())) (fun x_=>rfl) (fun ρ x_ s_ k_=>(jr (jf fun _=>ja) ja)) (fun ρ x_ t k=>(by kernel_rfl)) (fun x_ s=>by kernel_rfl))
theorem jc.p7:PcA jc.G Tryd.f56 7:=
  kG (s:=jc.c269640r) (by kernel_rfl) (by kernel_rfl) (jH (sh:=jc.c269640s) (fun ρ x_ k_=>(jf fun _=>(jr (jf fun _=>ja) (jf fun _=>ja)))) (fun ρ x_ t k=>(by kernel_rfl)) (fun x_=>by kernel_rfl))
theorem jc.p8:PcA jc.G Tryd.f56 8:=
  jC (s:=jc.c19r) (by kernel_rfl) (by kernel_rfl) (jH (sh:=jc.c19s) (fun ρ x_ k_=>(jf fun _=>(jf fun _=>(jf fun _=>ja)))) (fun ρ x_ t k=>(by kernel_rfl)) (fun x_=>by kernel_rfl))
theorem jc.ok:MOk Tryd.prog 56 jc.mc:=kW (G:=jc.G) Jm mixed Tryd.func56 ⟨(jL JS.ok (jL Jb.ok (jL Jl.ok Je))),(JG jo.ok (JG jI.ok (JG jz.ok jW))),jK,jV⟩ (m:=9) (by kernel_rfl) ⟨⟨⟨⟨⟨⟨⟨⟨⟨trivial,jc.p0⟩,jc.p1⟩,jc.p2⟩,jc.p3⟩,jc.p4⟩,jc.p5⟩,jc.p6⟩,jc.p7⟩,jc.p8⟩ (by kernel_rfl) jc.eq
abbrev ct41:SO:=.box [.selfp 5 72,.own 2005 0]
def jy.c3 {ρ:Type}  (k_:Unit→Option ρ):Option ρ:=
  k_ ()
def jy.c3s:Shape:=⟨[(0,ct4),(1,ct5),(2,ct28),(3,ct7),(4,ct23)],[(1,ct8),(3,ct17),(4,ct17)]⟩
def jy.c3x0:Shape:=jy.c3s
def jy.c3r:Ck:=Ck.of (T:=Unit) jy.c3s (fun ρ x_ k_=>jy.c3  k_) (fun ρ x_ r_ k_=>k_ 0 (Shape.inj jy.c3x0 (x_.1,(Array.toList (ByteArray.data (ByteArray.mk #[]))),x_.2.2.1,x_.2.2.2.1,x_.2.2.2.2.1,x_.2.2.2.2.2.2.2.1,x_.2.2.2.2.2.2.2.2.1,x_.2.2.2.2.2.2.2)))
def jy.c5 {ρ:Type} (c0:Int) (c1:Int) (t2005:List (Int)) (k_:List (Int)→Option ρ):Option ρ:=
  bnd (W.Jl c0) fun y=>
  bnd (okIf (decide (List.length (Array.toList (ByteArray.data (ByteArray.mk #[(113:UInt8),(117:UInt8),(98:UInt8),(105:UInt8),(116:UInt8),(115:UInt8),(32:UInt8)])))+List.length y≤(9223372036854775807:Nat)))) fun y_1=>
  bnd (okIf (decide (List.length (Array.toList (ByteArray.data (ByteArray.mk #[(113:UInt8),(117:UInt8),(98:UInt8),(105:UInt8),(116:UInt8),(115:UInt8),(32:UInt8)]))++y)+List.length (Array.toList (ByteArray.data (ByteArray.mk #[(32:UInt8),(98:UInt8),(105:UInt8),(116:UInt8),(115:UInt8),(32:UInt8)])))≤(9223372036854775807:Nat)))) fun y_2=>
  bnd (W.Jl c1) fun y_3=>
  bnd (okIf (decide (List.length (Array.toList (ByteArray.data (ByteArray.mk #[(113:UInt8),(117:UInt8),(98:UInt8),(105:UInt8),(116:UInt8),(115:UInt8),(32:UInt8)]))++y++Array.toList (ByteArray.data (ByteArray.mk #[(32:UInt8),(98:UInt8),(105:UInt8),(116:UInt8),(115:UInt8),(32:UInt8)])))+List.length y_3≤(9223372036854775807:Nat)))) fun y_4=>
  bnd (okIf (decide (List.length (Array.toList (ByteArray.data (ByteArray.mk #[(113:UInt8),(117:UInt8),(98:UInt8),(105:UInt8),(116:UInt8),(115:UInt8),(32:UInt8)]))++y++Array.toList (ByteArray.data (ByteArray.mk #[(32:UInt8),(98:UInt8),(105:UInt8),(116:UInt8),(115:UInt8),(32:UInt8)]))++y_3)+List.length (Array.toList (ByteArray.data (ByteArray.mk #[(10:UInt8)])))≤(9223372036854775807:Nat)))) fun y_5=>
  bnd (W.jo (Array.toList (ByteArray.data (ByteArray.mk #[(113:UInt8),(117:UInt8),(98:UInt8),(105:UInt8),(116:UInt8),(115:UInt8),(32:UInt8)]))++y++Array.toList (ByteArray.data (ByteArray.mk #[(32:UInt8),(98:UInt8),(105:UInt8),(116:UInt8),(115:UInt8),(32:UInt8)]))++y_3++Array.toList (ByteArray.data (ByteArray.mk #[(10:UInt8)]))) t2005) fun y_6=>
  k_ y_6.2.2.1
def jy.c5s:Shape:=⟨[(0,ct4),(1,ct5),(2,ct28),(3,ct7),(4,ct23),(5,ct19)],[(1,ct8),(3,ct17),(4,ct17),(5,ct41),(2005,ct33)]⟩
def jy.c5x0:Shape:=jy.c5s
def jy.c5r:Ck:=Ck.of (T:=List (Int)) jy.c5s (fun ρ x_ k_=>jy.c5 x_.2.2.1 x_.2.2.2.1 x_.2.2.2.2.2.2.2.2.2.1 k_) (fun ρ x_ r_ k_=>k_ 0 (Shape.inj jy.c5x0 (x_.1,x_.2.1,x_.2.2.1,x_.2.2.2.1,x_.2.2.2.2.1,x_.2.2.2.2.2.1,x_.2.2.2.2.2.2.1,x_.2.2.2.2.2.2.2.1,x_.2.2.2.2.2.2.2.2.1,r_,())))
def jy.c100007 {ρ:Type} (t26:List ((Int)×((Int)×((List Int)×((Int)×((Int)×(List Int))))))) (t27:Int) (t28:Int) (t2005:List (Int)) (k_:((Int)×(List Int))⊕((Int)×(List Int))→Option ρ):Option ρ:=
  br (decide (t28 < t27))
   (bnd (idx t26 t28) fun y=>
    bnd (W.jc (y.1,y.2.1,y.2.2.1,y.2.2.2.1,y.2.2.2.2.1,y.2.2.2.2.2) t2005) fun y_1=>
    k_ (.inl ((IntKind.i64.wrap (t28+(1:Int))),y_1.1)))
   (k_ (.inr (t28,t2005)))
def jy.c100007s:Shape:=⟨[(0,ct4),(1,ct5),(2,ct28),(3,ct7),(4,ct23),(5,ct19),(26,ct18),(27,ct2),(28,ct2)],[(1,ct8),(3,ct17),(4,ct17),(5,ct41),(2005,ct33)]⟩
def jy.c100007x0:Shape:=jy.c100007s
def jy.c100007r:Ck:=Ck.ofLoop (S:=(Int)×(List Int)) (T:=(Int)×(List Int)) jy.c100007s (fun x_=>(x_.2.2.2.2.1,x_.2.2.2.2.2.2.2.2.2.2.2.2.1)) (fun ρ x_ s_ k_=>jy.c100007 x_.2.2.1 x_.2.2.2.1 s_.1 s_.2 k_) (fun ρ x_ r_ k_=>k_ 2 (Shape.inj jy.c100007x0 (x_.1,x_.2.1,x_.2.2.1,x_.2.2.2.1,r_.1,x_.2.2.2.2.2.1,x_.2.2.2.2.2.2.1,x_.2.2.2.2.2.2.2.1,x_.2.2.2.2.2.2.2.2.1,x_.2.2.2.2.2.2.2.2.2.1,x_.2.2.2.2.2.2.2.2.2.2.1,x_.2.2.2.2.2.2.2.2.2.2.2.1,r_.2,())))
def jy (c:(Int)×((Int)×(List ((Int)×((Int)×((List Int)×((Int)×((Int)×(List Int))))))))):Option ((List UInt8)×((Int)×(Int))):=
  bnd (W.jt (c.1,c.2.1,c.2.2)) fun y=>
  br (y.1 != (0:Int))
   (bnd (W.jy.c3 some) fun y_1=>
    some (Array.toList (ByteArray.data (ByteArray.mk #[])),y.1,y.2))
   (bnd (W.jy.c5 c.1 c.2.1 [] some) fun y_2=>
    bnd (iter (fun s↦W.jy.c100007 c.2.2 (↑(List.length c.2.2):Int) s.1 s.2 some) ((0:Int),y_2)) fun y_3=>
    bnd (W.Jg y_3.2) fun y_4=>
    some (y_4.1,(0:Int),(0:Int)))
def jy.ce:Go.Ql.Callee:=⟨[(.st (.pair (.int .i64) (.pair (.int .i64) (.sl (.st (.pair (.int .i64) (.pair (.int .i64) (.pair (.sl (.int .i64)) (.pair (.int .i64) (.pair (.int .i64) (.sl (.int .i64))))))))))))],[.str,(.st (.pair (.int .i64) (.int .i64)))],fun x_=>jy x_⟩
def jy.G:Env:=⟨37,tab,[(14,jt.ce),(55,Jl.ce)],[0,1,2,3,4,5,7,12,26,27,28,29],[5,2005],[(5,[⟨[],[],[19,20],[]⟩,⟨[0],[],[19,20],[]⟩,⟨[1,0],[],[19,20],[]⟩,⟨[2,1,0],[],[19,20,21],[]⟩,⟨[3,2,1,0],[],[19,20,21],[]⟩,⟨[],[],[14,15,16,17,18],[]⟩,⟨[5],[],[14,15,16,17,18],[]⟩,⟨[6,5,2,1,0],[],[17,18],[]⟩,⟨[4,3,2,1,0,7,6,5],[],[],[]⟩,⟨[8,4,3,2,1,0,7,6,5],[],[],[]⟩,⟨[9,8,4,3,2,1,0,7,6,5],[2005,5],[],[]⟩]),
  (3,[⟨[],[],[2],[]⟩,⟨[],[],[13],[]⟩,⟨[0,1],[3],[],[]⟩])],[(100007,jy.c100007r),(5,jy.c5r),(3,jy.c3r)],[(54,jo.mc),(56,jc.mc),(57,Jg.mc)],Jc,[]⟩
theorem jy.eq (x_:dens jy.ce.params):den jy.G Tryd.f32 jy.ce.params jy.ce.res x_=jy.ce.F x_:=by kernel_rfl
theorem jy.p0:PcA jy.G Tryd.f32 0:=
  jC (s:=jy.c3r) (by kernel_rfl) (by kernel_rfl) (jH (sh:=jy.c3s) (fun ρ x_ k_=>ja) (fun ρ x_ t k=>(by kernel_rfl)) (fun x_=>by kernel_rfl))
theorem jy.p1:PcA jy.G Tryd.f32 1:=
  jC (s:=jy.c5r) (by kernel_rfl) (by kernel_rfl) (jH (sh:=jy.c5s) (fun ρ x_ k_=>(jf fun _=>(jf fun _=>(jf fun _=>(jf fun _=>(jf fun _=>(jf fun _=>(jf fun _=>ja)))))))) (fun ρ x_ t k=>(by kernel_rfl)) (fun x_=>by kernel_rfl))
theorem jy.p2:PcA jy.G Tryd.f32 2:=
  JD (s:=jy.c100007r) (by kernel_rfl) (by kernel_rfl) (Ju (sh:=jy.c100007s) (I:=fun x_ s_=>(x_.1,x_.2.1,x_.2.2.1,x_.2.2.2.1,s_.1,x_.2.2.2.2.2.1,x_.2.2.2.2.2.2.1,x_.2.2.2.2.2.2.2.1,x_.2.2.2.2.2.2.2.2.1,x_.2.2.2.2.2.2.2.2.2.1,x_.2.2.2.2.2.2.2.2.2.2.1,x_.2.2.2.2.2.2.2.2.2.2.2.1,s_.2,())) (fun x_=>rfl) (fun ρ x_ s_ k_=>(jr (jf fun _=>(jf fun _=>ja)) ja)) (fun ρ x_ t k=>(by kernel_rfl)) (fun x_ s=>by kernel_rfl))
theorem jy.ok:CalleeOk Tryd.prog 32 jy.ce:=fn_ok (G:=jy.G) Jm mixed Tryd.func32 ⟨(jL jt.ok (jL Jl.ok Je)),(JG jo.ok (JG jc.ok (JG Jg.ok jW))),jK,jV⟩ (m:=3) (by kernel_rfl) ⟨⟨⟨trivial,jy.p0⟩,jy.p1⟩,jy.p2⟩ (by kernel_rfl) jy.eq
def jO.c2 {ρ:Type} (t:List UInt8) (f0:Int) (k_:Bool→Option ρ):Option ρ:=
  br (f0 == (0:Int))
   (k_ (t == Array.toList (ByteArray.data (ByteArray.mk #[(113:UInt8),(117:UInt8),(98:UInt8),(105:UInt8),(116:UInt8),(115:UInt8),(32:UInt8),(50:UInt8),(32:UInt8),(98:UInt8),(105:UInt8),(116:UInt8),(115:UInt8),(32:UInt8),(49:UInt8),(10:UInt8),(104:UInt8),(32:UInt8),(48:UInt8),(10:UInt8),(120:UInt8),(32:UInt8),(49:UInt8),(32:UInt8),(111:UInt8),(110:UInt8),(32:UInt8),(48:UInt8),(10:UInt8),(109:UInt8),(101:UInt8),(97:UInt8),(115:UInt8),(117:UInt8),(114:UInt8),(101:UInt8),(32:UInt8),(49:UInt8),(32:UInt8),(116:UInt8),(111:UInt8),(32:UInt8),(48:UInt8),(32:UInt8),(105:UInt8),(102:UInt8),(32:UInt8),(33:UInt8),(48:UInt8),(10:UInt8)]))))
   (k_ false)
def jO.c2s:Shape:=⟨[(0,ct11),(1,ct28),(2,ct6)],[(2,ct17)]⟩
def jO.c2x0:Shape:=jO.c2s
def jO.c2r:Ck:=Ck.of (T:=Bool) jO.c2s (fun ρ x_ k_=>jO.c2 x_.2.1 x_.2.2.1 k_) (fun ρ x_ r_ k_=>k_ 0 (Shape.inj jO.c2x0 (r_,x_.2)))
def jO  : Option Bool:=
  bnd W.JV fun y=>
  bnd (W.jy y) fun y_1=>
  bnd (W.jO.c2 y_1.1 y_1.2.1 some) fun y_2=>
  some y_2
def jO.ce:Go.Ql.Callee:=⟨[],[.bool],fun x_=>jO⟩
def jO.G:Env:=⟨15,tab,[(39,JV.ce),(32,jy.ce)],[0,1,2],[],[],[(2,jO.c2r)],[],Jc,[]⟩
theorem jO.eq (x_:dens jO.ce.params):den jO.G Tryd.f13 jO.ce.params jO.ce.res x_=jO.ce.F x_:=by kernel_rfl
theorem jO.p0:PcA jO.G Tryd.f13 0:=
  jC (s:=jO.c2r) (by kernel_rfl) (by kernel_rfl) (jH (sh:=jO.c2s) (fun ρ x_ k_=>(jr ja ja)) (fun ρ x_ t k=>(by kernel_rfl)) (fun x_=>by kernel_rfl))
theorem jO.ok:CalleeOk Tryd.prog 13 jO.ce:=fn_ok (G:=jO.G) Jm mixed Tryd.func13 ⟨(jL JV.ok (jL jy.ok Je)),jW,jK,jV⟩ (m:=1) (by kernel_rfl) ⟨trivial,jO.p0⟩ (by kernel_rfl) jO.eq
def jF.c6 {ρ:Type} (a:List (Int)) (b:List (Int)) (i:Int) (k_:Bool→Option ρ):Option ρ:=
  bnd (idx a i) fun y=>
  bnd (idx b i) fun y_1=>
  k_ (y != y_1)
def jF.c6s:Shape:=⟨[(0,ct0),(1,ct0),(4,ct11),(5,ct2)],[]⟩
def jF.c6x0:Shape:=⟨[(0,ct0),(1,ct0),(4,ct11),(5,ct2),(25,ct11)],[]⟩
def jF.c6r:Ck:=Ck.of (T:=Bool) jF.c6s (fun ρ x_ k_=>jF.c6 x_.1 x_.2.1 x_.2.2.2.1 k_) (fun ρ x_ r_ k_=>k_ 0 (Shape.inj jF.c6x0 (x_.1,x_.2.1,x_.2.2.1,x_.2.2.2.1,r_,())))
def jF.c100004 {ρ:Type} (a:List (Int)) (b:List (Int)) (i:Int) (k_:(Int)⊕((Int)⊕(Int))→Option ρ):Option ρ:=
  br (decide (i < (↑(List.length a):Int)))
   (bnd (W.jF.c6 a b i some) fun y=>
    br y
     (k_ (.inr (.inl i)))
     (k_ (.inl (IntKind.i64.wrap (i+(1:Int))))))
   (k_ (.inr (.inr i)))
def jF.c100004s:Shape:=jF.c6s
def jF.c100004x0:Shape:=jF.c6s
def jF.c100004x1:Shape:=jF.c6s
def jF.c100004r:Ck:=Ck.ofLoop (S:=Int) (T:=(Int)⊕(Int)) jF.c100004s (fun x_=>x_.2.2.2.1) (fun ρ x_ s_ k_=>jF.c100004 x_.1 x_.2.1 s_ k_) (fun ρ x_ r_ k_=>sel r_ (fun r_=>k_ 1 (Shape.inj jF.c100004x0 (x_.1,x_.2.1,false,r_,()))) (fun r_=>k_ 2 (Shape.inj jF.c100004x1 (x_.1,x_.2.1,x_.2.2.1,r_,()))))
def jF (a:List (Int)) (b:List (Int)):Option Bool:=
  br ((↑(List.length a):Int) != (↑(List.length b):Int))
   (some false)
   (bnd (iter (fun s↦W.jF.c100004 a b s some) (0:Int)) fun y=>
    sel y
     (fun u=>some false)
     (fun v=>some true))
def jF.ce:Go.Ql.Callee:=⟨[(.sl (.int .i64)),(.sl (.int .i64))],[.bool],fun x_=>jF x_.1 x_.2⟩
def jF.G:Env:=⟨26,tab,[],[0,1,4,5,10,14,25],[],[(6,[⟨[],[],[18,21,22,23,24],[]⟩,⟨[],[],[17,21,22,23,24],[]⟩,⟨[0,1],[],[21,22,23,24],[]⟩,⟨[2,0,1],[],[21,22,23,24],[]⟩,⟨[],[],[17,18,19,20,22],[]⟩,⟨[],[],[17,18,19,20,21],[]⟩,⟨[4,5],[],[17,18,19,20],[]⟩,⟨[6,4,5],[],[17,18,19,20],[]⟩,⟨[3,2,0,1,7,6,4,5],[],[],[]⟩])],[(100004,jF.c100004r),(6,jF.c6r)],[],Jc,[]⟩
theorem jF.eq (x_:dens jF.ce.params):den jF.G Tryd.f30 jF.ce.params jF.ce.res x_=jF.ce.F x_:=by kernel_rfl
theorem jF.p0:PcA jF.G Tryd.f30 0:=
  JD (s:=jF.c100004r) (by kernel_rfl) (by kernel_rfl) (Ju (sh:=jF.c100004s) (I:=fun x_ s_=>(x_.1,x_.2.1,x_.2.2.1,s_,())) (fun x_=>rfl) (fun ρ x_ s_ k_=>(jr (jf fun _=>(jr ja ja)) ja)) (fun ρ x_ t k=>(ki (fun _=>(by kernel_rfl)) (fun _=>(by kernel_rfl)))) (fun x_ s=>by kernel_rfl))
theorem jF.p1:PcA jF.G Tryd.f30 1:=
  jC (s:=jF.c6r) (by kernel_rfl) (by kernel_rfl) (jH (sh:=jF.c6s) (fun ρ x_ k_=>(jf fun _=>(jf fun _=>ja))) (fun ρ x_ t k=>(by kernel_rfl)) (fun x_=>by kernel_rfl))
theorem jF.ok:CalleeOk Tryd.prog 30 jF.ce:=fn_ok (G:=jF.G) Jm mixed Tryd.func30 ⟨Je,jW,jK,jV⟩ (m:=2) (by kernel_rfl) ⟨⟨trivial,jF.p0⟩,jF.p1⟩ (by kernel_rfl) jF.eq
abbrev ct42:SD:=.one (.ref 6 0)
def jn.c1 {ρ:Type} (a0:Int) (a1:Int) (a2:List ((Int)×((Int)×((List Int)×((Int)×((Int)×(List Int))))))) (b0:Int) (b1:Int) (b2:List ((Int)×((Int)×((List Int)×((Int)×((Int)×(List Int))))))) (k_:Bool→Option ρ):Option ρ:=
  br (a0 != b0)
   (k_ true)
   (br (a1 != b1)
     (k_ true)
     (k_ ((↑(List.length a2):Int) != (↑(List.length b2):Int))))
def jn.c1s:Shape:=⟨[(0,ct4),(1,ct4),(2,ct6),(3,ct7),(4,ct11)],[(2,ct8),(3,ct8)]⟩
def jn.c1x0:Shape:=⟨[(0,ct4),(1,ct4),(2,ct6),(3,ct7),(4,ct11),(28,ct11)],[(2,ct8),(3,ct8)]⟩
def jn.c1r:Ck:=Ck.of (T:=Bool) jn.c1s (fun ρ x_ k_=>jn.c1 x_.2.2.2.1 x_.2.2.2.2.1 x_.2.2.2.2.2.1 x_.2.2.2.2.2.2.1 x_.2.2.2.2.2.2.2.1 x_.2.2.2.2.2.2.2.2.1 k_) (fun ρ x_ r_ k_=>k_ 0 (Shape.inj jn.c1x0 (x_.1,x_.2.1,x_.2.2.1,r_,x_.2.2.2)))
def jn.c8 {ρ:Type} (x0:Int) (x1:Int) (x2:List (Int)) (x3:Int) (x4:Int) (x5:List (Int)) (y0:Int) (y1:Int) (y2:List (Int)) (y3:Int) (y4:Int) (y5:List (Int)) (k_:Bool→Option ρ):Option ρ:=
  br (x0 != y0)
   (k_ true)
   (br (x1 != y1)
     (k_ true)
     (br (x3 != y3)
       (k_ true)
       (br (x4 != y4)
         (k_ true)
         (bnd (W.jF x2 y2) fun y=>
          br (!y)
           (k_ true)
           (bnd (W.jF x5 y5) fun y_1=>
            k_ (!y_1))))))
def jn.c8s:Shape:=⟨[(0,ct4),(1,ct4),(2,ct6),(3,ct7),(4,ct11),(5,ct2),(6,ct42),(7,ct24)],[(2,ct8),(3,ct8),(6,ct14),(7,ct14)]⟩
def jn.c8x0:Shape:=⟨[(0,ct4),(1,ct4),(2,ct6),(3,ct7),(4,ct11),(5,ct2),(6,ct42),(7,ct24),(87,ct11)],[(2,ct8),(3,ct8),(6,ct14),(7,ct14)]⟩
def jn.c8r:Ck:=Ck.of (T:=Bool) jn.c8s (fun ρ x_ k_=>jn.c8 x_.2.2.2.2.2.2.2.2.2.2.1 x_.2.2.2.2.2.2.2.2.2.2.2.1 x_.2.2.2.2.2.2.2.2.2.2.2.2.1 x_.2.2.2.2.2.2.2.2.2.2.2.2.2.1 x_.2.2.2.2.2.2.2.2.2.2.2.2.2.2.1 x_.2.2.2.2.2.2.2.2.2.2.2.2.2.2.2.1 x_.2.2.2.2.2.2.2.2.2.2.2.2.2.2.2.2.1 x_.2.2.2.2.2.2.2.2.2.2.2.2.2.2.2.2.2.1 x_.2.2.2.2.2.2.2.2.2.2.2.2.2.2.2.2.2.2.1 x_.2.2.2.2.2.2.2.2.2.2.2.2.2.2.2.2.2.2.2.1 x_.2.2.2.2.2.2.2.2.2.2.2.2.2.2.2.2.2.2.2.2.1 x_.2.2.2.2.2.2.2.2.2.2.2.2.2.2.2.2.2.2.2.2.2.1 k_) (fun ρ x_ r_ k_=>k_ 0 (Shape.inj jn.c8x0 (x_.1,x_.2.1,x_.2.2.1,x_.2.2.2.1,r_,x_.2.2.2.2)))
def jn.c100004 {ρ:Type} (i:Int) (a2:List ((Int)×((Int)×((List Int)×((Int)×((Int)×(List Int))))))) (b2:List ((Int)×((Int)×((List Int)×((Int)×((Int)×(List Int))))))) (k_:(Int)⊕((Int)⊕(Int))→Option ρ):Option ρ:=
  br (decide (i < (↑(List.length a2):Int)))
   (bnd (idx a2 i) fun y=>
    bnd (idx b2 i) fun y_1=>
    bnd (W.jn.c8 y.1 y.2.1 y.2.2.1 y.2.2.2.1 y.2.2.2.2.1 y.2.2.2.2.2 y_1.1 y_1.2.1 y_1.2.2.1 y_1.2.2.2.1 y_1.2.2.2.2.1 y_1.2.2.2.2.2 some) fun y_2=>
    br y_2
     (k_ (.inr (.inl i)))
     (k_ (.inl (IntKind.i64.wrap (i+(1:Int))))))
   (k_ (.inr (.inr i)))
def jn.c100004s:Shape:=⟨[(0,ct4),(1,ct4),(2,ct6),(3,ct7),(4,ct11),(5,ct2)],[(2,ct8),(3,ct8)]⟩
def jn.c100004x0:Shape:=jn.c100004s
def jn.c100004x1:Shape:=jn.c100004s
def jn.c100004r:Ck:=Ck.ofLoop (S:=Int) (T:=(Int)⊕(Int)) jn.c100004s (fun x_=>x_.2.2.2.1) (fun ρ x_ s_ k_=>jn.c100004 s_ x_.2.2.2.2.2.2.1 x_.2.2.2.2.2.2.2.2.2.1 k_) (fun ρ x_ r_ k_=>sel r_ (fun r_=>k_ 1 (Shape.inj jn.c100004x0 (x_.1,x_.2.1,false,r_,x_.2.2.2.2))) (fun r_=>k_ 2 (Shape.inj jn.c100004x1 (x_.1,x_.2.1,x_.2.2.1,r_,x_.2.2.2.2))))
def jn (a:(Int)×((Int)×(List ((Int)×((Int)×((List Int)×((Int)×((Int)×(List Int))))))))) (b:(Int)×((Int)×(List ((Int)×((Int)×((List Int)×((Int)×((Int)×(List Int))))))))):Option Bool:=
  bnd (W.jn.c1 a.1 a.2.1 a.2.2 b.1 b.2.1 b.2.2 some) fun y=>
  br y
   (some false)
   (bnd (iter (fun s↦W.jn.c100004 s a.2.2 b.2.2 some) (0:Int)) fun y_1=>
    sel y_1
     (fun u=>some false)
     (fun v=>some true))
def jn.ce:Go.Ql.Callee:=⟨[(.st (.pair (.int .i64) (.pair (.int .i64) (.sl (.st (.pair (.int .i64) (.pair (.int .i64) (.pair (.sl (.int .i64)) (.pair (.int .i64) (.pair (.int .i64) (.sl (.int .i64)))))))))))),(.st (.pair (.int .i64) (.pair (.int .i64) (.sl (.st (.pair (.int .i64) (.pair (.int .i64) (.pair (.sl (.int .i64)) (.pair (.int .i64) (.pair (.int .i64) (.sl (.int .i64))))))))))))],[.bool],fun x_=>jn x_.1 x_.2⟩
def jn.G:Env:=⟨88,tab,[(30,jF.ce)],[0,1,2,3,4,5,6,7,28,33,87],[],[],[(100004,jn.c100004r),(8,jn.c8r),(1,jn.c1r)],[],Jc,[]⟩
theorem jn.eq (x_:dens jn.ce.params):den jn.G Tryd.f29 jn.ce.params jn.ce.res x_=jn.ce.F x_:=by kernel_rfl
theorem jn.p0:PcA jn.G Tryd.f29 0:=
  jC (s:=jn.c1r) (by kernel_rfl) (by kernel_rfl) (jH (sh:=jn.c1s) (fun ρ x_ k_=>(jr ja (jr ja ja))) (fun ρ x_ t k=>(by kernel_rfl)) (fun x_=>by kernel_rfl))
theorem jn.p1:PcA jn.G Tryd.f29 1:=
  JD (s:=jn.c100004r) (by kernel_rfl) (by kernel_rfl) (Ju (sh:=jn.c100004s) (I:=fun x_ s_=>(x_.1,x_.2.1,x_.2.2.1,s_,x_.2.2.2.2)) (fun x_=>rfl) (fun ρ x_ s_ k_=>(jr (jf fun _=>(jf fun _=>(jf fun _=>(jr ja ja)))) ja)) (fun ρ x_ t k=>(ki (fun _=>(by kernel_rfl)) (fun _=>(by kernel_rfl)))) (fun x_ s=>by kernel_rfl))
theorem jn.p2:PcA jn.G Tryd.f29 2:=
  jC (s:=jn.c8r) (by kernel_rfl) (by kernel_rfl) (jH (sh:=jn.c8s) (fun ρ x_ k_=>(jr ja (jr ja (jr ja (jr ja (jf fun _=>(jr ja (jf fun _=>ja)))))))) (fun ρ x_ t k=>(by kernel_rfl)) (fun x_=>by kernel_rfl))
theorem jn.ok:CalleeOk Tryd.prog 29 jn.ce:=fn_ok (G:=jn.G) Jm mixed Tryd.func29 ⟨(jL jF.ok Je),jW,jK,jV⟩ (m:=3) (by kernel_rfl) ⟨⟨⟨trivial,jn.p0⟩,jn.p1⟩,jn.p2⟩ (by kernel_rfl) jn.eq
abbrev ct43:SD:=.one (.val (.st (.pair (.int .i64) (.int .i64))))
def jP.c1 {ρ:Type} (c0:Int) (c1:Int) (c2:List ((Int)×((Int)×((List Int)×((Int)×((Int)×(List Int))))))) (f0:Int) (f1:Int) (d0:Int) (d1:Int) (d2:List ((Int)×((Int)×((List Int)×((Int)×((Int)×(List Int))))))) (g0:Int) (g1:Int) (k_:Bool→Option ρ):Option ρ:=
  br (Ty.eqT (Ty.pair (Ty.int IntKind.i64) (Ty.int IntKind.i64)) (f0,f1) (g0,g1))
   (bnd (W.jn (c0,c1,c2) (d0,d1,d2)) fun y=>
    k_ y)
   (k_ false)
def jP.c1s:Shape:=⟨[(0,ct4),(1,ct43),(2,ct4),(3,ct43),(4,ct23),(5,ct19),(6,ct42),(7,ct24),(8,ct11)],[(4,ct8),(5,ct17),(6,ct8),(7,ct17)]⟩
def jP.c1x0:Shape:=jP.c1s
def jP.c1r:Ck:=Ck.of (T:=Bool) jP.c1s (fun ρ x_ k_=>jP.c1 x_.2.2.2.2.2.1 x_.2.2.2.2.2.2.1 x_.2.2.2.2.2.2.2.1 x_.2.2.2.2.2.2.2.2.1 x_.2.2.2.2.2.2.2.2.2.1 x_.2.2.2.2.2.2.2.2.2.2.1 x_.2.2.2.2.2.2.2.2.2.2.2.1 x_.2.2.2.2.2.2.2.2.2.2.2.2.1 x_.2.2.2.2.2.2.2.2.2.2.2.2.2.1 x_.2.2.2.2.2.2.2.2.2.2.2.2.2.2.1 k_) (fun ρ x_ r_ k_=>k_ 0 (Shape.inj jP.c1x0 (x_.1,x_.2.1,x_.2.2.1,x_.2.2.2.1,r_,x_.2.2.2.2.2)))
def jP (c:(Int)×((Int)×(List ((Int)×((Int)×((List Int)×((Int)×((Int)×(List Int))))))))) (f:(Int)×(Int)) (d:(Int)×((Int)×(List ((Int)×((Int)×((List Int)×((Int)×((Int)×(List Int))))))))) (g:(Int)×(Int)):Option Bool:=
  bnd (W.jP.c1 c.1 c.2.1 c.2.2 f.1 f.2 d.1 d.2.1 d.2.2 g.1 g.2 some) fun y=>
  some y
def jP.ce:Go.Ql.Callee:=⟨[(.st (.pair (.int .i64) (.pair (.int .i64) (.sl (.st (.pair (.int .i64) (.pair (.int .i64) (.pair (.sl (.int .i64)) (.pair (.int .i64) (.pair (.int .i64) (.sl (.int .i64)))))))))))),(.st (.pair (.int .i64) (.int .i64))),(.st (.pair (.int .i64) (.pair (.int .i64) (.sl (.st (.pair (.int .i64) (.pair (.int .i64) (.pair (.sl (.int .i64)) (.pair (.int .i64) (.pair (.int .i64) (.sl (.int .i64)))))))))))),(.st (.pair (.int .i64) (.int .i64)))],[.bool],fun x_=>jP x_.1 x_.2.1 x_.2.2.1 x_.2.2.2⟩
def jP.G:Env:=⟨17,tab,[(29,jn.ce)],[0,1,2,3,4,5,6,7,8],[],[],[(1,jP.c1r)],[],Jc,[]⟩
theorem jP.eq (x_:dens jP.ce.params):den jP.G Tryd.f20 jP.ce.params jP.ce.res x_=jP.ce.F x_:=by kernel_rfl
theorem jP.p0:PcA jP.G Tryd.f20 0:=
  jC (s:=jP.c1r) (by kernel_rfl) (by kernel_rfl) (jH (sh:=jP.c1s) (fun ρ x_ k_=>(jr (jf fun _=>ja) ja)) (fun ρ x_ t k=>(by kernel_rfl)) (fun x_=>by kernel_rfl))
theorem jP.ok:CalleeOk Tryd.prog 20 jP.ce:=fn_ok (G:=jP.G) Jm mixed Tryd.func20 ⟨(jL jn.ok Je),jW,jK,jV⟩ (m:=1) (by kernel_rfl) ⟨trivial,jP.p0⟩ (by kernel_rfl) jP.eq
def jE.c100002 {ρ:Type} (s:List (Int)) (v:Int) (t7:Int) (t8:Int) (k_:(Int)⊕(((Int)×(Int))⊕(Int))→Option ρ):Option ρ:=
  br (decide (t8 < t7))
   (bnd (idx s t8) fun y=>
    br (v == y)
     (k_ (.inr (.inl (t8,t8))))
     (k_ (.inl (IntKind.i64.wrap (t8+(1:Int))))))
   (k_ (.inr (.inr t8)))
def jE.c100002s:Shape:=⟨[(0,ct0),(1,ct2),(4,ct2),(7,ct2),(8,ct2)],[]⟩
def jE.c100002x0:Shape:=jE.c100002s
def jE.c100002x1:Shape:=jE.c100002s
def jE.c100002r:Ck:=Ck.ofLoop (S:=Int) (T:=((Int)×(Int))⊕(Int)) jE.c100002s (fun x_=>x_.2.2.2.2.1) (fun ρ x_ s_ k_=>jE.c100002 x_.1 x_.2.1 x_.2.2.2.1 s_ k_) (fun ρ x_ r_ k_=>sel r_ (fun r_=>k_ 1 (Shape.inj jE.c100002x0 (x_.1,x_.2.1,r_.1,x_.2.2.2.1,r_.2,()))) (fun r_=>k_ 2 (Shape.inj jE.c100002x1 (x_.1,x_.2.1,x_.2.2.1,x_.2.2.2.1,r_,()))))
def jE (s:List (Int)) (v:Int):Option (Int):=
  bnd (iter (fun s_1↦W.jE.c100002 s v (↑(List.length s):Int) s_1 some) (0:Int)) fun y=>
  sel y
   (fun u=>some u.1)
   (fun v_1=>some (-1:Int))
def jE.ce:Go.Ql.Callee:=⟨[(.sl (.int .i64)),(.int .i64)],[(.int .i64)],fun x_=>jE x_.1 x_.2⟩
def jE.G:Env:=⟨19,tab,[],[0,1,4,5,7,8,9,16],[],[],[(100002,jE.c100002r)],[],Jc,[]⟩
theorem jE.eq (x_:dens jE.ce.params):den jE.G Tryd.f71 jE.ce.params jE.ce.res x_=jE.ce.F x_:=by kernel_rfl
theorem jE.p0:PcA jE.G Tryd.f71 0:=
  JD (s:=jE.c100002r) (by kernel_rfl) (by kernel_rfl) (Ju (sh:=jE.c100002s) (I:=fun x_ s_=>(x_.1,x_.2.1,x_.2.2.1,x_.2.2.2.1,s_,())) (fun x_=>rfl) (fun ρ x_ s_ k_=>(jr (jf fun _=>(jr ja ja)) ja)) (fun ρ x_ t k=>(ki (fun _=>(by kernel_rfl)) (fun _=>(by kernel_rfl)))) (fun x_ s=>by kernel_rfl))
theorem jE.ok:CalleeOk Tryd.prog 71 jE.ce:=fn_ok (G:=jE.G) Jm mixed Tryd.func71 ⟨Je,jW,jK,jV⟩ (m:=1) (by kernel_rfl) ⟨trivial,jE.p0⟩ (by kernel_rfl) jE.eq
def jU (s:List (Int)) (v:Int):Option Bool:=
  bnd (W.jE s v) fun y=>
  some (decide (y≥(0:Int)))
def jU.ce:Go.Ql.Callee:=⟨[(.sl (.int .i64)),(.int .i64)],[.bool],fun x_=>jU x_.1 x_.2⟩
def jU.G:Env:=⟨9,tab,[(71,jE.ce)],[0,1,4],[],[],[],[],Jc,[]⟩
theorem jU.eq (x_:dens jU.ce.params):den jU.G Tryd.f50 jU.ce.params jU.ce.res x_=jU.ce.F x_:=by kernel_rfl
theorem jU.ok:CalleeOk Tryd.prog 50 jU.ce:=fn_ok (G:=jU.G) Jm mixed Tryd.func50 ⟨(jL jE.ok Je),jW,jK,jV⟩ (m:=0) (by kernel_rfl) trivial (by kernel_rfl) jU.eq
abbrev ct44:SO:=.box [.val (.int .i64)]
def Jj.pre:Shape:=⟨[(0,ct12),(1,ct13)],[(1000100,ct44)]⟩
def Jj.post:Shape:=⟨[(0,ct12)],[(1000100,ct44)]⟩
def Jj (o:(Int)×((Int)×((List Int)×((Int)×((Int)×(List Int)))))) (t10001000:Int):Option (((Int)×((Int)×((List Int)×((Int)×((Int)×(List Int))))))×(Int)×Unit):=
  br (o.1 == (1:Int))
   (some (((4:Int),o.2.1,[],t10001000,(0:Int),[]),t10001000,()))
   (bnd (okIf (decide (((1:Nat)+List.length o.2.2.1)*(8:Nat)≤(140737488355328:Nat)) && decide ((1:Nat)+List.length o.2.2.1≤(140737488355328:Nat)))) fun y=>
    some ((o.1,o.2.1,[t10001000]++o.2.2.1,o.2.2.2.1,o.2.2.2.2.1,o.2.2.2.2.2),t10001000,()))
def Jj.mc:MCallee:=⟨51,Jj.pre,Jj.post,fun x_=>Jj x_.1 x_.2.1⟩
def Jj.G:Env:=⟨18,tab,[],[0,1,2,3,6],[12],[],[],[],Jc,[]⟩
theorem Jj.eq (x_:densU Jj.mc.pre.tys):denM Jj.G Tryd.f51 Jj.mc.pre Jj.mc.post x_=Jj.mc.F x_:=by kernel_rfl
theorem Jj.ok:MOk Tryd.prog 51 Jj.mc:=kW (G:=Jj.G) Jm mixed Tryd.func51 ⟨Je,jW,jK,jV⟩ (m:=0) (by kernel_rfl) trivial (by kernel_rfl) Jj.eq
abbrev ct45:SD:=.one (.clo 1000100)
abbrev ct46:SO:=.clo 51 [] [.ref 1000101 0]
def ju.pre:Shape:=⟨[(0,ct4),(1,ct45)],[(1000100,ct46),(1000101,ct44)]⟩
def ju.post:Shape:=⟨[(0,ct4)],[(1000100,ct46),(1000101,ct44)]⟩
def ju.c5 {ρ:Type} (o0:Int) (o1:Int) (o2:List (Int)) (o3:Int) (o4:Int) (o5:List (Int)) (t3005:List ((Int)×((Int)×((List Int)×((Int)×((Int)×(List Int))))))) (t10001010:Int) (k_:(List ((Int)×((Int)×((List Int)×((Int)×((Int)×(List Int)))))))×(Int)→Option ρ):Option ρ:=
  bnd (W.jT (o0,o1,o2,o3,o4,o5)) fun y=>
  bnd (W.Jj y t10001010) fun y_1=>
  bnd (okIf (decide ((List.length t3005+(1:Nat))*(80:Nat)≤(140737488355328:Nat)) && decide (List.length t3005+(1:Nat)≤(140737488355328:Nat)))) fun y_2=>
  k_ ((t3005++[y_1.1]),y_1.2.1)
def ju.c5s:Shape:=⟨[(0,ct4),(1,ct45),(2,ct6),(4,ct23),(5,ct19),(7,ct24),(14,ct18),(15,ct2),(16,ct2)],[(2,ct8),(4,ct8),(5,ct26),(7,ct14),(3005,ct10),(1000100,ct46),(1000101,ct44)]⟩
def ju.c5x0:Shape:=ju.c5s
def ju.c5r:Ck:=Ck.of (T:=(List ((Int)×((Int)×((List Int)×((Int)×((Int)×(List Int)))))))×(Int)) ju.c5s (fun ρ x_ k_=>ju.c5 x_.2.2.2.2.2.2.2.2.2.2.2.2.1 x_.2.2.2.2.2.2.2.2.2.2.2.2.2.1 x_.2.2.2.2.2.2.2.2.2.2.2.2.2.2.1 x_.2.2.2.2.2.2.2.2.2.2.2.2.2.2.2.1 x_.2.2.2.2.2.2.2.2.2.2.2.2.2.2.2.2.1 x_.2.2.2.2.2.2.2.2.2.2.2.2.2.2.2.2.2.1 x_.2.2.2.2.2.2.2.2.2.2.2.2.2.2.2.2.2.2.1 x_.2.2.2.2.2.2.2.2.2.2.2.2.2.2.2.2.2.2.2.1 k_) (fun ρ x_ r_ k_=>k_ 0 (Shape.inj ju.c5x0 (x_.1,x_.2.1,x_.2.2.1,x_.2.2.2.1,x_.2.2.2.2.1,x_.2.2.2.2.2.1,x_.2.2.2.2.2.2.1,x_.2.2.2.2.2.2.2.1,x_.2.2.2.2.2.2.2.2.1,x_.2.2.2.2.2.2.2.2.2.1,x_.2.2.2.2.2.2.2.2.2.2.1,x_.2.2.2.2.2.2.2.2.2.2.2.1,x_.2.2.2.2.2.2.2.2.2.2.2.2.1,x_.2.2.2.2.2.2.2.2.2.2.2.2.2.1,x_.2.2.2.2.2.2.2.2.2.2.2.2.2.2.1,x_.2.2.2.2.2.2.2.2.2.2.2.2.2.2.2.1,x_.2.2.2.2.2.2.2.2.2.2.2.2.2.2.2.2.1,x_.2.2.2.2.2.2.2.2.2.2.2.2.2.2.2.2.2.1,r_.1,r_.2,())))
def ju.c100003 {ρ:Type} (t14:List ((Int)×((Int)×((List Int)×((Int)×((Int)×(List Int))))))) (t15:Int) (t16:Int) (t3005:List ((Int)×((Int)×((List Int)×((Int)×((Int)×(List Int))))))) (t10001010:Int) (k_:((Int)×(List ((Int)×((Int)×((List Int)×((Int)×((Int)×(List Int)))))))×(Int))⊕((Int)×(List ((Int)×((Int)×((List Int)×((Int)×((Int)×(List Int)))))))×(Int))→Option ρ):Option ρ:=
  br (decide (t16 < t15))
   (bnd (idx t14 t16) fun y=>
    bnd (W.ju.c5 y.1 y.2.1 y.2.2.1 y.2.2.2.1 y.2.2.2.2.1 y.2.2.2.2.2 t3005 t10001010 some) fun y_1=>
    k_ (.inl ((IntKind.i64.wrap (t16+(1:Int))),y_1.1,y_1.2)))
   (k_ (.inr (t16,t3005,t10001010)))
def ju.c100003s:Shape:=⟨[(0,ct4),(1,ct45),(2,ct6),(4,ct23),(5,ct19),(14,ct18),(15,ct2),(16,ct2)],[(2,ct8),(4,ct8),(5,ct26),(3005,ct10),(1000100,ct46),(1000101,ct44)]⟩
def ju.c100003x0:Shape:=ju.c100003s
def ju.c100003r:Ck:=Ck.ofLoop (S:=(Int)×(List ((Int)×((Int)×((List Int)×((Int)×((Int)×(List Int)))))))×(Int)) (T:=(Int)×(List ((Int)×((Int)×((List Int)×((Int)×((Int)×(List Int)))))))×(Int)) ju.c100003s (fun x_=>(x_.2.2.2.1,x_.2.2.2.2.2.2.2.2.2.2.2.2.1,x_.2.2.2.2.2.2.2.2.2.2.2.2.2.1)) (fun ρ x_ s_ k_=>ju.c100003 x_.2.1 x_.2.2.1 s_.1 s_.2.1 s_.2.2 k_) (fun ρ x_ r_ k_=>k_ 2 (Shape.inj ju.c100003x0 (x_.1,x_.2.1,x_.2.2.1,r_.1,x_.2.2.2.2.1,x_.2.2.2.2.2.1,x_.2.2.2.2.2.2.1,x_.2.2.2.2.2.2.2.1,x_.2.2.2.2.2.2.2.2.1,x_.2.2.2.2.2.2.2.2.2.1,x_.2.2.2.2.2.2.2.2.2.2.1,x_.2.2.2.2.2.2.2.2.2.2.2.1,r_.2.1,r_.2.2,())))
def ju (c:(Int)×((Int)×(List ((Int)×((Int)×((List Int)×((Int)×((Int)×(List Int))))))))) (t10001010:Int):Option (((Int)×((Int)×(List ((Int)×((Int)×((List Int)×((Int)×((Int)×(List Int)))))))))×(Int)×Unit):=
  bnd (iter (fun s↦W.ju.c100003 c.2.2 (↑(List.length c.2.2):Int) s.1 s.2.1 s.2.2 some) ((0:Int),[],t10001010)) fun y=>
  some ((c.1,c.2.1,y.2.1),y.2.2,())
def ju.mc:MCallee:=⟨46,ju.pre,ju.post,fun x_=>ju x_.1 x_.2.1⟩
def ju.G:Env:=⟨31,tab,[(45,jT.ce)],[0,1,2,4,5,7,14,15,16,17],[2,5,12,3002,3005],[(5,[⟨[],[],[22,23,24,25,26],[1000101,26]⟩,⟨[0],[],[22,23,24,25,26],[1000101,26]⟩,⟨[],[],[20,21,23,24],[]⟩,⟨[],[],[20,21,22],[]⟩,⟨[3],[],[20,21,22],[]⟩,⟨[2,4,3],[1000101],[20,21],[]⟩,⟨[5,2,4,3],[26],[20,21],[]⟩,⟨[1,0,6,5,2,4,3],[3005],[],[]⟩,⟨[0,1,2,3,4,5,6,7],[],[],[]⟩,⟨[8,0,1,2,3,4,5,6,7],[5],[],[]⟩])],[(100003,ju.c100003r),(5,ju.c5r)],[(51,Jj.mc)],Jc,[]⟩
theorem ju.eq (x_:densU ju.mc.pre.tys):denM ju.G Tryd.f46 ju.mc.pre ju.mc.post x_=ju.mc.F x_:=by kernel_rfl
theorem ju.p0:PcA ju.G Tryd.f46 0:=
  JD (s:=ju.c100003r) (by kernel_rfl) (by kernel_rfl) (Ju (sh:=ju.c100003s) (I:=fun x_ s_=>(x_.1,x_.2.1,x_.2.2.1,s_.1,x_.2.2.2.2.1,x_.2.2.2.2.2.1,x_.2.2.2.2.2.2.1,x_.2.2.2.2.2.2.2.1,x_.2.2.2.2.2.2.2.2.1,x_.2.2.2.2.2.2.2.2.2.1,x_.2.2.2.2.2.2.2.2.2.2.1,x_.2.2.2.2.2.2.2.2.2.2.2.1,s_.2.1,s_.2.2,())) (fun x_=>rfl) (fun ρ x_ s_ k_=>(jr (jf fun _=>(jf fun _=>ja)) ja)) (fun ρ x_ t k=>(by kernel_rfl)) (fun x_ s=>by kernel_rfl))
theorem ju.p1:PcA ju.G Tryd.f46 1:=
  jC (s:=ju.c5r) (by kernel_rfl) (by kernel_rfl) (jH (sh:=ju.c5s) (fun ρ x_ k_=>(jf fun _=>(jf fun _=>(jf fun _=>ja)))) (fun ρ x_ t k=>(by kernel_rfl)) (fun x_=>by kernel_rfl))
theorem ju.ok:MOk Tryd.prog 46 ju.mc:=kW (G:=ju.G) Jm mixed Tryd.func46 ⟨(jL jT.ok Je),(JG Jj.ok jW),jK,jV⟩ (m:=2) (by kernel_rfl) ⟨⟨trivial,ju.p0⟩,ju.p1⟩ (by kernel_rfl) ju.eq
abbrev ct47:SD:=.one (.ref 9 0)
def ji.c3 {ρ:Type}  (k_:Unit→Option ρ):Option ρ:=
  k_ ()
def ji.c3s:Shape:=⟨[(0,ct4),(1,ct2),(2,ct6),(3,ct7),(4,ct23),(5,ct19),(6,ct42)],[(2,ct8),(3,ct44),(4,ct8),(5,ct17),(6,ct17)]⟩
def ji.c3x0:Shape:=ji.c3s
def ji.c3r:Ck:=Ck.of (T:=Unit) ji.c3s (fun ρ x_ k_=>ji.c3  k_) (fun ρ x_ r_ k_=>k_ 0 (Shape.inj ji.c3x0 (x_.1,x_.2.1,x_.2.2.1,x_.2.2.2.1,x_.2.2.2.2.1,x_.2.2.2.2.2.1,(0:Int),(0:Int),[],x_.2.2.2.2.2.2.2.2.2.2.2.1,x_.2.2.2.2.2.2.2.2.2.2.2.2.1,x_.2.2.2.2.2.2.2.2.2.2.2)))
def ji.c4 {ρ:Type} (c0:Int) (q0:Int) (k_:Bool→Option ρ):Option ρ:=
  br (decide (q0 < (0:Int)))
   (k_ true)
   (k_ (decide (q0≥c0)))
def ji.c4s:Shape:=ji.c3s
def ji.c4x0:Shape:=⟨[(0,ct4),(1,ct2),(2,ct6),(3,ct7),(4,ct23),(5,ct19),(6,ct42),(24,ct11)],[(2,ct8),(3,ct44),(4,ct8),(5,ct17),(6,ct17)]⟩
def ji.c4r:Ck:=Ck.of (T:=Bool) ji.c4s (fun ρ x_ k_=>ji.c4 x_.2.2.1 x_.2.2.2.2.2.1 k_) (fun ρ x_ r_ k_=>k_ 0 (Shape.inj ji.c4x0 (x_.1,x_.2.1,r_,x_.2.2)))
def ji.c8 {ρ:Type}  (k_:Unit→Option ρ):Option ρ:=
  k_ ()
def ji.c8s:Shape:=⟨[(0,ct4),(1,ct2),(2,ct6),(3,ct7),(4,ct23),(5,ct19),(6,ct42),(7,ct24)],[(2,ct8),(3,ct44),(4,ct8),(5,ct17),(6,ct17),(7,ct17)]⟩
def ji.c8x0:Shape:=ji.c8s
def ji.c8r:Ck:=Ck.of (T:=Unit) ji.c8s (fun ρ x_ k_=>ji.c8  k_) (fun ρ x_ r_ k_=>k_ 0 (Shape.inj ji.c8x0 (x_.1,x_.2.1,x_.2.2.1,x_.2.2.2.1,x_.2.2.2.2.1,x_.2.2.2.2.2.1,(0:Int),(0:Int),[],x_.2.2.2.2.2.2.2.2.2.2.2.2.2.1,x_.2.2.2.2.2.2.2.2.2.2.2.2.2.2.1,x_.2.2.2.2.2.2.2.2.2.2.2)))
def ji.c12 {ρ:Type} (q0:Int) (o0:Int) (o2:List (Int)) (o3:Int) (k_:Bool→Option ρ):Option ρ:=
  br (o0 != (1:Int))
   (br (o3 == q0)
     (k_ true)
     (bnd (W.jU o2 q0) fun y=>
      k_ y))
   (k_ false)
def ji.c12s:Shape:=⟨[(0,ct4),(1,ct2),(2,ct6),(3,ct7),(4,ct23),(5,ct19),(6,ct42),(7,ct24),(8,ct2),(9,ct47),(35,ct18),(36,ct2),(37,ct2)],[(2,ct8),(3,ct44),(4,ct8),(5,ct17),(6,ct17),(7,ct17),(9,ct14)]⟩
def ji.c12x0:Shape:=⟨[(0,ct4),(1,ct2),(2,ct6),(3,ct7),(4,ct23),(5,ct19),(6,ct42),(7,ct24),(8,ct2),(9,ct47),(35,ct18),(36,ct2),(37,ct2),(56,ct11)],[(2,ct8),(3,ct44),(4,ct8),(5,ct17),(6,ct17),(7,ct17),(9,ct14)]⟩
def ji.c12r:Ck:=Ck.of (T:=Bool) ji.c12s (fun ρ x_ k_=>ji.c12 x_.2.2.2.2.2.2.2.2.2.1 x_.2.2.2.2.2.2.2.2.2.2.2.2.2.2.2.2.2.2.2.1 x_.2.2.2.2.2.2.2.2.2.2.2.2.2.2.2.2.2.2.2.2.2.1 x_.2.2.2.2.2.2.2.2.2.2.2.2.2.2.2.2.2.2.2.2.2.2.1 k_) (fun ρ x_ r_ k_=>k_ 0 (Shape.inj ji.c12x0 (x_.1,x_.2.1,x_.2.2.1,x_.2.2.2.1,x_.2.2.2.2.1,x_.2.2.2.2.2.1,r_,x_.2.2.2.2.2.2)))
def ji.c100010 {ρ:Type} (t35:List ((Int)×((Int)×((List Int)×((Int)×((Int)×(List Int))))))) (t36:Int) (t37:Int) (q0:Int) (k_:(Int)⊕(((Int)×(Int)×(Int))⊕(Int))→Option ρ):Option ρ:=
  br (decide (t37 < t36))
   (bnd (idx t35 t37) fun y=>
    bnd (W.ji.c12 q0 y.1 y.2.2.1 y.2.2.2.1 some) fun y_1=>
    br y_1
     (bnd (W.Ji (12:Int) t37) fun y_2=>
      k_ (.inr (.inl (t37,y_2.1,y_2.2))))
     (k_ (.inl (IntKind.i64.wrap (t37+(1:Int))))))
   (k_ (.inr (.inr t37)))
def ji.c100010s:Shape:=⟨[(0,ct4),(1,ct2),(2,ct6),(3,ct7),(4,ct23),(5,ct19),(6,ct42),(7,ct24),(35,ct18),(36,ct2),(37,ct2)],[(2,ct8),(3,ct44),(4,ct8),(5,ct17),(6,ct17),(7,ct17)]⟩
def ji.c100010x0:Shape:=ji.c100010s
def ji.c100010x1:Shape:=ji.c100010s
def ji.c100010r:Ck:=Ck.ofLoop (S:=Int) (T:=((Int)×(Int)×(Int))⊕(Int)) ji.c100010s (fun x_=>x_.2.2.2.2.1) (fun ρ x_ s_ k_=>ji.c100010 x_.2.2.1 x_.2.2.2.1 s_ x_.2.2.2.2.2.2.2.2.1 k_) (fun ρ x_ r_ k_=>sel r_ (fun r_=>k_ 1 (Shape.inj ji.c100010x0 (x_.1,x_.2.1,x_.2.2.1,x_.2.2.2.1,r_.1,x_.2.2.2.2.2.1,x_.2.2.2.2.2.2.1,x_.2.2.2.2.2.2.2.1,x_.2.2.2.2.2.2.2.2.1,(0:Int),(0:Int),[],r_.2.1,r_.2.2,x_.2.2.2.2.2.2.2.2.2.2.2.2.2.2))) (fun r_=>k_ 2 (Shape.inj ji.c100010x1 (x_.1,x_.2.1,x_.2.2.1,x_.2.2.2.1,r_,x_.2.2.2.2.2))))
def ji (c:(Int)×((Int)×(List ((Int)×((Int)×((List Int)×((Int)×((Int)×(List Int))))))))) (q:Int):Option (((Int)×((Int)×(List ((Int)×((Int)×((List Int)×((Int)×((Int)×(List Int)))))))))×((Int)×(Int))):=
  bnd (W.jt (c.1,c.2.1,c.2.2)) fun y=>
  br (y.1 != (0:Int))
   (bnd (W.ji.c3 some) fun y_1=>
    some (((0:Int),(0:Int),[]),y.1,y.2))
   (bnd (W.ji.c4 c.1 q some) fun y_2=>
    br y_2
     (bnd (W.Ji (10:Int) (0:Int)) fun y_3=>
      some (((0:Int),(0:Int),[]),y_3.1,y_3.2))
     (bnd (W.jJ (c.1,c.2.1,c.2.2)) fun y_4=>
      br (y_4.1 != (0:Int))
       (bnd (W.ji.c8 some) fun y_5=>
        some (((0:Int),(0:Int),[]),y_4.1,y_4.2))
       (bnd (iter (fun s↦W.ji.c100010 c.2.2 (↑(List.length c.2.2):Int) s q some) (0:Int)) fun y_6=>
        sel y_6
         (fun u=>some (((0:Int),(0:Int),[]),u.2.1,u.2.2))
         (fun v=>bnd (W.ju (c.1,c.2.1,c.2.2) q) fun y_7=>
          some ((y_7.1.1,y_7.1.2.1,y_7.1.2.2),(0:Int),(0:Int))))))
def ji.ce:Go.Ql.Callee:=⟨[(.st (.pair (.int .i64) (.pair (.int .i64) (.sl (.st (.pair (.int .i64) (.pair (.int .i64) (.pair (.sl (.int .i64)) (.pair (.int .i64) (.pair (.int .i64) (.sl (.int .i64)))))))))))),(.int .i64)],[(.st (.pair (.int .i64) (.pair (.int .i64) (.sl (.st (.pair (.int .i64) (.pair (.int .i64) (.pair (.sl (.int .i64)) (.pair (.int .i64) (.pair (.int .i64) (.sl (.int .i64)))))))))))),(.st (.pair (.int .i64) (.int .i64)))],fun x_=>ji x_.1 x_.2⟩
def ji.G:Env:=⟨65,tab,[(14,jt.ce),(40,Ji.ce),(44,jJ.ce),(50,jU.ce)],[0,1,2,3,4,5,6,7,8,9,14,24,31,35,36,37,38,56],[],[(8,[⟨[],[],[33],[]⟩,⟨[],[],[32],[4]⟩,⟨[0],[4],[33],[]⟩,⟨[1,2,0],[5],[],[]⟩]),
  (3,[⟨[],[],[16],[]⟩,⟨[],[],[15],[4]⟩,⟨[0],[4],[16],[]⟩,⟨[1,2,0],[5],[],[]⟩])],[(100010,ji.c100010r),(12,ji.c12r),(8,ji.c8r),(4,ji.c4r),(3,ji.c3r)],[(46,ju.mc)],Jc,[]⟩
theorem ji.eq (x_:dens ji.ce.params):den ji.G Tryd.f25 ji.ce.params ji.ce.res x_=ji.ce.F x_:=by kernel_rfl
theorem ji.p0:PcA ji.G Tryd.f25 0:=
  jC (s:=ji.c3r) (by kernel_rfl) (by kernel_rfl) (jH (sh:=ji.c3s) (fun ρ x_ k_=>ja) (fun ρ x_ t k=>(by kernel_rfl)) (fun x_=>by kernel_rfl))
theorem ji.p1:PcA ji.G Tryd.f25 1:=
  jC (s:=ji.c4r) (by kernel_rfl) (by kernel_rfl) (jH (sh:=ji.c4s) (fun ρ x_ k_=>(jr ja ja)) (fun ρ x_ t k=>(by kernel_rfl)) (fun x_=>by kernel_rfl))
theorem ji.p2:PcA ji.G Tryd.f25 2:=
  jC (s:=ji.c8r) (by kernel_rfl) (by kernel_rfl) (jH (sh:=ji.c8s) (fun ρ x_ k_=>ja) (fun ρ x_ t k=>(by kernel_rfl)) (fun x_=>by kernel_rfl))
theorem ji.p3:PcA ji.G Tryd.f25 3:=
  JD (s:=ji.c100010r) (by kernel_rfl) (by kernel_rfl) (Ju (sh:=ji.c100010s) (I:=fun x_ s_=>(x_.1,x_.2.1,x_.2.2.1,x_.2.2.2.1,s_,x_.2.2.2.2.2)) (fun x_=>rfl) (fun ρ x_ s_ k_=>(jr (jf fun _=>(jf fun _=>(jr (jf fun _=>ja) ja))) ja)) (fun ρ x_ t k=>(ki (fun _=>(by kernel_rfl)) (fun _=>(by kernel_rfl)))) (fun x_ s=>by kernel_rfl))
theorem ji.p4:PcA ji.G Tryd.f25 4:=
  jC (s:=ji.c12r) (by kernel_rfl) (by kernel_rfl) (jH (sh:=ji.c12s) (fun ρ x_ k_=>(jr (jr ja (jf fun _=>ja)) ja)) (fun ρ x_ t k=>(by kernel_rfl)) (fun x_=>by kernel_rfl))
theorem ji.ok:CalleeOk Tryd.prog 25 ji.ce:=fn_ok (G:=ji.G) Jm mixed Tryd.func25 ⟨(jL jt.ok (jL Ji.ok (jL jJ.ok (jL jU.ok Je)))),(JG ju.ok jW),jK,jV⟩ (m:=5) (by kernel_rfl) ⟨⟨⟨⟨⟨trivial,ji.p0⟩,ji.p1⟩,ji.p2⟩,ji.p3⟩,ji.p4⟩ (by kernel_rfl) ji.eq
abbrev ct48:SO:=.box [.val (.int .i64),.val (.int .i64),.own 3007 0]
def jg.c3 {ρ:Type}  (k_:Unit→Option ρ):Option ρ:=
  k_ ()
def jg.c3s:Shape:=⟨[(0,ct4),(1,ct2),(2,ct6),(4,ct23),(5,ct19),(6,ct42)],[(2,ct8),(4,ct8),(5,ct17),(6,ct17)]⟩
def jg.c3x0:Shape:=jg.c3s
def jg.c3r:Ck:=Ck.of (T:=Unit) jg.c3s (fun ρ x_ k_=>jg.c3  k_) (fun ρ x_ r_ k_=>k_ 0 (Shape.inj jg.c3x0 (x_.1,x_.2.1,x_.2.2.1,x_.2.2.2.1,x_.2.2.2.2.1,(0:Int),(0:Int),[],x_.2.2.2.2.2.2.2.2.2.2.1,x_.2.2.2.2.2.2.2.2.2.2.2.1,x_.2.2.2.2.2.2.2.2.2.2)))
def jg.c4 {ρ:Type} (q:Int) (c0:Int) (k_:Bool→Option ρ):Option ρ:=
  br (decide (q < (0:Int)))
   (k_ true)
   (k_ (decide (q≥c0)))
def jg.c4s:Shape:=jg.c3s
def jg.c4x0:Shape:=⟨[(0,ct4),(1,ct2),(2,ct6),(4,ct23),(5,ct19),(6,ct42),(24,ct11)],[(2,ct8),(4,ct8),(5,ct17),(6,ct17)]⟩
def jg.c4r:Ck:=Ck.of (T:=Bool) jg.c4s (fun ρ x_ k_=>jg.c4 x_.2.1 x_.2.2.1 k_) (fun ρ x_ r_ k_=>k_ 0 (Shape.inj jg.c4x0 (x_.1,x_.2.1,r_,x_.2.2)))
def jg.c8 {ρ:Type}  (k_:Unit→Option ρ):Option ρ:=
  k_ ()
def jg.c8s:Shape:=jg.c3s
def jg.c8x0:Shape:=jg.c3s
def jg.c8r:Ck:=Ck.of (T:=Unit) jg.c8s (fun ρ x_ k_=>jg.c8  k_) (fun ρ x_ r_ k_=>k_ 0 (Shape.inj jg.c8x0 (x_.1,x_.2.1,x_.2.2.1,x_.2.2.2.1,x_.2.2.2.2.1,(0:Int),(0:Int),[],x_.2.2.2.2.2.2.2.2.2.2.1,x_.2.2.2.2.2.2.2.2.2.2.2.1,x_.2.2.2.2.2.2.2.2.2.2)))
def jg.c16 {ρ:Type} (q:Int) (o2:List (Int)) (o3:Int) (k_:Bool→Option ρ):Option ρ:=
  br (o3 == q)
   (k_ true)
   (bnd (W.Jd o2 q) fun y=>
    k_ y)
def jg.c16s:Shape:=⟨[(0,ct4),(1,ct2),(2,ct6),(4,ct23),(5,ct19),(6,ct42),(7,ct24),(8,ct2),(9,ct47)],[(2,ct8),(4,ct8),(5,ct17),(6,ct17),(7,ct48),(9,ct14),(3007,ct10)]⟩
def jg.c16x0:Shape:=⟨[(0,ct4),(1,ct2),(2,ct6),(4,ct23),(5,ct19),(6,ct42),(7,ct24),(8,ct2),(9,ct47),(72,ct11)],[(2,ct8),(4,ct8),(5,ct17),(6,ct17),(7,ct48),(9,ct14),(3007,ct10)]⟩
def jg.c16r:Ck:=Ck.of (T:=Bool) jg.c16s (fun ρ x_ k_=>jg.c16 x_.2.1 x_.2.2.2.2.2.2.2.2.2.2.2.2.2.2.2.2.2.1 x_.2.2.2.2.2.2.2.2.2.2.2.2.2.2.2.2.2.2.1 k_) (fun ρ x_ r_ k_=>k_ 0 (Shape.inj jg.c16x0 (x_.1,x_.2.1,x_.2.2.1,r_,x_.2.2.2)))
def jg.c253266 {ρ:Type} (q:Int) (i:Int) (c2:List ((Int)×((Int)×((List Int)×((Int)×((Int)×(List Int))))))) (t3007:List ((Int)×((Int)×((List Int)×((Int)×((Int)×(List Int))))))) (k_:(List ((Int)×((Int)×((List Int)×((Int)×((Int)×(List Int)))))))⊕((Int)×(Int))→Option ρ):Option ρ:=
  bnd (idx c2 i) fun y=>
  br (y.1 == (1:Int))
   (bnd (okIf (decide ((List.length t3007+(1:Nat))*(80:Nat)≤(140737488355328:Nat)) && decide (List.length t3007+(1:Nat)≤(140737488355328:Nat)))) fun y_1=>
    k_ (.inl (t3007++[((4:Int),y.2.1,[],q,(0:Int),[])])))
   (bnd (W.jg.c16 q y.2.2.1 y.2.2.2.1 some) fun y_2=>
    br y_2
     (bnd (W.Jt (12:Int) i) fun y_3=>
      k_ (.inr (y_3.1,y_3.2)))
     (bnd (W.JH (y.1,y.2.1,y.2.2.1,y.2.2.2.1,y.2.2.2.2.1,y.2.2.2.2.2)) fun y_4=>
      bnd (okIf (decide (((1:Nat)+List.length y_4.2.2.1)*(8:Nat)≤(140737488355328:Nat)) && decide ((1:Nat)+List.length y_4.2.2.1≤(140737488355328:Nat)))) fun y_5=>
      bnd (okIf (decide ((List.length t3007+(1:Nat))*(80:Nat)≤(140737488355328:Nat)) && decide (List.length t3007+(1:Nat)≤(140737488355328:Nat)))) fun y_6=>
      k_ (.inl (t3007++[(y_4.1,y_4.2.1,[q]++y_4.2.2.1,y_4.2.2.2.1,y_4.2.2.2.2.1,y_4.2.2.2.2.2)]))))
def jg.c253266s:Shape:=⟨[(0,ct4),(1,ct2),(2,ct6),(4,ct23),(5,ct19),(6,ct42),(7,ct24),(8,ct2)],[(2,ct8),(4,ct8),(5,ct17),(6,ct17),(7,ct48),(3007,ct10)]⟩
def jg.c253266x0:Shape:=jg.c253266s
def jg.c253266x1:Shape:=jg.c253266s
def jg.c253266r:Ck:=Ck.of (T:=(List ((Int)×((Int)×((List Int)×((Int)×((Int)×(List Int)))))))⊕((Int)×(Int))) jg.c253266s (fun ρ x_ k_=>jg.c253266 x_.2.1 x_.2.2.1 x_.2.2.2.2.2.1 x_.2.2.2.2.2.2.2.2.2.2.2.2.2.2.2.1 k_) (fun ρ x_ r_ k_=>sel r_ (fun r_=>k_ 0 (Shape.inj jg.c253266x0 (x_.1,x_.2.1,x_.2.2.1,x_.2.2.2.1,x_.2.2.2.2.1,x_.2.2.2.2.2.1,x_.2.2.2.2.2.2.1,x_.2.2.2.2.2.2.2.1,x_.2.2.2.2.2.2.2.2.1,x_.2.2.2.2.2.2.2.2.2.1,x_.2.2.2.2.2.2.2.2.2.2.1,x_.2.2.2.2.2.2.2.2.2.2.2.1,x_.2.2.2.2.2.2.2.2.2.2.2.2.1,x_.2.2.2.2.2.2.2.2.2.2.2.2.2.1,x_.2.2.2.2.2.2.2.2.2.2.2.2.2.2.1,r_,()))) (fun r_=>k_ 1 (Shape.inj jg.c253266x1 (x_.1,x_.2.1,x_.2.2.1,x_.2.2.2.1,x_.2.2.2.2.1,x_.2.2.2.2.2.1,(0:Int),(0:Int),[],r_.1,r_.2,x_.2.2.2.2.2.2.2.2.2.2.2))))
def jg.c100011 {ρ:Type} (q:Int) (i:Int) (c2:List ((Int)×((Int)×((List Int)×((Int)×((Int)×(List Int))))))) (t3007:List ((Int)×((Int)×((List Int)×((Int)×((Int)×(List Int))))))) (k_:((Int)×(List ((Int)×((Int)×((List Int)×((Int)×((Int)×(List Int))))))))⊕(((Int)×(Int)×(Int)×(List ((Int)×((Int)×((List Int)×((Int)×((Int)×(List Int))))))))⊕((Int)×(List ((Int)×((Int)×((List Int)×((Int)×((Int)×(List Int)))))))))→Option ρ):Option ρ:=
  br (decide (i < (↑(List.length c2):Int)))
   (bnd (W.jg.c253266 q i c2 t3007 some) fun y=>
    sel y
     (fun u=>k_ (.inl ((IntKind.i64.wrap (i+(1:Int))),u)))
     (fun v=>k_ (.inr (.inl (i,v.1,v.2,t3007)))))
   (k_ (.inr (.inr (i,t3007))))
def jg.c100011s:Shape:=jg.c253266s
def jg.c100011x0:Shape:=jg.c253266s
def jg.c100011x1:Shape:=jg.c253266s
def jg.c100011r:Ck:=Ck.ofLoop (S:=(Int)×(List ((Int)×((Int)×((List Int)×((Int)×((Int)×(List Int)))))))) (T:=((Int)×(Int)×(Int)×(List ((Int)×((Int)×((List Int)×((Int)×((Int)×(List Int))))))))⊕((Int)×(List ((Int)×((Int)×((List Int)×((Int)×((Int)×(List Int))))))))) jg.c100011s (fun x_=>(x_.2.2.1,x_.2.2.2.2.2.2.2.2.2.2.2.2.2.2.2.1)) (fun ρ x_ s_ k_=>jg.c100011 x_.2.1 s_.1 x_.2.2.2.2.2.1 s_.2 k_) (fun ρ x_ r_ k_=>uP x_ fun c x_=>uP x_ fun q x_=>uP x_ fun i x_=>uP x_ fun c0 x_=>uP x_ fun c1 x_=>uP x_ fun c2 x_=>uP x_ fun t40 x_=>uP x_ fun t41 x_=>uP x_ fun t42 x_=>uP x_ fun t50 x_=>uP x_ fun t51 x_=>uP x_ fun f0 x_=>uP x_ fun f1 x_=>uP x_ fun out0 x_=>uP x_ fun out1 x_=>uP x_ fun t3007 x_=>sel r_ (fun r_=>k_ 1 (Shape.inj jg.c100011x0 (c,q,r_.1,c0,c1,c2,(0:Int),(0:Int),[],r_.2.1,r_.2.2.1,f0,f1,out0,out1,r_.2.2.2,()))) (fun r_=>k_ 2 (Shape.inj jg.c100011x1 (c,q,r_.1,c0,c1,c2,t40,t41,t42,t50,t51,f0,f1,out0,out1,r_.2,()))))
def jg.c21 {ρ:Type}  (k_:Unit→Option ρ):Option ρ:=
  k_ ()
def jg.c21s:Shape:=jg.c253266s
def jg.c21x0:Shape:=⟨[(0,ct4),(1,ct2),(2,ct6),(4,ct23),(5,ct19),(6,ct42),(7,ct24),(8,ct2)],[(2,ct8),(4,ct48),(5,ct17),(6,ct17),(7,ct48),(3007,ct10)]⟩
def jg.c21r:Ck:=Ck.of (T:=Unit) jg.c21s (fun ρ x_ k_=>jg.c21  k_) (fun ρ x_ r_ k_=>k_ 0 (Shape.inj jg.c21x0 (x_.1,x_.2.1,x_.2.2.1,x_.2.2.2.1,x_.2.2.2.2.1,x_.2.2.2.2.2.1,x_.2.2.2.2.2.2.2.2.2.2.2.2.2.1,x_.2.2.2.2.2.2.2.2.2.2.2.2.2.2.1,x_.2.2.2.2.2.2.2.2.2.2.2.1,x_.2.2.2.2.2.2.2.2.2.2.2.2.1,x_.2.2.2.2.2.2.2.2.2.2.2)))
def jg (c:(Int)×((Int)×(List ((Int)×((Int)×((List Int)×((Int)×((Int)×(List Int))))))))) (q:Int):Option (((Int)×((Int)×(List ((Int)×((Int)×((List Int)×((Int)×((Int)×(List Int)))))))))×((Int)×(Int))):=
  bnd (W.jB (c.1,c.2.1,c.2.2)) fun y=>
  br (y.1 != (0:Int))
   (bnd (W.jg.c3 some) fun y_1=>
    some (((0:Int),(0:Int),[]),y.1,y.2))
   (bnd (W.jg.c4 q c.1 some) fun y_2=>
    br y_2
     (bnd (W.Jt (10:Int) (0:Int)) fun y_3=>
      some (((0:Int),(0:Int),[]),y_3.1,y_3.2))
     (bnd (W.Jf (c.1,c.2.1,c.2.2)) fun y_4=>
      br (y_4.1 != (0:Int))
       (bnd (W.jg.c8 some) fun y_5=>
        some (((0:Int),(0:Int),[]),y_4.1,y_4.2))
       (bnd (iter (fun s↦W.jg.c100011 q s.1 c.2.2 s.2 some) ((0:Int),[])) fun y_6=>
        sel y_6
         (fun u=>some (((0:Int),(0:Int),[]),u.2.1,u.2.2.1))
         (fun v=>bnd (W.jg.c21 some) fun y_7=>
          some ((c.1,c.2.1,v.2),y_4.1,y_4.2)))))
def jg.ce:Go.Ql.Callee:=⟨[(.st (.pair (.int .i64) (.pair (.int .i64) (.sl (.st (.pair (.int .i64) (.pair (.int .i64) (.pair (.sl (.int .i64)) (.pair (.int .i64) (.pair (.int .i64) (.sl (.int .i64)))))))))))),(.int .i64)],[(.st (.pair (.int .i64) (.pair (.int .i64) (.sl (.st (.pair (.int .i64) (.pair (.int .i64) (.pair (.sl (.int .i64)) (.pair (.int .i64) (.pair (.int .i64) (.sl (.int .i64)))))))))))),(.st (.pair (.int .i64) (.int .i64)))],fun x_=>jg x_.1 x_.2⟩
def jg.G:Env:=⟨92,tab,[(15,jB.ce),(42,Jt.ce),(17,Jf.ce),(52,Jd.ce),(37,JH.ce)],[0,1,2,4,5,6,7,8,9,14,24,31,43,53,72],[2,7,38,79,3002,3007],[(21,[⟨[],[],[91],[]⟩,⟨[],[],[90],[4]⟩,⟨[0],[4],[91],[]⟩,⟨[1,2,0],[5],[],[]⟩]),
  (8,[⟨[],[],[33],[]⟩,⟨[],[],[32],[4]⟩,⟨[0],[4],[33],[]⟩,⟨[1,2,0],[5],[],[]⟩]),
  (3,[⟨[],[],[16],[]⟩,⟨[],[],[15],[4]⟩,⟨[0],[4],[16],[]⟩,⟨[1,2,0],[5],[],[]⟩])],[(21,jg.c21r),(100011,jg.c100011r),(253266,jg.c253266r),(16,jg.c16r),(8,jg.c8r),(4,jg.c4r),(3,jg.c3r)],[],Jc,[]⟩
theorem jg.eq (x_:dens jg.ce.params):den jg.G Tryd.f26 jg.ce.params jg.ce.res x_=jg.ce.F x_:=by kernel_rfl
theorem jg.p0:PcA jg.G Tryd.f26 0:=
  jC (s:=jg.c3r) (by kernel_rfl) (by kernel_rfl) (jH (sh:=jg.c3s) (fun ρ x_ k_=>ja) (fun ρ x_ t k=>(by kernel_rfl)) (fun x_=>by kernel_rfl))
theorem jg.p1:PcA jg.G Tryd.f26 1:=
  jC (s:=jg.c4r) (by kernel_rfl) (by kernel_rfl) (jH (sh:=jg.c4s) (fun ρ x_ k_=>(jr ja ja)) (fun ρ x_ t k=>(by kernel_rfl)) (fun x_=>by kernel_rfl))
theorem jg.p2:PcA jg.G Tryd.f26 2:=
  jC (s:=jg.c8r) (by kernel_rfl) (by kernel_rfl) (jH (sh:=jg.c8s) (fun ρ x_ k_=>ja) (fun ρ x_ t k=>(by kernel_rfl)) (fun x_=>by kernel_rfl))
theorem jg.p3:PcA jg.G Tryd.f26 3:=
  JD (s:=jg.c100011r) (by kernel_rfl) (by kernel_rfl) (Ju (sh:=jg.c100011s) (I:=fun x_ s_=>(x_.1,x_.2.1,s_.1,x_.2.2.2.1,x_.2.2.2.2.1,x_.2.2.2.2.2.1,x_.2.2.2.2.2.2.1,x_.2.2.2.2.2.2.2.1,x_.2.2.2.2.2.2.2.2.1,x_.2.2.2.2.2.2.2.2.2.1,x_.2.2.2.2.2.2.2.2.2.2.1,x_.2.2.2.2.2.2.2.2.2.2.2.1,x_.2.2.2.2.2.2.2.2.2.2.2.2.1,x_.2.2.2.2.2.2.2.2.2.2.2.2.2.1,x_.2.2.2.2.2.2.2.2.2.2.2.2.2.2.1,s_.2,())) (fun x_=>rfl) (fun ρ x_ s_ k_=>(jr (jf fun _=>(ki (fun _=>ja) (fun _=>ja))) ja)) (fun ρ x_ t k=>(ki (fun _=>(by kernel_rfl)) (fun _=>(by kernel_rfl)))) (fun x_ s=>by kernel_rfl))
theorem jg.p4:PcA jg.G Tryd.f26 4:=
  kG (s:=jg.c253266r) (by kernel_rfl) (by kernel_rfl) (jH (sh:=jg.c253266s) (fun ρ x_ k_=>(jf fun _=>(jr (jf fun _=>ja) (jf fun _=>(jr (jf fun _=>ja) (jf fun _=>(jf fun _=>(jf fun _=>ja)))))))) (fun ρ x_ t k=>(ki (fun _=>(by kernel_rfl)) (fun _=>(by kernel_rfl)))) (fun x_=>by kernel_rfl))
theorem jg.p5:PcA jg.G Tryd.f26 5:=
  jC (s:=jg.c16r) (by kernel_rfl) (by kernel_rfl) (jH (sh:=jg.c16s) (fun ρ x_ k_=>(jr ja (jf fun _=>ja))) (fun ρ x_ t k=>(by kernel_rfl)) (fun x_=>by kernel_rfl))
theorem jg.p6:PcA jg.G Tryd.f26 6:=
  jC (s:=jg.c21r) (by kernel_rfl) (by kernel_rfl) (jH (sh:=jg.c21s) (fun ρ x_ k_=>ja) (fun ρ x_ t k=>(by kernel_rfl)) (fun x_=>by kernel_rfl))
theorem jg.ok:CalleeOk Tryd.prog 26 jg.ce:=fn_ok (G:=jg.G) Jm mixed Tryd.func26 ⟨(jL jB.ok (jL Jt.ok (jL Jf.ok (jL Jd.ok (jL JH.ok Je))))),jW,jK,jV⟩ (m:=7) (by kernel_rfl) ⟨⟨⟨⟨⟨⟨⟨trivial,jg.p0⟩,jg.p1⟩,jg.p2⟩,jg.p3⟩,jg.p4⟩,jg.p5⟩,jg.p6⟩ (by kernel_rfl) jg.eq
abbrev ct49:SD:=.agg [.val (.int .i64),.val (.int .i64),.own 2 0,.val (.int .i64),.val (.int .i64),.val (.sl (.int .i64))]
abbrev ct50:SO:=.box [.val (.int .i64),.val (.int .i64),.own 3002 0,.val (.int .i64),.val (.int .i64),.val (.sl (.int .i64))]
abbrev ct51:SO:=.box [.val (.int .i64),.val (.int .i64),.own 5 0,.val (.int .i64),.val (.int .i64),.val (.sl (.int .i64))]
def jG.pre:Shape:=⟨[(0,ct12)],[]⟩
def jG.post:Shape:=⟨[(0,ct49)],[(2,ct3)]⟩
def jG.c1 {ρ:Type} (o2:List (Int)) (o5:List (Int)) (k_:(List Int)×(List Int)→Option ρ):Option ρ:=
  bnd (W.jN o2) fun y=>
  bnd (W.jN o5) fun y_1=>
  k_ (y_1.1,y.1)
def jG.c1s:Shape:=⟨[(0,ct12),(1,ct5),(2,ct6)],[(1,ct14),(2,ct50),(3002,ct3)]⟩
def jG.c1x0:Shape:=⟨[(0,ct12),(1,ct5),(2,ct6)],[(1,ct51),(2,ct50),(5,ct3),(3002,ct3)]⟩
def jG.c1r:Ck:=Ck.of (T:=(List Int)×(List Int)) jG.c1s (fun ρ x_ k_=>jG.c1 x_.2.2.2.1 x_.2.2.2.2.2.2.1 k_) (fun ρ x_ r_ k_=>k_ 0 (Shape.inj jG.c1x0 (x_.1,x_.2.1,x_.2.2.1,x_.2.2.2.2.1,x_.2.2.2.2.2.1,r_.1,x_.2.2.2.2.2.2.2.1,x_.2.2.2.2.2.2.2.2.1,x_.2.2.2.2.2.2.2.2.2.1,x_.2.2.2.2.2.2.2.2.2.2.1,x_.2.2.2.2.2.2.2.2.2.2.2.1,r_.2,x_.2.2.2.2.2.2.2.2.2.2.2.2)))
def jG (o:(Int)×((Int)×((List Int)×((Int)×((Int)×(List Int)))))):Option ((Int)×(Int)×(Int)×(Int)×(List Int)×(List Int)×Unit):=
  bnd (W.jG.c1 o.2.2.1 o.2.2.2.2.2 some) fun y=>
  some (o.1,o.2.1,o.2.2.2.1,o.2.2.2.2.1,y.1,y.2,())
def jG.mc:MCallee:=⟨45,jG.pre,jG.post,fun x_=>jG x_.1⟩
def jG.G:Env:=⟨12,tab,[],[0,1,2],[1,2,5,3001,3002],[(1,[⟨[],[],[6,7],[]⟩,⟨[0],[],[6,7],[]⟩,⟨[1,0],[5],[6,7],[]⟩,⟨[],[],[3,4,5],[5]⟩,⟨[3],[],[3,4,5],[5]⟩,⟨[4,3,2,1,0],[8],[9],[]⟩,⟨[0,1,2,3,4],[],[8],[8]⟩,⟨[6,0,1,2,3,4,5],[1],[],[]⟩,⟨[0,1,2,3,4,5,6,7],[],[],[]⟩,⟨[8,0,1,2,3,4,5,6,7],[1],[],[]⟩])],[(1,jG.c1r)],[(70,jN.mc)],Jc,[]⟩
theorem jG.eq (x_:densU jG.mc.pre.tys):denM jG.G Tryd.f45 jG.mc.pre jG.mc.post x_=jG.mc.F x_:=by kernel_rfl
theorem jG.p0:PcA jG.G Tryd.f45 0:=
  jC (s:=jG.c1r) (by kernel_rfl) (by kernel_rfl) (jH (sh:=jG.c1s) (fun ρ x_ k_=>(jf fun _=>(jf fun _=>ja))) (fun ρ x_ t k=>(by kernel_rfl)) (fun x_=>by kernel_rfl))
theorem jG.ok:MOk Tryd.prog 45 jG.mc:=kW (G:=jG.G) Jm mixed Tryd.func45 ⟨Je,(JG jN.ok jW),jK,jV⟩ (m:=1) (by kernel_rfl) ⟨trivial,jG.p0⟩ (by kernel_rfl) jG.eq
abbrev ct52:SD:=.agg [.val (.int .i64),.val (.int .i64),.own 1000003 0,.val (.int .i64),.val (.int .i64),.val (.sl (.int .i64))]
abbrev ct53:SO:=.box [.val (.sl (.int .i64))]
abbrev ct54:SO:=.box [.val (.int .i64),.val (.int .i64),.own 1000003 0,.val (.int .i64),.val (.int .i64),.val (.sl (.int .i64))]
abbrev ct55:SD:=.one (.own 1000003 0)
def jq.pre:Shape:=⟨[(0,ct52),(1,ct13)],[(1000003,ct3),(1000100,ct53)]⟩
def jq.post:Shape:=⟨[(0,ct52)],[(1000003,ct3),(1000100,ct53)]⟩
def jq.c204101 {ρ:Type} (o0_1:Int) (o3_1:Int) (t10001000:List (Int)) (k_:Int→Option ρ):Option ρ:=
  br (o0_1 != (1:Int))
   (bnd (idx t10001000 o3_1) fun y=>
    k_ y)
   (k_ o3_1)
def jq.c204101s:Shape:=⟨[(0,ct52),(1,ct13),(2,ct6),(3,ct7)],[(2,ct54),(3,ct14),(1000003,ct3),(1000100,ct53)]⟩
def jq.c204101x0:Shape:=jq.c204101s
def jq.c204101r:Ck:=Ck.of (T:=Int) jq.c204101s (fun ρ x_ k_=>jq.c204101 x_.2.2.2.2.2.1 x_.2.2.2.2.2.2.2.1 x_.2.2.2.2.2.2.2.2.2.2.2.2.2.2.2.2.2.1 k_) (fun ρ x_ r_ k_=>k_ 0 (Shape.inj jq.c204101x0 (x_.1,x_.2.1,x_.2.2.1,x_.2.2.2.1,x_.2.2.2.2.1,x_.2.2.2.2.2.1,x_.2.2.2.2.2.2.1,r_,x_.2.2.2.2.2.2.2.2)))
def jq.c6 {ρ:Type} (i:Int) (q:Int) (t1000003:List (Int)) (t10001000:List (Int)) (k_:List (Int)→Option ρ):Option ρ:=
  bnd (idx t10001000 q) fun y=>
  bnd (inR (List.length t1000003) i) fun y_1=>
  bnd (idx t1000003 i) fun y_2=>
  k_ (List.set t1000003 (Int.toNat i) y)
def jq.c6s:Shape:=⟨[(0,ct52),(1,ct13),(2,ct6),(3,ct7),(4,ct2),(5,ct2),(16,ct55),(17,ct2),(18,ct2)],[(2,ct54),(3,ct14),(1000003,ct3),(1000100,ct53)]⟩
def jq.c6x0:Shape:=jq.c6s
def jq.c6r:Ck:=Ck.of (T:=List (Int)) jq.c6s (fun ρ x_ k_=>jq.c6 x_.2.2.2.2.2.1 x_.2.2.2.2.2.2.1 x_.2.2.2.2.2.2.2.2.2.2.2.2.2.2.2.2.2.2.2.2.1 x_.2.2.2.2.2.2.2.2.2.2.2.2.2.2.2.2.2.2.2.2.2.1 k_) (fun ρ x_ r_ k_=>k_ 0 (Shape.inj jq.c6x0 (x_.1,x_.2.1,x_.2.2.1,x_.2.2.2.1,x_.2.2.2.2.1,x_.2.2.2.2.2.1,x_.2.2.2.2.2.2.1,x_.2.2.2.2.2.2.2.1,x_.2.2.2.2.2.2.2.2.1,x_.2.2.2.2.2.2.2.2.2.1,x_.2.2.2.2.2.2.2.2.2.2.1,x_.2.2.2.2.2.2.2.2.2.2.2.1,x_.2.2.2.2.2.2.2.2.2.2.2.2.1,x_.2.2.2.2.2.2.2.2.2.2.2.2.2.1,x_.2.2.2.2.2.2.2.2.2.2.2.2.2.2.1,x_.2.2.2.2.2.2.2.2.2.2.2.2.2.2.2.1,x_.2.2.2.2.2.2.2.2.2.2.2.2.2.2.2.2.1,x_.2.2.2.2.2.2.2.2.2.2.2.2.2.2.2.2.2.1,x_.2.2.2.2.2.2.2.2.2.2.2.2.2.2.2.2.2.2.1,x_.2.2.2.2.2.2.2.2.2.2.2.2.2.2.2.2.2.2.2.1,r_,x_.2.2.2.2.2.2.2.2.2.2.2.2.2.2.2.2.2.2.2.2.2)))
def jq.c100004 {ρ:Type} (t17:Int) (t18:Int) (t1000003:List (Int)) (t10001000:List (Int)) (k_:((Int)×(List Int))⊕((Int)×(List Int))→Option ρ):Option ρ:=
  br (decide (t18 < t17))
   (bnd (inR (List.length t1000003) t18) fun y=>
    bnd (idx t1000003 t18) fun y_1=>
    bnd (W.jq.c6 t18 y_1 t1000003 t10001000 some) fun y_2=>
    k_ (.inl ((IntKind.i64.wrap (t18+(1:Int))),y_2)))
   (k_ (.inr (t18,t1000003)))
def jq.c100004s:Shape:=⟨[(0,ct52),(1,ct13),(2,ct6),(3,ct7),(16,ct55),(17,ct2),(18,ct2)],[(2,ct54),(3,ct14),(1000003,ct3),(1000100,ct53)]⟩
def jq.c100004x0:Shape:=jq.c100004s
def jq.c100004r:Ck:=Ck.ofLoop (S:=(Int)×(List Int)) (T:=(Int)×(List Int)) jq.c100004s (fun x_=>(x_.2.2.2.2.2.2.1,x_.2.2.2.2.2.2.2.2.2.2.2.2.2.2.2.2.2.2.1)) (fun ρ x_ s_ k_=>jq.c100004 x_.2.2.2.2.2.1 s_.1 s_.2 x_.2.2.2.2.2.2.2.2.2.2.2.2.2.2.2.2.2.2.2.1 k_) (fun ρ x_ r_ k_=>k_ 2 (Shape.inj jq.c100004x0 (x_.1,x_.2.1,x_.2.2.1,x_.2.2.2.1,x_.2.2.2.2.1,x_.2.2.2.2.2.1,r_.1,x_.2.2.2.2.2.2.2.1,x_.2.2.2.2.2.2.2.2.1,x_.2.2.2.2.2.2.2.2.2.1,x_.2.2.2.2.2.2.2.2.2.2.1,x_.2.2.2.2.2.2.2.2.2.2.2.1,x_.2.2.2.2.2.2.2.2.2.2.2.2.1,x_.2.2.2.2.2.2.2.2.2.2.2.2.2.1,x_.2.2.2.2.2.2.2.2.2.2.2.2.2.2.1,x_.2.2.2.2.2.2.2.2.2.2.2.2.2.2.2.1,x_.2.2.2.2.2.2.2.2.2.2.2.2.2.2.2.2.1,x_.2.2.2.2.2.2.2.2.2.2.2.2.2.2.2.2.2.1,r_.2,x_.2.2.2.2.2.2.2.2.2.2.2.2.2.2.2.2.2.2.2)))
def jq (o0:Int) (o1:Int) (o3:Int) (o4:Int) (o5:List (Int)) (t1000003:List (Int)) (t10001000:List (Int)):Option ((Int)×(Int)×(Int)×(Int)×(List Int)×(List Int)×(List Int)×Unit):=
  bnd (W.jq.c204101 o0 o3 t10001000 some) fun y=>
  bnd (iter (fun s↦W.jq.c100004 (↑(List.length t1000003):Int) s.1 s.2 t10001000 some) ((0:Int),t1000003)) fun y_1=>
  some (o0,o1,y,o4,o5,y_1.2,t10001000,())
def jq.mc:MCallee:=⟨53,jq.pre,jq.post,fun x_=>jq x_.1 x_.2.1 x_.2.2.1 x_.2.2.2.1 x_.2.2.2.2.1 x_.2.2.2.2.2.1 x_.2.2.2.2.2.2.1⟩
def jq.G:Env:=⟨33,tab,[],[0,1,2,3,4,5,8,16,17,18,19],[2,3002,1000003],[(6,[⟨[],[],[25,26,27,28,29],[]⟩,⟨[0],[],[25,26,27,28,29],[]⟩,⟨[],[],[23,24,26,27,28,29],[]⟩,⟨[],[],[23,24,25,27],[]⟩,⟨[],[],[23,24,25,26],[]⟩,⟨[3,4],[],[23,24,25],[]⟩,⟨[5,3,4],[],[23,24,25],[]⟩,⟨[1,0,2,3,4,5,6],[],[],[]⟩,⟨[7,1,0,2,3,4,5,6],[1000003],[],[]⟩])],[(100004,jq.c100004r),(6,jq.c6r),(204101,jq.c204101r)],[],Jc,[]⟩
theorem jq.eq (x_:densU jq.mc.pre.tys):denM jq.G Tryd.f53 jq.mc.pre jq.mc.post x_=jq.mc.F x_:=by kernel_rfl
theorem jq.p0:PcA jq.G Tryd.f53 0:=
  kG (s:=jq.c204101r) (by kernel_rfl) (by kernel_rfl) (jH (sh:=jq.c204101s) (fun ρ x_ k_=>(jr (jf fun _=>ja) ja)) (fun ρ x_ t k=>(by kernel_rfl)) (fun x_=>by kernel_rfl))
theorem jq.p1:PcA jq.G Tryd.f53 1:=
  JD (s:=jq.c100004r) (by kernel_rfl) (by kernel_rfl) (Ju (sh:=jq.c100004s) (I:=fun x_ s_=>(x_.1,x_.2.1,x_.2.2.1,x_.2.2.2.1,x_.2.2.2.2.1,x_.2.2.2.2.2.1,s_.1,x_.2.2.2.2.2.2.2.1,x_.2.2.2.2.2.2.2.2.1,x_.2.2.2.2.2.2.2.2.2.1,x_.2.2.2.2.2.2.2.2.2.2.1,x_.2.2.2.2.2.2.2.2.2.2.2.1,x_.2.2.2.2.2.2.2.2.2.2.2.2.1,x_.2.2.2.2.2.2.2.2.2.2.2.2.2.1,x_.2.2.2.2.2.2.2.2.2.2.2.2.2.2.1,x_.2.2.2.2.2.2.2.2.2.2.2.2.2.2.2.1,x_.2.2.2.2.2.2.2.2.2.2.2.2.2.2.2.2.1,x_.2.2.2.2.2.2.2.2.2.2.2.2.2.2.2.2.2.1,s_.2,x_.2.2.2.2.2.2.2.2.2.2.2.2.2.2.2.2.2.2.2)) (fun x_=>rfl) (fun ρ x_ s_ k_=>(jr (jf fun _=>(jf fun _=>(jf fun _=>ja))) ja)) (fun ρ x_ t k=>(by kernel_rfl)) (fun x_ s=>by kernel_rfl))
theorem jq.p2:PcA jq.G Tryd.f53 2:=
  jC (s:=jq.c6r) (by kernel_rfl) (by kernel_rfl) (jH (sh:=jq.c6s) (fun ρ x_ k_=>(jf fun _=>(jf fun _=>(jf fun _=>ja)))) (fun ρ x_ t k=>(by kernel_rfl)) (fun x_=>by kernel_rfl))
theorem jq.ok:MOk Tryd.prog 53 jq.mc:=kW (G:=jq.G) Jm mixed Tryd.func53 ⟨Je,jW,jK,jV⟩ (m:=3) (by kernel_rfl) ⟨⟨⟨trivial,jq.p0⟩,jq.p1⟩,jq.p2⟩ (by kernel_rfl) jq.eq
end
end W
end
