/- Lifted functions, part 1: each with its contract. -/
import Derived.Test.YtcndclcpmelgoaaDoorCaO
import Derived.Test.YtcndclcpmelgoaaDoorProg
set_option linter.all false
section
set_option maxHeartbeats 4000000
set_option maxRecDepth 100000
set_option linter.unusedVariables false
namespace W
open Go Go.Ql Go.Proofs
noncomputable section
abbrev ct0:SD:=.one (.val (.sl (.int .i64)))
abbrev ct1:SD:=.one (.own 3 0)
abbrev ct2:SD:=.one (.val (.int .i64))
abbrev ct3:SO:=.arr 0 false 3 (.int .i64)
abbrev YO:=Int×(Int×((List Int)×(Int×(Int×(List Int)))))
abbrev YD:=(Bool)×(List Int)
abbrev YP:=Int×(Int×(Bool))
abbrev YN:=(List YD)×Int
def Jm.c100003 {ρ:Type} (l:List (Int)) (i:Int) (out:List (Int)) (k_:((Int)×(List Int))⊕((Int)×(List Int))→Option ρ):Option ρ:=
  br (decide (i < (↑(List.length l):Int)))
   (bnd (idx l i) fun y=>
    bnd (okIf (decide ((List.length out+(1:Nat))*(8:Nat)≤(140737488355328:Nat)) && decide (List.length out+(1:Nat)≤(140737488355328:Nat)))) fun y_1=>
    k_ (.inl ((IntKind.i64.wrap (i+(1:Int))),(out++[y]))))
   (k_ (.inr (i,out)))
def Jm.c100003s:Shape:=⟨[(0,ct0),(2,ct0),(3,ct1),(4,ct2)],[(3,ct3)]⟩
def Jm.c100003x0:Shape:=Jm.c100003s
def Jm.c100003r:Ck:=Ck.ofLoop (S:=(Int)×(List Int)) (T:=(Int)×(List Int)) Jm.c100003s (fun x_=>(x_.2.2.1,x_.2.2.2.1)) (fun ρ x_ s_ k_=>Jm.c100003 x_.1 s_.1 s_.2 k_) (fun ρ x_ r_ k_=>k_ 2 (Shape.inj Jm.c100003x0 (x_.1,x_.2.1,r_.1,r_.2,())))
def Jm (l:List (Int)):Option (List Int):=
  bnd (iter (fun s↦W.Jm.c100003 l s.1 s.2 some) ((0:Int),[])) fun y=>
  some y.2
def Jm.ce:Go.Ql.Callee:=⟨[(.sl (.int .i64))],[(.sl (.int .i64))],fun x_=>Jm x_⟩
def Jm.G:Env:=⟨19,tab,[],[0,2,3,4,8],[3],[],[(100003,Jm.c100003r)],[],Jf,[]⟩
theorem Jm.eq (x_:dens Jm.ce.params):den Jm.G Tryd.f67 Jm.ce.params Jm.ce.res x_=Jm.ce.F x_:=by kernel_rfl
theorem Jm.p0:PcA Jm.G Tryd.f67 0:=
  JA (s:=Jm.c100003r) (by kernel_rfl) (by kernel_rfl) (Jt (sh:=Jm.c100003s) (I:=fun x_ s_=>(x_.1,x_.2.1,s_.1,s_.2,())) (fun x_=>rfl) (fun ρ x_ s_ k_=>(jw (je fun _=>(je fun _=>jc)) jc)) (fun ρ x_ t k=>(by kernel_rfl)) (fun x_ s=>by kernel_rfl))
theorem Jm.ok:CalleeOk Tryd.prog 67 Jm.ce:=fn_ok (G:=Jm.G) Js mixed Tryd.func67 ⟨Je,jU,jO,jT⟩ (m:=1) (by kernel_rfl) ⟨trivial,Jm.p0⟩ (by kernel_rfl) Jm.eq
def JX (o:(Int)×((Int)×((List Int)×((Int)×((Int)×(List Int)))))):Option ((Int)×((Int)×((List Int)×((Int)×((Int)×(List Int)))))):=
  bnd (W.Jm o.2.2.1) fun y=>
  bnd (W.Jm o.2.2.2.2.2) fun y_1=>
  some (o.1,o.2.1,y,o.2.2.2.1,o.2.2.2.2.1,y_1)
def JX.ce:Go.Ql.Callee:=⟨[(.st (.pair (.int .i64) (.pair (.int .i64) (.pair (.sl (.int .i64)) (.pair (.int .i64) (.pair (.int .i64) (.sl (.int .i64))))))))],[(.st (.pair (.int .i64) (.pair (.int .i64) (.pair (.sl (.int .i64)) (.pair (.int .i64) (.pair (.int .i64) (.sl (.int .i64))))))))],fun x_=>JX x_⟩
def JX.G:Env:=⟨12,tab,[(67,Jm.ce)],[0,1,2],[],[],[],[],Jf,[]⟩
theorem JX.eq (x_:dens JX.ce.params):den JX.G Tryd.f37 JX.ce.params JX.ce.res x_=JX.ce.F x_:=by kernel_rfl
theorem JX.ok:CalleeOk Tryd.prog 37 JX.ce:=fn_ok (G:=JX.G) Js mixed Tryd.func37 ⟨(Ja Jm.ok Je),jU,jO,jT⟩ (m:=0) (by kernel_rfl) trivial (by kernel_rfl) JX.eq
abbrev ct4:SD:=.one (.val (.st (.pair (.int .i64) (.pair (.int .i64) (.sl (.st (.pair (.int .i64) (.pair (.int .i64) (.pair (.sl (.int .i64)) (.pair (.int .i64) (.pair (.int .i64) (.sl (.int .i64)))))))))))))
abbrev ct5:SD:=.one (.ref 1 0)
abbrev ct6:SD:=.one (.ref 2 0)
abbrev ct7:SD:=.one (.ref 3 0)
abbrev ct8:SO:=.box [.val (.int .i64),.val (.int .i64),.val (.sl (.st (.pair (.int .i64) (.pair (.int .i64) (.pair (.sl (.int .i64)) (.pair (.int .i64) (.pair (.int .i64) (.sl (.int .i64)))))))))]
abbrev ct9:SO:=.box [.val (.int .i64),.val (.int .i64),.own 3003 0]
abbrev ct10:SO:=.arr 0 false 57 (.st (.pair (.int .i64) (.pair (.int .i64) (.pair (.sl (.int .i64)) (.pair (.int .i64) (.pair (.int .i64) (.sl (.int .i64))))))))
def jH.c5 {ρ:Type} (i:Int) (c2:List ((Int)×((Int)×((List Int)×((Int)×((Int)×(List Int))))))) (t3003:List ((Int)×((Int)×((List Int)×((Int)×((Int)×(List Int))))))) (k_:List ((Int)×((Int)×((List Int)×((Int)×((Int)×(List Int))))))→Option ρ):Option ρ:=
  bnd (idx c2 i) fun y=>
  bnd (W.JX y) fun y_1=>
  bnd (okIf (decide ((List.length t3003+(1:Nat))*(80:Nat)≤(140737488355328:Nat)) && decide (List.length t3003+(1:Nat)≤(140737488355328:Nat)))) fun y_2=>
  k_ (t3003++[y_1])
def jH.c5s:Shape:=⟨[(0,ct4),(1,ct5),(2,ct6),(3,ct7),(4,ct2)],[(1,ct8),(2,ct8),(3,ct9),(3003,ct10)]⟩
def jH.c5x0:Shape:=jH.c5s
def jH.c5r:Ck:=Ck.of (T:=List ((Int)×((Int)×((List Int)×((Int)×((Int)×(List Int))))))) jH.c5s (fun ρ x_ k_=>jH.c5 x_.2.1 x_.2.2.2.2.1 x_.2.2.2.2.2.2.2.2.2.2.1 k_) (fun ρ x_ r_ k_=>k_ 0 (Shape.inj jH.c5x0 (x_.1,x_.2.1,x_.2.2.1,x_.2.2.2.1,x_.2.2.2.2.1,x_.2.2.2.2.2.1,x_.2.2.2.2.2.2.1,x_.2.2.2.2.2.2.2.1,x_.2.2.2.2.2.2.2.2.1,x_.2.2.2.2.2.2.2.2.2.1,r_,())))
def jH.c100003 {ρ:Type} (i:Int) (c2:List ((Int)×((Int)×((List Int)×((Int)×((Int)×(List Int))))))) (t3003:List ((Int)×((Int)×((List Int)×((Int)×((Int)×(List Int))))))) (k_:((Int)×(List ((Int)×((Int)×((List Int)×((Int)×((Int)×(List Int))))))))⊕((Int)×(List ((Int)×((Int)×((List Int)×((Int)×((Int)×(List Int))))))))→Option ρ):Option ρ:=
  br (decide (i < (↑(List.length c2):Int)))
   (bnd (W.jH.c5 i c2 t3003 some) fun y=>
    k_ (.inl ((IntKind.i64.wrap (i+(1:Int))),y)))
   (k_ (.inr (i,t3003)))
def jH.c100003s:Shape:=jH.c5s
def jH.c100003x0:Shape:=jH.c5s
def jH.c100003r:Ck:=Ck.ofLoop (S:=(Int)×(List ((Int)×((Int)×((List Int)×((Int)×((Int)×(List Int)))))))) (T:=(Int)×(List ((Int)×((Int)×((List Int)×((Int)×((Int)×(List Int)))))))) jH.c100003s (fun x_=>(x_.2.1,x_.2.2.2.2.2.2.2.2.2.2.1)) (fun ρ x_ s_ k_=>jH.c100003 s_.1 x_.2.2.2.2.1 s_.2 k_) (fun ρ x_ r_ k_=>k_ 2 (Shape.inj jH.c100003x0 (x_.1,r_.1,x_.2.2.1,x_.2.2.2.1,x_.2.2.2.2.1,x_.2.2.2.2.2.1,x_.2.2.2.2.2.2.1,x_.2.2.2.2.2.2.2.1,x_.2.2.2.2.2.2.2.2.1,x_.2.2.2.2.2.2.2.2.2.1,r_.2,())))
def jH (c:(Int)×((Int)×(List ((Int)×((Int)×((List Int)×((Int)×((Int)×(List Int))))))))):Option ((Int)×((Int)×(List ((Int)×((Int)×((List Int)×((Int)×((Int)×(List Int))))))))):=
  bnd (iter (fun s↦W.jH.c100003 s.1 c.2.2 s.2 some) ((0:Int),[])) fun y=>
  some (c.1,c.2.1,y.2)
def jH.ce:Go.Ql.Callee:=⟨[(.st (.pair (.int .i64) (.pair (.int .i64) (.sl (.st (.pair (.int .i64) (.pair (.int .i64) (.pair (.sl (.int .i64)) (.pair (.int .i64) (.pair (.int .i64) (.sl (.int .i64))))))))))))],[(.st (.pair (.int .i64) (.pair (.int .i64) (.sl (.st (.pair (.int .i64) (.pair (.int .i64) (.pair (.sl (.int .i64)) (.pair (.int .i64) (.pair (.int .i64) (.sl (.int .i64))))))))))))],fun x_=>jH x_⟩
def jH.G:Env:=⟨29,tab,[(37,JX.ce)],[0,1,2,3,4,14],[1,3,9,3001,3003],[(5,[⟨[],[],[19,20,21,22,23,24,25],[25]⟩,⟨[0],[],[19,20,21,22,23,24,25],[25]⟩,⟨[],[],[17,18,21],[]⟩,⟨[2],[],[17,18,21],[]⟩,⟨[],[],[17,18,19,20],[]⟩,⟨[3,2,4],[],[17,18],[]⟩,⟨[5,3,2,4],[],[17,18],[]⟩,⟨[6,5,3,2,4],[],[17,18],[]⟩,⟨[7,6,5,3,2,4],[25],[17,18],[]⟩,⟨[1,0,8,7,6,5,3,2,4],[3003],[],[]⟩,⟨[0,1,2,3,4,5,6,7,8,9],[],[],[]⟩,⟨[10,0,1,2,3,4,5,6,7,8,9],[3],[],[]⟩])],[(100003,jH.c100003r),(5,jH.c5r)],[],Jf,[]⟩
theorem jH.eq (x_:dens jH.ce.params):den jH.G Tryd.f11 jH.ce.params jH.ce.res x_=jH.ce.F x_:=by kernel_rfl
theorem jH.p0:PcA jH.G Tryd.f11 0:=
  JA (s:=jH.c100003r) (by kernel_rfl) (by kernel_rfl) (Jt (sh:=jH.c100003s) (I:=fun x_ s_=>(x_.1,s_.1,x_.2.2.1,x_.2.2.2.1,x_.2.2.2.2.1,x_.2.2.2.2.2.1,x_.2.2.2.2.2.2.1,x_.2.2.2.2.2.2.2.1,x_.2.2.2.2.2.2.2.2.1,x_.2.2.2.2.2.2.2.2.2.1,s_.2,())) (fun x_=>rfl) (fun ρ x_ s_ k_=>(jw (je fun _=>jc) jc)) (fun ρ x_ t k=>(by kernel_rfl)) (fun x_ s=>by kernel_rfl))
theorem jH.p1:PcA jH.G Tryd.f11 1:=
  jG (s:=jH.c5r) (by kernel_rfl) (by kernel_rfl) (jF (sh:=jH.c5s) (fun ρ x_ k_=>(je fun _=>(je fun _=>(je fun _=>jc)))) (fun ρ x_ t k=>(by kernel_rfl)) (fun x_=>by kernel_rfl))
theorem jH.ok:CalleeOk Tryd.prog 11 jH.ce:=fn_ok (G:=jH.G) Js mixed Tryd.func11 ⟨(Ja JX.ok Je),jU,jO,jT⟩ (m:=2) (by kernel_rfl) ⟨⟨trivial,jH.p0⟩,jH.p1⟩ (by kernel_rfl) jH.eq
def Jr (code:Int) (t1:Int):Option ((Int)×(Int)):=
  some (code,t1)
def Jr.ce:Go.Ql.Callee:=⟨[(.int .i64),(.int .i64)],[(.st (.pair (.int .i64) (.int .i64)))],fun x_=>Jr x_.1 x_.2⟩
def Jr.G:Env:=⟨8,tab,[],[0,1,4],[],[],[],[],Jf,[]⟩
theorem Jr.eq (x_:dens Jr.ce.params):den Jr.G Tryd.f40 Jr.ce.params Jr.ce.res x_=Jr.ce.F x_:=by kernel_rfl
theorem Jr.ok:CalleeOk Tryd.prog 40 Jr.ce:=fn_ok (G:=Jr.G) Js mixed Tryd.func40 ⟨Je,jU,jO,jT⟩ (m:=0) (by kernel_rfl) trivial (by kernel_rfl) Jr.eq
abbrev ct11:SD:=.one (.val .bool)
def Jn.c1 {ρ:Type} (kind:Int) (k_:Bool→Option ρ):Option ρ:=
  br (kind == (1:Int))
   (k_ true)
   (k_ (kind == (4:Int)))
def Jn.c1s:Shape:=⟨[(0,ct2),(2,ct11)],[]⟩
def Jn.c1x0:Shape:=Jn.c1s
def Jn.c1r:Ck:=Ck.of (T:=Bool) Jn.c1s (fun ρ x_ k_=>Jn.c1 x_.1 k_) (fun ρ x_ r_ k_=>k_ 0 (Shape.inj Jn.c1x0 (x_.1,r_,())))
def Jn (kind:Int):Option Bool:=
  bnd (W.Jn.c1 kind some) fun y=>
  some y
def Jn.ce:Go.Ql.Callee:=⟨[(.int .i64)],[.bool],fun x_=>Jn x_⟩
def Jn.G:Env:=⟨9,tab,[],[0,2],[],[],[(1,Jn.c1r)],[],Jf,[]⟩
theorem Jn.eq (x_:dens Jn.ce.params):den Jn.G Tryd.f68 Jn.ce.params Jn.ce.res x_=Jn.ce.F x_:=by kernel_rfl
theorem Jn.p0:PcA Jn.G Tryd.f68 0:=
  jG (s:=Jn.c1r) (by kernel_rfl) (by kernel_rfl) (jF (sh:=Jn.c1s) (fun ρ x_ k_=>(jw jc jc)) (fun ρ x_ t k=>(by kernel_rfl)) (fun x_=>by kernel_rfl))
theorem Jn.ok:CalleeOk Tryd.prog 68 Jn.ce:=fn_ok (G:=Jn.G) Js mixed Tryd.func68 ⟨Je,jU,jO,jT⟩ (m:=1) (by kernel_rfl) ⟨trivial,Jn.p0⟩ (by kernel_rfl) Jn.eq
def Jx.c1 {ρ:Type} (kind:Int) (k_:Bool→Option ρ):Option ρ:=
  br (kind == (2:Int))
   (k_ true)
   (br (kind == (3:Int))
     (k_ true)
     (k_ (kind == (4:Int))))
def Jx.c1s:Shape:=⟨[(0,ct2),(2,ct11)],[]⟩
def Jx.c1x0:Shape:=Jx.c1s
def Jx.c1r:Ck:=Ck.of (T:=Bool) Jx.c1s (fun ρ x_ k_=>Jx.c1 x_.1 k_) (fun ρ x_ r_ k_=>k_ 0 (Shape.inj Jx.c1x0 (x_.1,r_,())))
def Jx (kind:Int):Option Bool:=
  bnd (W.Jx.c1 kind some) fun y=>
  some y
def Jx.ce:Go.Ql.Callee:=⟨[(.int .i64)],[.bool],fun x_=>Jx x_⟩
def Jx.G:Env:=⟨13,tab,[],[0,2],[],[],[(1,Jx.c1r)],[],Jf,[]⟩
theorem Jx.eq (x_:dens Jx.ce.params):den Jx.G Tryd.f69 Jx.ce.params Jx.ce.res x_=Jx.ce.F x_:=by kernel_rfl
theorem Jx.p0:PcA Jx.G Tryd.f69 0:=
  jG (s:=Jx.c1r) (by kernel_rfl) (by kernel_rfl) (jF (sh:=Jx.c1s) (fun ρ x_ k_=>(jw jc (jw jc jc))) (fun ρ x_ t k=>(by kernel_rfl)) (fun x_=>by kernel_rfl))
theorem Jx.ok:CalleeOk Tryd.prog 69 Jx.ce:=fn_ok (G:=Jx.G) Js mixed Tryd.func69 ⟨Je,jU,jO,jT⟩ (m:=1) (by kernel_rfl) ⟨trivial,Jx.p0⟩ (by kernel_rfl) Jx.eq
abbrev ct12:SD:=.one (.val (.st (.pair (.int .i64) (.pair (.int .i64) (.pair (.sl (.int .i64)) (.pair (.int .i64) (.pair (.int .i64) (.sl (.int .i64)))))))))
abbrev ct13:SD:=.one (.ref 1000100 0)
abbrev ct14:SO:=.box [.val (.int .i64),.val (.int .i64),.val (.sl (.int .i64)),.val (.int .i64),.val (.int .i64),.val (.sl (.int .i64))]
abbrev ct15:SD:=.one (.aptr 5 0)
abbrev ct16:SO:=.arr 0 false 96 .bool
def jl.pre:Shape:=⟨[(0,ct12),(1,ct13)],[(1000100,ct8)]⟩
def jl.post:Shape:=⟨[(0,ct2)],[(1000100,ct8)]⟩
def jl.c1 {ρ:Type} (o0:Int) (k_:Bool→Option ρ):Option ρ:=
  br (decide (o0 < (1:Int)))
   (k_ true)
   (k_ (decide (o0 > (6:Int))))
def jl.c1s:Shape:=⟨[(0,ct12),(1,ct13),(2,ct6),(4,ct2)],[(2,ct14),(1000100,ct8)]⟩
def jl.c1x0:Shape:=⟨[(0,ct12),(1,ct13),(2,ct6),(4,ct2),(17,ct11)],[(2,ct14),(1000100,ct8)]⟩
def jl.c1r:Ck:=Ck.of (T:=Bool) jl.c1s (fun ρ x_ k_=>jl.c1 x_.2.2.1 k_) (fun ρ x_ r_ k_=>k_ 0 (Shape.inj jl.c1x0 (x_.1,x_.2.1,r_,x_.2.2)))
def jl.c3 {ρ:Type} (o0:Int) (o1:Int) (k_:Bool→Option ρ):Option ρ:=
  br (decide (o1 < (0:Int)))
   (k_ true)
   (br (decide (o1 > (15:Int)))
     (k_ true)
     (bnd (W.Jn o0) fun y=>
      br (!y)
       (k_ (o1 != (0:Int)))
       (k_ false)))
def jl.c3s:Shape:=jl.c1s
def jl.c3x0:Shape:=⟨[(0,ct12),(1,ct13),(2,ct6),(4,ct2),(36,ct11)],[(2,ct14),(1000100,ct8)]⟩
def jl.c3r:Ck:=Ck.of (T:=Bool) jl.c3s (fun ρ x_ k_=>jl.c3 x_.2.2.1 x_.2.2.2.1 k_) (fun ρ x_ r_ k_=>k_ 0 (Shape.inj jl.c3x0 (x_.1,x_.2.1,r_,x_.2.2)))
def jl.c5 {ρ:Type} (o0:Int) (o3:Int) (t10001000:Int) (k_:Bool→Option ρ):Option ρ:=
  br (decide (o3 < (0:Int)))
   (k_ true)
   (br (decide (o3≥t10001000))
     (k_ true)
     (br (o0 == (1:Int))
       (k_ (o3 != (0:Int)))
       (k_ false)))
def jl.c5s:Shape:=jl.c1s
def jl.c5x0:Shape:=⟨[(0,ct12),(1,ct13),(2,ct6),(4,ct2),(58,ct11)],[(2,ct14),(1000100,ct8)]⟩
def jl.c5r:Ck:=Ck.of (T:=Bool) jl.c5s (fun ρ x_ k_=>jl.c5 x_.2.2.1 x_.2.2.2.2.2.1 x_.2.2.2.2.2.2.2.2.1 k_) (fun ρ x_ r_ k_=>k_ 0 (Shape.inj jl.c5x0 (x_.1,x_.2.1,r_,x_.2.2)))
def jl.c7 {ρ:Type} (o0:Int) (o2:List (Int)) (k_:Bool→Option ρ):Option ρ:=
  br (decide ((↑(List.length o2):Int) > (0:Int)))
   (bnd (W.Jx o0) fun y=>
    k_ (!y))
   (k_ false)
def jl.c7s:Shape:=jl.c1s
def jl.c7x0:Shape:=⟨[(0,ct12),(1,ct13),(2,ct6),(4,ct2),(68,ct11)],[(2,ct14),(1000100,ct8)]⟩
def jl.c7r:Ck:=Ck.of (T:=Bool) jl.c7s (fun ρ x_ k_=>jl.c7 x_.2.2.1 x_.2.2.2.2.1 k_) (fun ρ x_ r_ k_=>k_ 0 (Shape.inj jl.c7x0 (x_.1,x_.2.1,r_,x_.2.2)))
def jl.c14 {ρ:Type} (q:Int) (t10001000:Int) (k_:Bool→Option ρ):Option ρ:=
  br (decide (q < (0:Int)))
   (k_ true)
   (k_ (decide (q≥t10001000)))
def jl.c14s:Shape:=⟨[(0,ct12),(1,ct13),(2,ct6),(4,ct2),(5,ct15),(7,ct2),(74,ct0),(75,ct2),(76,ct2)],[(2,ct14),(5,ct16),(1000100,ct8)]⟩
def jl.c14x0:Shape:=⟨[(0,ct12),(1,ct13),(2,ct6),(4,ct2),(5,ct15),(7,ct2),(74,ct0),(75,ct2),(76,ct2),(80,ct11)],[(2,ct14),(5,ct16),(1000100,ct8)]⟩
def jl.c14r:Ck:=Ck.of (T:=Bool) jl.c14s (fun ρ x_ k_=>jl.c14 x_.2.2.1 x_.2.2.2.2.2.2.2.2.2.2.2.2.2.1 k_) (fun ρ x_ r_ k_=>k_ 0 (Shape.inj jl.c14x0 (x_.1,x_.2.1,x_.2.2.1,x_.2.2.2.1,x_.2.2.2.2.1,x_.2.2.2.2.2.1,r_,x_.2.2.2.2.2.2)))
def jl.c100012 {ρ:Type} (t74:List (Int)) (t75:Int) (t76:Int) (seen:List Bool) (t10001000:Int) (k_:((Int)×(List Bool))⊕(((Int)×(Int)×(List Bool))⊕((Int)×(List Bool)))→Option ρ):Option ρ:=
  br (decide (t76 < t75))
   (bnd (idx t74 t76) fun y=>
    bnd (W.jl.c14 y t10001000 some) fun y_1=>
    br y_1
     (k_ (.inr (.inl ((10:Int),t76,seen))))
     (bnd (okIf (decide ((0:Ty.den (Ty.int IntKind.i64))≤y) && decide (y < (↑(12:Nat):Int)))) fun y_2=>
      bnd (inR (List.length seen) y) fun y_3=>
      bnd (idx seen y) fun y_4=>
      br y_4
       (k_ (.inr (.inl ((12:Int),t76,seen))))
       (bnd (okIf (decide ((0:Ty.den (Ty.int IntKind.i64))≤y) && decide (y < (↑(12:Nat):Int)))) fun y_5=>
        bnd (inR (List.length seen) y) fun y_6=>
        bnd (idx seen y) fun y_7=>
        k_ (.inl ((IntKind.i64.wrap (t76+(1:Int))),(List.set seen (Int.toNat y) true))))))
   (k_ (.inr (.inr (t76,seen))))
def jl.c100012s:Shape:=⟨[(0,ct12),(1,ct13),(2,ct6),(4,ct2),(5,ct15),(74,ct0),(75,ct2),(76,ct2)],[(2,ct14),(5,ct16),(1000100,ct8)]⟩
def jl.c100012x0:Shape:=jl.c100012s
def jl.c100012x1:Shape:=jl.c100012s
def jl.c100012r:Ck:=Ck.ofLoop (S:=(Int)×(List Bool)) (T:=((Int)×(Int)×(List Bool))⊕((Int)×(List Bool))) jl.c100012s (fun x_=>(x_.2.2.2.2.1,x_.2.2.2.2.2.2.2.2.2.2.2.1)) (fun ρ x_ s_ k_=>jl.c100012 x_.2.2.1 x_.2.2.2.1 s_.1 s_.2 x_.2.2.2.2.2.2.2.2.2.2.2.2.1 k_) (fun ρ x_ r_ k_=>sel r_ (fun r_=>k_ 1 (Shape.inj jl.c100012x0 (x_.1,r_.1,x_.2.2.1,x_.2.2.2.1,r_.2.1,x_.2.2.2.2.2.1,x_.2.2.2.2.2.2.1,x_.2.2.2.2.2.2.2.1,x_.2.2.2.2.2.2.2.2.1,x_.2.2.2.2.2.2.2.2.2.1,x_.2.2.2.2.2.2.2.2.2.2.1,r_.2.2,x_.2.2.2.2.2.2.2.2.2.2.2.2))) (fun r_=>k_ 2 (Shape.inj jl.c100012x1 (x_.1,x_.2.1,x_.2.2.1,x_.2.2.2.1,r_.1,x_.2.2.2.2.2.1,x_.2.2.2.2.2.2.1,x_.2.2.2.2.2.2.2.1,x_.2.2.2.2.2.2.2.2.1,x_.2.2.2.2.2.2.2.2.2.1,x_.2.2.2.2.2.2.2.2.2.2.1,r_.2,x_.2.2.2.2.2.2.2.2.2.2.2.2))))
def jl.c20 {ρ:Type} (o0:Int) (o4:Int) (t10001001:Int) (k_:Bool→Option ρ):Option ρ:=
  br (o0 == (5:Int))
   (br (decide (o4 < (0:Int)))
     (k_ true)
     (br (decide (o4≥t10001001))
       (k_ true)
       (br (o0 != (5:Int))
         (k_ (o4 != (0:Int)))
         (k_ false))))
   (br (o0 != (5:Int))
     (k_ (o4 != (0:Int)))
     (k_ false))
def jl.c20s:Shape:=jl.c100012s
def jl.c20x0:Shape:=⟨[(0,ct12),(1,ct13),(2,ct6),(4,ct2),(5,ct15),(74,ct0),(75,ct2),(76,ct2),(124,ct11)],[(2,ct14),(5,ct16),(1000100,ct8)]⟩
def jl.c20r:Ck:=Ck.of (T:=Bool) jl.c20s (fun ρ x_ k_=>jl.c20 x_.2.2.2.2.2.1 x_.2.2.2.2.2.2.2.2.2.1 x_.2.2.2.2.2.2.2.2.2.2.2.2.2.1 k_) (fun ρ x_ r_ k_=>k_ 0 (Shape.inj jl.c20x0 (x_.1,x_.2.1,x_.2.2.1,x_.2.2.2.1,x_.2.2.2.2.1,r_,x_.2.2.2.2.2)))
def jl.c27 {ρ:Type} (v:Int) (t10001001:Int) (k_:Bool→Option ρ):Option ρ:=
  br (v == (0:Int))
   (k_ true)
   (br (decide (v > t10001001))
     (k_ true)
     (k_ (decide (v < IntKind.i64.wrap ((0:Int) - t10001001)))))
def jl.c27s:Shape:=⟨[(0,ct12),(1,ct13),(2,ct6),(4,ct2),(5,ct15),(9,ct2),(74,ct0),(75,ct2),(76,ct2),(130,ct0),(131,ct2),(132,ct2)],[(2,ct14),(5,ct16),(1000100,ct8)]⟩
def jl.c27x0:Shape:=⟨[(0,ct12),(1,ct13),(2,ct6),(4,ct2),(5,ct15),(9,ct2),(74,ct0),(75,ct2),(76,ct2),(130,ct0),(131,ct2),(132,ct2),(154,ct11)],[(2,ct14),(5,ct16),(1000100,ct8)]⟩
def jl.c27r:Ck:=Ck.of (T:=Bool) jl.c27s (fun ρ x_ k_=>jl.c27 x_.2.2.1 x_.2.2.2.2.2.2.2.2.2.2.2.2.2.2.2.2.2.1 k_) (fun ρ x_ r_ k_=>k_ 0 (Shape.inj jl.c27x0 (x_.1,x_.2.1,x_.2.2.1,x_.2.2.2.1,x_.2.2.2.2.1,x_.2.2.2.2.2.1,x_.2.2.2.2.2.2.1,x_.2.2.2.2.2.2.2.1,x_.2.2.2.2.2.2.2.2.1,r_,x_.2.2.2.2.2.2.2.2.2)))
def jl.c100025 {ρ:Type} (t130:List (Int)) (t131:Int) (t132:Int) (t10001001:Int) (k_:(Int)⊕((Int)⊕(Int))→Option ρ):Option ρ:=
  br (decide (t132 < t131))
   (bnd (idx t130 t132) fun y=>
    bnd (W.jl.c27 y t10001001 some) fun y_1=>
    br y_1
     (k_ (.inr (.inl t132)))
     (k_ (.inl (IntKind.i64.wrap (t132+(1:Int))))))
   (k_ (.inr (.inr t132)))
def jl.c100025s:Shape:=⟨[(0,ct12),(1,ct13),(2,ct6),(4,ct2),(5,ct15),(74,ct0),(75,ct2),(76,ct2),(130,ct0),(131,ct2),(132,ct2)],[(2,ct14),(5,ct16),(1000100,ct8)]⟩
def jl.c100025x0:Shape:=jl.c100025s
def jl.c100025x1:Shape:=jl.c100025s
def jl.c100025r:Ck:=Ck.ofLoop (S:=Int) (T:=(Int)⊕(Int)) jl.c100025s (fun x_=>x_.2.2.2.2.2.2.2.1) (fun ρ x_ s_ k_=>jl.c100025 x_.2.2.2.2.2.1 x_.2.2.2.2.2.2.1 s_ x_.2.2.2.2.2.2.2.2.2.2.2.2.2.2.2.2.1 k_) (fun ρ x_ r_ k_=>sel r_ (fun r_=>k_ 1 (Shape.inj jl.c100025x0 (x_.1,(14:Int),x_.2.2.1,x_.2.2.2.1,x_.2.2.2.2.1,x_.2.2.2.2.2.1,x_.2.2.2.2.2.2.1,r_,x_.2.2.2.2.2.2.2.2))) (fun r_=>k_ 5 (Shape.inj jl.c100025x1 (x_.1,x_.2.1,x_.2.2.1,x_.2.2.2.1,x_.2.2.2.2.1,x_.2.2.2.2.2.1,x_.2.2.2.2.2.2.1,r_,x_.2.2.2.2.2.2.2.2))))
def jl (o:(Int)×((Int)×((List Int)×((Int)×((Int)×(List Int)))))) (t10001000:Int) (t10001001:Int) (t10001002:List ((Int)×((Int)×((List Int)×((Int)×((Int)×(List Int))))))):Option ((Int)×(Int)×(Int)×(List ((Int)×((Int)×((List Int)×((Int)×((Int)×(List Int)))))))×Unit):=
  bnd (W.jl.c1 o.1 some) fun y=>
  br y
   (some ((8:Int),t10001000,t10001001,t10001002,()))
   (bnd (W.jl.c3 o.1 o.2.1 some) fun y_1=>
    br y_1
     (some ((9:Int),t10001000,t10001001,t10001002,()))
     (bnd (W.jl.c5 o.1 o.2.2.2.1 t10001000 some) fun y_2=>
      br y_2
       (some ((10:Int),t10001000,t10001001,t10001002,()))
       (bnd (W.jl.c7 o.1 o.2.2.1 some) fun y_3=>
        br y_3
         (some ((11:Int),t10001000,t10001001,t10001002,()))
         (bnd (okIf (decide ((0:Ty.den (Ty.int IntKind.i64))≤o.2.2.2.1) && decide (o.2.2.2.1 < (↑(12:Nat):Int)))) fun y_4=>
          bnd (inR (List.length (List.replicate (12:Nat) false)) o.2.2.2.1) fun y_5=>
          bnd (idx (List.replicate (12:Nat) false) o.2.2.2.1) fun y_6=>
          bnd (iter (fun s↦W.jl.c100012 o.2.2.1 (↑(List.length o.2.2.1):Int) s.1 s.2 t10001000 some) ((0:Int),List.set (List.replicate (12:Nat) false) (Int.toNat o.2.2.2.1) true)) fun y_7=>
          sel y_7
           (fun u=>some (u.1,t10001000,t10001001,t10001002,()))
           (fun v=>bnd (W.jl.c20 o.1 o.2.2.2.2.1 t10001001 some) fun y_8=>
            br y_8
             (some ((13:Int),t10001000,t10001001,t10001002,()))
             (br (decide ((↑(List.length o.2.2.2.2.2):Int) > (24:Int)))
               (some ((14:Int),t10001000,t10001001,t10001002,()))
               (bnd (iter (fun s↦W.jl.c100025 o.2.2.2.2.2 (↑(List.length o.2.2.2.2.2):Int) s t10001001 some) (0:Int)) fun y_9=>
                sel y_9
                 (fun u_1=>some ((14:Int),t10001000,t10001001,t10001002,()))
                 (fun v_1=>some ((0:Int),t10001000,t10001001,t10001002,())))))))))
def jl.mc:MCallee:=⟨41,jl.pre,jl.post,fun x_=>jl x_.1 x_.2.1 x_.2.2.1 x_.2.2.2.1⟩
def jl.G:Env:=⟨156,tab,[(68,Jn.ce),(69,Jx.ce)],[0,1,2,4,5,7,9,17,36,58,68,74,75,76,77,80,91,124,128,130,131,132,133,154],[5,69],[(20,[⟨[],[],[],[]⟩,⟨[0],[],[],[]⟩,⟨[1,0],[],[],[]⟩,⟨[2,1,0],[],[],[]⟩,⟨[3,2,1,0],[],[],[]⟩,⟨[4,3,2,1,0],[],[],[]⟩,⟨[5,4,3,2,1,0],[],[],[]⟩,⟨[6,5,4,3,2,1,0],[],[],[]⟩,⟨[7,6,5,4,3,2,1,0],[],[108,109,110,111],[]⟩,⟨[8,7,6,5,4,3,2,1,0],[],[108,109,110,111],[]⟩,⟨[7,6,5,4,3,2,1,0],[],[106,107],[]⟩,⟨[10,7,6,5,4,3,2,1,0],[],[106,107],[]⟩,⟨[11,10,7,6,5,4,3,2,1,0],[],[106,107],[]⟩,⟨[12,11,10,7,6,5,4,3,2,1,0],[],[106,107],[]⟩,⟨[9,8,7,6,5,4,3,2,1,0,13,12,11,10],[],[],[]⟩,⟨[7,6,5,4,3,2,1,0,14,9,8,13,12,11,10],[],[],[]⟩,⟨[3,2,1,0,15,7,6,5,4,14,9,8,13,12,11,10],[],[],[]⟩,⟨[16,3,2,1,0,15,7,6,5,4,14,9,8,13,12,11,10],[],[],[]⟩,⟨[17,16,3,2,1,0,15,7,6,5,4,14,9,8,13,12,11,10],[],[],[]⟩,⟨[18,17,16,3,2,1,0,15,7,6,5,4,14,9,8,13,12,11,10],[],[],[]⟩,⟨[19,18,17,16,3,2,1,0,15,7,6,5,4,14,9,8,13,12,11,10],[],[],[]⟩,⟨[20,19,18,17,16,3,2,1,0,15,7,6,5,4,14,9,8,13,12,11,10],[],[],[]⟩,⟨[21,20,19,18,17,16,3,2,1,0,15,7,6,5,4,14,9,8,13,12,11,10],[],[],[]⟩,⟨[22,21,20,19,18,17,16,3,2,1,0,15,7,6,5,4,14,9,8,13,12,11,10],[],[],[]⟩,⟨[23,22,21,20,19,18,17,16,3,2,1,0,15,7,6,5,4,14,9,8,13,12,11,10],[],[],[]⟩,⟨[21,20,19,18,17,16,3,2,1,0,15,7,6,5,4,14,9,8,13,12,11,10,24,23,22],[],[],[]⟩,⟨[17,16,3,2,1,0,15,7,6,5,4,14,9,8,13,12,11,10,25,21,20,19,18,24,23,22],[],[],[]⟩]),
  (5,[⟨[],[],[],[]⟩,⟨[0],[],[],[]⟩,⟨[1,0],[],[],[]⟩,⟨[2,1,0],[],[],[]⟩,⟨[3,2,1,0],[],[43,44,45,46],[]⟩,⟨[4,3,2,1,0],[],[43,44,45,46],[]⟩,⟨[3,2,1,0],[],[41,42],[]⟩,⟨[6,3,2,1,0],[],[41,42],[]⟩,⟨[7,6,3,2,1,0],[],[41,42],[]⟩,⟨[8,7,6,3,2,1,0],[],[41,42],[]⟩,⟨[5,4,3,2,1,0,9,8,7,6],[],[],[]⟩,⟨[3,2,1,0,10,5,4,9,8,7,6],[],[],[]⟩,⟨[11,3,2,1,0,10,5,4,9,8,7,6],[],[],[]⟩,⟨[12,11,3,2,1,0,10,5,4,9,8,7,6],[],[],[]⟩,⟨[13,12,11,3,2,1,0,10,5,4,9,8,7,6],[],[],[]⟩,⟨[14,13,12,11,3,2,1,0,10,5,4,9,8,7,6],[],[],[]⟩,⟨[15,14,13,12,11,3,2,1,0,10,5,4,9,8,7,6],[],[],[]⟩,⟨[16,15,14,13,12,11,3,2,1,0,10,5,4,9,8,7,6],[],[],[]⟩,⟨[17,16,15,14,13,12,11,3,2,1,0,10,5,4,9,8,7,6],[],[],[]⟩,⟨[18,17,16,15,14,13,12,11,3,2,1,0,10,5,4,9,8,7,6],[],[],[]⟩,⟨[16,15,14,13,12,11,3,2,1,0,10,5,4,9,8,7,6,19,18,17],[],[],[]⟩,⟨[12,11,3,2,1,0,10,5,4,9,8,7,6,20,16,15,14,13,19,18,17],[],[],[]⟩])],[(100025,jl.c100025r),(27,jl.c27r),(20,jl.c20r),(100012,jl.c100012r),(14,jl.c14r),(7,jl.c7r),(5,jl.c5r),(3,jl.c3r),(1,jl.c1r)],[],Jf,[]⟩
theorem jl.eq (x_:densU jl.mc.pre.tys):denM jl.G Tryd.f41 jl.mc.pre jl.mc.post x_=jl.mc.F x_:=by kernel_rfl
theorem jl.p0:PcA jl.G Tryd.f41 0:=
  jG (s:=jl.c1r) (by kernel_rfl) (by kernel_rfl) (jF (sh:=jl.c1s) (fun ρ x_ k_=>(jw jc jc)) (fun ρ x_ t k=>(by kernel_rfl)) (fun x_=>by kernel_rfl))
theorem jl.p1:PcA jl.G Tryd.f41 1:=
  jG (s:=jl.c3r) (by kernel_rfl) (by kernel_rfl) (jF (sh:=jl.c3s) (fun ρ x_ k_=>(jw jc (jw jc (je fun _=>(jw jc jc))))) (fun ρ x_ t k=>(by kernel_rfl)) (fun x_=>by kernel_rfl))
theorem jl.p2:PcA jl.G Tryd.f41 2:=
  jG (s:=jl.c5r) (by kernel_rfl) (by kernel_rfl) (jF (sh:=jl.c5s) (fun ρ x_ k_=>(jw jc (jw jc (jw jc jc)))) (fun ρ x_ t k=>(by kernel_rfl)) (fun x_=>by kernel_rfl))
theorem jl.p3:PcA jl.G Tryd.f41 3:=
  jG (s:=jl.c7r) (by kernel_rfl) (by kernel_rfl) (jF (sh:=jl.c7s) (fun ρ x_ k_=>(jw (je fun _=>jc) jc)) (fun ρ x_ t k=>(by kernel_rfl)) (fun x_=>by kernel_rfl))
theorem jl.p4:PcA jl.G Tryd.f41 4:=
  JA (s:=jl.c100012r) (by kernel_rfl) (by kernel_rfl) (Jt (sh:=jl.c100012s) (I:=fun x_ s_=>(x_.1,x_.2.1,x_.2.2.1,x_.2.2.2.1,s_.1,x_.2.2.2.2.2.1,x_.2.2.2.2.2.2.1,x_.2.2.2.2.2.2.2.1,x_.2.2.2.2.2.2.2.2.1,x_.2.2.2.2.2.2.2.2.2.1,x_.2.2.2.2.2.2.2.2.2.2.1,s_.2,x_.2.2.2.2.2.2.2.2.2.2.2.2)) (fun x_=>rfl) (fun ρ x_ s_ k_=>(jw (je fun _=>(je fun _=>(jw jc (je fun _=>(je fun _=>(je fun _=>(jw jc (je fun _=>(je fun _=>(je fun _=>jc)))))))))) jc)) (fun ρ x_ t k=>(kB (fun _=>(by kernel_rfl)) (fun _=>(by kernel_rfl)))) (fun x_ s=>by kernel_rfl))
theorem jl.p5:PcA jl.G Tryd.f41 5:=
  jG (s:=jl.c14r) (by kernel_rfl) (by kernel_rfl) (jF (sh:=jl.c14s) (fun ρ x_ k_=>(jw jc jc)) (fun ρ x_ t k=>(by kernel_rfl)) (fun x_=>by kernel_rfl))
theorem jl.p6:PcA jl.G Tryd.f41 6:=
  jG (s:=jl.c20r) (by kernel_rfl) (by kernel_rfl) (jF (sh:=jl.c20s) (fun ρ x_ k_=>(jw (jw jc (jw jc (jw jc jc))) (jw jc jc))) (fun ρ x_ t k=>(by kernel_rfl)) (fun x_=>by kernel_rfl))
theorem jl.p7:PcA jl.G Tryd.f41 7:=
  JA (s:=jl.c100025r) (by kernel_rfl) (by kernel_rfl) (Jt (sh:=jl.c100025s) (I:=fun x_ s_=>(x_.1,x_.2.1,x_.2.2.1,x_.2.2.2.1,x_.2.2.2.2.1,x_.2.2.2.2.2.1,x_.2.2.2.2.2.2.1,s_,x_.2.2.2.2.2.2.2.2)) (fun x_=>rfl) (fun ρ x_ s_ k_=>(jw (je fun _=>(je fun _=>(jw jc jc))) jc)) (fun ρ x_ t k=>(kB (fun _=>(by kernel_rfl)) (fun _=>(by kernel_rfl)))) (fun x_ s=>by kernel_rfl))
theorem jl.p8:PcA jl.G Tryd.f41 8:=
  jG (s:=jl.c27r) (by kernel_rfl) (by kernel_rfl) (jF (sh:=jl.c27s) (fun ρ x_ k_=>(jw jc (jw jc jc))) (fun ρ x_ t k=>(by kernel_rfl)) (fun x_=>by kernel_rfl))
theorem jl.ok:MOk Tryd.prog 41 jl.mc:=kb (G:=jl.G) Js mixed Tryd.func41 ⟨(Ja Jn.ok (Ja Jx.ok Je)),jU,jO,jT⟩ (m:=9) (by kernel_rfl) ⟨⟨⟨⟨⟨⟨⟨⟨⟨trivial,jl.p0⟩,jl.p1⟩,jl.p2⟩,jl.p3⟩,jl.p4⟩,jl.p5⟩,jl.p6⟩,jl.p7⟩,jl.p8⟩ (by kernel_rfl) jl.eq
abbrev ct17:SO:=.box [.val (.int .i64),.val (.int .i64)]
abbrev ct18:SD:=.one (.val (.sl (.st (.pair (.int .i64) (.pair (.int .i64) (.pair (.sl (.int .i64)) (.pair (.int .i64) (.pair (.int .i64) (.sl (.int .i64))))))))))
def jC.c1 {ρ:Type} (c0:Int) (k_:Bool→Option ρ):Option ρ:=
  br (decide (c0 < (1:Int)))
   (k_ true)
   (k_ (decide (c0 > (12:Int))))
def jC.c1s:Shape:=⟨[(0,ct4),(1,ct5),(2,ct6)],[(1,ct8),(2,ct17)]⟩
def jC.c1x0:Shape:=⟨[(0,ct4),(1,ct5),(2,ct6),(6,ct11)],[(1,ct8),(2,ct17)]⟩
def jC.c1r:Ck:=Ck.of (T:=Bool) jC.c1s (fun ρ x_ k_=>jC.c1 x_.2.1 k_) (fun ρ x_ r_ k_=>k_ 0 (Shape.inj jC.c1x0 (x_.1,r_,x_.2)))
def jC.c3 {ρ:Type} (c1:Int) (k_:Bool→Option ρ):Option ρ:=
  br (decide (c1 < (0:Int)))
   (k_ true)
   (k_ (decide (c1 > (12:Int))))
def jC.c3s:Shape:=jC.c1s
def jC.c3x0:Shape:=⟨[(0,ct4),(1,ct5),(2,ct6),(16,ct11)],[(1,ct8),(2,ct17)]⟩
def jC.c3r:Ck:=Ck.of (T:=Bool) jC.c3s (fun ρ x_ k_=>jC.c3 x_.2.2.1 k_) (fun ρ x_ r_ k_=>k_ 0 (Shape.inj jC.c3x0 (x_.1,r_,x_.2)))
def jC.c100008 {ρ:Type} (t33:List ((Int)×((Int)×((List Int)×((Int)×((Int)×(List Int))))))) (t34:Int) (t35:Int) (c0:Int) (c1:Int) (c2:List ((Int)×((Int)×((List Int)×((Int)×((Int)×(List Int))))))) (k_:((Int)×(Int)×(Int)×(List ((Int)×((Int)×((List Int)×((Int)×((Int)×(List Int))))))))⊕(((Int)×(Int)×(Int)×(List ((Int)×((Int)×((List Int)×((Int)×((Int)×(List Int)))))))×(Int)×(Int))⊕((Int)×(Int)×(Int)×(List ((Int)×((Int)×((List Int)×((Int)×((Int)×(List Int)))))))))→Option ρ):Option ρ:=
  br (decide (t35 < t34))
   (bnd (idx t33 t35) fun y=>
    bnd (W.jl (y.1,y.2.1,y.2.2.1,y.2.2.2.1,y.2.2.2.2.1,y.2.2.2.2.2) c0 c1 c2) fun y_1=>
    br (y_1.1 != (0:Int))
     (bnd (W.Jr y_1.1 t35) fun y_2=>
      k_ (.inr (.inl (t35,y_1.2.1,y_1.2.2.1,y_1.2.2.2.1,y_2.1,y_2.2))))
     (k_ (.inl ((IntKind.i64.wrap (t35+(1:Int))),y_1.2.1,y_1.2.2.1,y_1.2.2.2.1))))
   (k_ (.inr (.inr (t35,c0,c1,c2))))
def jC.c100008s:Shape:=⟨[(0,ct4),(1,ct5),(2,ct6),(33,ct18),(34,ct2),(35,ct2)],[(1,ct8),(2,ct17)]⟩
def jC.c100008x0:Shape:=jC.c100008s
def jC.c100008x1:Shape:=jC.c100008s
def jC.c100008r:Ck:=Ck.ofLoop (S:=(Int)×(Int)×(Int)×(List ((Int)×((Int)×((List Int)×((Int)×((Int)×(List Int)))))))) (T:=((Int)×(Int)×(Int)×(List ((Int)×((Int)×((List Int)×((Int)×((Int)×(List Int)))))))×(Int)×(Int))⊕((Int)×(Int)×(Int)×(List ((Int)×((Int)×((List Int)×((Int)×((Int)×(List Int))))))))) jC.c100008s (fun x_=>(x_.2.2.2.1,x_.2.2.2.2.1,x_.2.2.2.2.2.1,x_.2.2.2.2.2.2.1)) (fun ρ x_ s_ k_=>jC.c100008 x_.2.1 x_.2.2.1 s_.1 s_.2.1 s_.2.2.1 s_.2.2.2 k_) (fun ρ x_ r_ k_=>sel r_ (fun r_=>k_ 1 (Shape.inj jC.c100008x0 (x_.1,x_.2.1,x_.2.2.1,r_.1,r_.2.1,r_.2.2.1,r_.2.2.2.1,r_.2.2.2.2.1,r_.2.2.2.2.2,()))) (fun r_=>k_ 3 (Shape.inj jC.c100008x1 (x_.1,x_.2.1,x_.2.2.1,r_.1,r_.2.1,r_.2.2.1,r_.2.2.2,x_.2.2.2.2.2.2.2))))
def jC (c:(Int)×((Int)×(List ((Int)×((Int)×((List Int)×((Int)×((Int)×(List Int))))))))):Option ((Int)×(Int)):=
  bnd (W.jC.c1 c.1 some) fun y=>
  br y
   (bnd (W.Jr (6:Int) (0:Int)) fun y_1=>
    some (y_1.1,y_1.2))
   (bnd (W.jC.c3 c.2.1 some) fun y_2=>
    br y_2
     (bnd (W.Jr (7:Int) (0:Int)) fun y_3=>
      some (y_3.1,y_3.2))
     (br (decide ((↑(List.length c.2.2):Int) > (4096:Int)))
       (bnd (W.Jr (2:Int) (0:Int)) fun y_4=>
        some (y_4.1,y_4.2))
       (bnd (iter (fun s↦W.jC.c100008 c.2.2 (↑(List.length c.2.2):Int) s.1 s.2.1 s.2.2.1 s.2.2.2 some) ((0:Int),c.1,c.2.1,c.2.2)) fun y_5=>
        sel y_5
         (fun u=>some (u.2.2.2.2.1,u.2.2.2.2.2))
         (fun v=>some ((0:Int),(0:Int))))))
def jC.ce:Go.Ql.Callee:=⟨[(.st (.pair (.int .i64) (.pair (.int .i64) (.sl (.st (.pair (.int .i64) (.pair (.int .i64) (.pair (.sl (.int .i64)) (.pair (.int .i64) (.pair (.int .i64) (.sl (.int .i64))))))))))))],[(.st (.pair (.int .i64) (.int .i64)))],fun x_=>jC x_⟩
def jC.G:Env:=⟨49,tab,[(40,Jr.ce)],[0,1,2,3,4,5,6,16,26,33,34,35,36,43],[],[],[(100008,jC.c100008r),(3,jC.c3r),(1,jC.c1r)],[(41,jl.mc)],Jf,[]⟩
theorem jC.eq (x_:dens jC.ce.params):den jC.G Tryd.f14 jC.ce.params jC.ce.res x_=jC.ce.F x_:=by kernel_rfl
theorem jC.p0:PcA jC.G Tryd.f14 0:=
  jG (s:=jC.c1r) (by kernel_rfl) (by kernel_rfl) (jF (sh:=jC.c1s) (fun ρ x_ k_=>(jw jc jc)) (fun ρ x_ t k=>(by kernel_rfl)) (fun x_=>by kernel_rfl))
theorem jC.p1:PcA jC.G Tryd.f14 1:=
  jG (s:=jC.c3r) (by kernel_rfl) (by kernel_rfl) (jF (sh:=jC.c3s) (fun ρ x_ k_=>(jw jc jc)) (fun ρ x_ t k=>(by kernel_rfl)) (fun x_=>by kernel_rfl))
theorem jC.p2:PcA jC.G Tryd.f14 2:=
  JA (s:=jC.c100008r) (by kernel_rfl) (by kernel_rfl) (Jt (sh:=jC.c100008s) (I:=fun x_ s_=>(x_.1,x_.2.1,x_.2.2.1,s_.1,s_.2.1,s_.2.2.1,s_.2.2.2,x_.2.2.2.2.2.2.2)) (fun x_=>rfl) (fun ρ x_ s_ k_=>(jw (je fun _=>(je fun _=>(jw (je fun _=>jc) jc))) jc)) (fun ρ x_ t k=>(kB (fun _=>(by kernel_rfl)) (fun _=>(by kernel_rfl)))) (fun x_ s=>by kernel_rfl))
theorem jC.ok:CalleeOk Tryd.prog 14 jC.ce:=fn_ok (G:=jC.G) Js mixed Tryd.func14 ⟨(Ja Jr.ok Je),(Jj jl.ok jU),jO,jT⟩ (m:=3) (by kernel_rfl) ⟨⟨⟨trivial,jC.p0⟩,jC.p1⟩,jC.p2⟩ (by kernel_rfl) jC.eq
abbrev ct19:SD:=.one (.ref 5 0)
def jR.c7 {ρ:Type} (o0:Int) (o5:List (Int)) (k_:Bool→Option ρ):Option ρ:=
  br (o0 == (5:Int))
   (k_ true)
   (br (o0 == (6:Int))
     (k_ true)
     (k_ (decide ((↑(List.length o5):Int) > (0:Int)))))
def jR.c7s:Shape:=⟨[(0,ct4),(1,ct5),(2,ct6),(3,ct7),(4,ct2),(5,ct19),(13,ct18),(14,ct2),(15,ct2)],[(1,ct8),(2,ct17),(3,ct17),(5,ct14)]⟩
def jR.c7x0:Shape:=⟨[(0,ct4),(1,ct5),(2,ct6),(3,ct7),(4,ct2),(5,ct19),(13,ct18),(14,ct2),(15,ct2),(33,ct11)],[(1,ct8),(2,ct17),(3,ct17),(5,ct14)]⟩
def jR.c7r:Ck:=Ck.of (T:=Bool) jR.c7s (fun ρ x_ k_=>jR.c7 x_.2.2.2.2.2.2.2.2.2.2.2.2.1 x_.2.2.2.2.2.2.2.2.2.2.2.2.2.2.2.2.2.1 k_) (fun ρ x_ r_ k_=>k_ 0 (Shape.inj jR.c7x0 (x_.1,x_.2.1,x_.2.2.1,x_.2.2.2.1,x_.2.2.2.2.1,r_,x_.2.2.2.2.2)))
def jR.c100005 {ρ:Type} (t13:List ((Int)×((Int)×((List Int)×((Int)×((Int)×(List Int))))))) (t14:Int) (t15:Int) (k_:(Int)⊕(((Int)×(Int)×(Int))⊕(Int))→Option ρ):Option ρ:=
  br (decide (t15 < t14))
   (bnd (idx t13 t15) fun y=>
    bnd (W.jR.c7 y.1 y.2.2.2.2.2 some) fun y_1=>
    br y_1
     (bnd (W.Jr (15:Int) t15) fun y_2=>
      k_ (.inr (.inl (t15,y_2.1,y_2.2))))
     (k_ (.inl (IntKind.i64.wrap (t15+(1:Int))))))
   (k_ (.inr (.inr t15)))
def jR.c100005s:Shape:=⟨[(0,ct4),(1,ct5),(2,ct6),(3,ct7),(13,ct18),(14,ct2),(15,ct2)],[(1,ct8),(2,ct17),(3,ct17)]⟩
def jR.c100005x0:Shape:=jR.c100005s
def jR.c100005x1:Shape:=jR.c100005s
def jR.c100005r:Ck:=Ck.ofLoop (S:=Int) (T:=((Int)×(Int)×(Int))⊕(Int)) jR.c100005s (fun x_=>x_.2.2.2.1) (fun ρ x_ s_ k_=>jR.c100005 x_.2.1 x_.2.2.1 s_ k_) (fun ρ x_ r_ k_=>sel r_ (fun r_=>k_ 1 (Shape.inj jR.c100005x0 (x_.1,x_.2.1,x_.2.2.1,r_.1,x_.2.2.2.2.1,x_.2.2.2.2.2.1,x_.2.2.2.2.2.2.1,r_.2.1,r_.2.2,x_.2.2.2.2.2.2.2.2.2))) (fun r_=>k_ 2 (Shape.inj jR.c100005x1 (x_.1,x_.2.1,x_.2.2.1,r_,x_.2.2.2.2))))
def jR (c:(Int)×((Int)×(List ((Int)×((Int)×((List Int)×((Int)×((Int)×(List Int))))))))):Option ((Int)×(Int)):=
  bnd (W.jC (c.1,c.2.1,c.2.2)) fun y=>
  br (y.1 != (0:Int))
   (some (y.1,y.2))
   (bnd (iter (fun s↦W.jR.c100005 c.2.2 (↑(List.length c.2.2):Int) s some) (0:Int)) fun y_1=>
    sel y_1
     (fun u=>some (u.2.1,u.2.2))
     (fun v=>some ((0:Int),(0:Int))))
def jR.ce:Go.Ql.Callee:=⟨[(.st (.pair (.int .i64) (.pair (.int .i64) (.sl (.st (.pair (.int .i64) (.pair (.int .i64) (.pair (.sl (.int .i64)) (.pair (.int .i64) (.pair (.int .i64) (.sl (.int .i64))))))))))))],[(.st (.pair (.int .i64) (.int .i64)))],fun x_=>jR x_⟩
def jR.G:Env:=⟨38,tab,[(14,jC.ce),(40,Jr.ce)],[0,1,2,3,4,5,10,13,14,15,16,33],[],[],[(100005,jR.c100005r),(7,jR.c7r)],[],Jf,[]⟩
theorem jR.eq (x_:dens jR.ce.params):den jR.G Tryd.f44 jR.ce.params jR.ce.res x_=jR.ce.F x_:=by kernel_rfl
theorem jR.p0:PcA jR.G Tryd.f44 0:=
  JA (s:=jR.c100005r) (by kernel_rfl) (by kernel_rfl) (Jt (sh:=jR.c100005s) (I:=fun x_ s_=>(x_.1,x_.2.1,x_.2.2.1,s_,x_.2.2.2.2)) (fun x_=>rfl) (fun ρ x_ s_ k_=>(jw (je fun _=>(je fun _=>(jw (je fun _=>jc) jc))) jc)) (fun ρ x_ t k=>(kB (fun _=>(by kernel_rfl)) (fun _=>(by kernel_rfl)))) (fun x_ s=>by kernel_rfl))
theorem jR.p1:PcA jR.G Tryd.f44 1:=
  jG (s:=jR.c7r) (by kernel_rfl) (by kernel_rfl) (jF (sh:=jR.c7s) (fun ρ x_ k_=>(jw jc (jw jc jc))) (fun ρ x_ t k=>(by kernel_rfl)) (fun x_=>by kernel_rfl))
theorem jR.ok:CalleeOk Tryd.prog 44 jR.ce:=fn_ok (G:=jR.G) Js mixed Tryd.func44 ⟨(Ja jC.ok (Ja Jr.ok Je)),jU,jO,jT⟩ (m:=2) (by kernel_rfl) ⟨⟨trivial,jR.p0⟩,jR.p1⟩ (by kernel_rfl) jR.eq
abbrev ct20:SD:=.one (.own 0 0)
def jX.pre:Shape:=⟨[(0,ct0)],[]⟩
def jX.post:Shape:=⟨[(0,ct20)],[(0,ct3)]⟩
def jX (s:List (Int)):Option ((List Int)×Unit):=
  br (List.isEmpty s)
   (both
     (some ([],()))
     (bnd (okIf (decide (((0:Nat)+List.length s)*(8:Nat)≤(140737488355328:Nat)) && decide ((0:Nat)+List.length s≤(140737488355328:Nat)))) fun y=>
      some (s,())))
   (bnd (okIf (decide (((0:Nat)+List.length s)*(8:Nat)≤(140737488355328:Nat)) && decide ((0:Nat)+List.length s≤(140737488355328:Nat)))) fun y_1=>
    some (s,()))
def jX.mc:MCallee:=⟨70,jX.pre,jX.post,fun x_=>jX x_.1⟩
def jX.G:Env:=⟨8,tab,[],[0,2,4],[2,5],[],[],[],Jf,[]⟩
theorem jX.eq (x_:densU jX.mc.pre.tys):denM jX.G Tryd.f70 jX.mc.pre jX.mc.post x_=jX.mc.F x_:=by kernel_rfl
theorem jX.ok:MOk Tryd.prog 70 jX.mc:=kb (G:=jX.G) Js mixed Tryd.func70 ⟨Je,jU,jO,jT⟩ (m:=0) (by kernel_rfl) trivial (by kernel_rfl) jX.eq
def Jk.c1 {ρ:Type} (o2:List (Int)) (o5:List (Int)) (k_:(List Int)×(List Int)→Option ρ):Option ρ:=
  bnd (W.jX o2) fun y=>
  bnd (W.jX o5) fun y_1=>
  k_ (y.1,y_1.1)
def Jk.c1s:Shape:=⟨[(0,ct12),(1,ct5),(2,ct6)],[(1,ct14),(2,ct14)]⟩
def Jk.c1x0:Shape:=Jk.c1s
def Jk.c1r:Ck:=Ck.of (T:=(List Int)×(List Int)) Jk.c1s (fun ρ x_ k_=>Jk.c1 x_.2.2.2.1 x_.2.2.2.2.2.2.1 k_) (fun ρ x_ r_ k_=>k_ 0 (Shape.inj Jk.c1x0 (x_.1,x_.2.1,x_.2.2.1,r_.1,x_.2.2.2.2.1,x_.2.2.2.2.2.1,r_.2,x_.2.2.2.2.2.2.2)))
def Jk (o:(Int)×((Int)×((List Int)×((Int)×((Int)×(List Int)))))):Option ((Int)×((Int)×((List Int)×((Int)×((Int)×(List Int)))))):=
  bnd (W.Jk.c1 o.2.2.1 o.2.2.2.2.2 some) fun y=>
  some (o.1,o.2.1,y.1,o.2.2.2.1,o.2.2.2.2.1,y.2)
def Jk.ce:Go.Ql.Callee:=⟨[(.st (.pair (.int .i64) (.pair (.int .i64) (.pair (.sl (.int .i64)) (.pair (.int .i64) (.pair (.int .i64) (.sl (.int .i64))))))))],[(.st (.pair (.int .i64) (.pair (.int .i64) (.pair (.sl (.int .i64)) (.pair (.int .i64) (.pair (.int .i64) (.sl (.int .i64))))))))],fun x_=>Jk x_⟩
def Jk.G:Env:=⟨12,tab,[],[0,1,2],[],[(1,[⟨[],[],[6,7],[]⟩,⟨[0],[],[6,7],[]⟩,⟨[1,0],[5],[6,7],[]⟩,⟨[],[],[3,4,5],[5]⟩,⟨[3],[],[3,4,5],[5]⟩,⟨[4,3,2,1,0],[8],[9],[]⟩,⟨[0,1,2,3,4],[],[8],[8]⟩,⟨[6,0,1,2,3,4,5],[1],[],[]⟩,⟨[0,1,2,3,4,5,6,7],[],[],[]⟩,⟨[8,0,1,2,3,4,5,6,7],[1],[],[]⟩])],[(1,Jk.c1r)],[(70,jX.mc)],Jf,[]⟩
theorem Jk.eq (x_:dens Jk.ce.params):den Jk.G Tryd.f45 Jk.ce.params Jk.ce.res x_=Jk.ce.F x_:=by kernel_rfl
theorem Jk.p0:PcA Jk.G Tryd.f45 0:=
  jG (s:=Jk.c1r) (by kernel_rfl) (by kernel_rfl) (jF (sh:=Jk.c1s) (fun ρ x_ k_=>(je fun _=>(je fun _=>jc))) (fun ρ x_ t k=>(by kernel_rfl)) (fun x_=>by kernel_rfl))
theorem Jk.ok:CalleeOk Tryd.prog 45 Jk.ce:=fn_ok (G:=Jk.G) Js mixed Tryd.func45 ⟨Je,(Jj jX.ok jU),jO,jT⟩ (m:=1) (by kernel_rfl) ⟨trivial,Jk.p0⟩ (by kernel_rfl) Jk.eq
def JH (o:(Int)×((Int)×((List Int)×((Int)×((Int)×(List Int)))))):Option ((Int)×((Int)×((List Int)×((Int)×((Int)×(List Int)))))):=
  some (o.1,Int.tmod (IntKind.i64.wrap ((16:Int) - o.2.1)) (16:Int),o.2.2.1,o.2.2.2.1,o.2.2.2.2.1,o.2.2.2.2.2)
def JH.ce:Go.Ql.Callee:=⟨[(.st (.pair (.int .i64) (.pair (.int .i64) (.pair (.sl (.int .i64)) (.pair (.int .i64) (.pair (.int .i64) (.sl (.int .i64))))))))],[(.st (.pair (.int .i64) (.pair (.int .i64) (.pair (.sl (.int .i64)) (.pair (.int .i64) (.pair (.int .i64) (.sl (.int .i64))))))))],fun x_=>JH x_⟩
def JH.G:Env:=⟨9,tab,[],[0,1,2],[],[],[],[],Jf,[]⟩
theorem JH.eq (x_:dens JH.ce.params):den JH.G Tryd.f48 JH.ce.params JH.ce.res x_=JH.ce.F x_:=by kernel_rfl
theorem JH.ok:CalleeOk Tryd.prog 48 JH.ce:=fn_ok (G:=JH.G) Js mixed Tryd.func48 ⟨Je,jU,jO,jT⟩ (m:=0) (by kernel_rfl) trivial (by kernel_rfl) JH.eq
abbrev ct21:SD:=.one (.fn 48)
abbrev ct22:SD:=.agg [.val (.int .i64),.val (.int .i64),.own 2 0]
abbrev ct23:SD:=.one (.ref 4 0)
abbrev ct24:SD:=.one (.ref 7 0)
abbrev ct25:SO:=.box [.val (.int .i64),.val (.int .i64),.own 3004 0]
abbrev ct26:SO:=.box [.val (.int .i64),.val (.int .i64),.own 3005 0]
def jD.pre:Shape:=⟨[(0,ct4),(1,ct21)],[]⟩
def jD.post:Shape:=⟨[(0,ct22)],[(2,ct10)]⟩
def jD.c5 {ρ:Type} (o0:Int) (o1:Int) (o2:List (Int)) (o3:Int) (o4:Int) (o5:List (Int)) (t3005:List ((Int)×((Int)×((List Int)×((Int)×((Int)×(List Int))))))) (k_:List ((Int)×((Int)×((List Int)×((Int)×((Int)×(List Int))))))→Option ρ):Option ρ:=
  bnd (W.Jk (o0,o1,o2,o3,o4,o5)) fun y=>
  bnd (W.JH y) fun y_1=>
  bnd (okIf (decide ((List.length t3005+(1:Nat))*(80:Nat)≤(140737488355328:Nat)) && decide (List.length t3005+(1:Nat)≤(140737488355328:Nat)))) fun y_2=>
  k_ (t3005++[y_1])
def jD.c5s:Shape:=⟨[(0,ct4),(1,ct21),(2,ct6),(4,ct23),(5,ct19),(7,ct24),(14,ct18),(15,ct2),(16,ct2)],[(2,ct8),(4,ct25),(5,ct26),(7,ct14),(3004,ct10),(3005,ct10)]⟩
def jD.c5x0:Shape:=jD.c5s
def jD.c5r:Ck:=Ck.of (T:=List ((Int)×((Int)×((List Int)×((Int)×((Int)×(List Int))))))) jD.c5s (fun ρ x_ k_=>jD.c5 x_.2.2.2.2.2.2.2.2.2.2.2.1 x_.2.2.2.2.2.2.2.2.2.2.2.2.1 x_.2.2.2.2.2.2.2.2.2.2.2.2.2.1 x_.2.2.2.2.2.2.2.2.2.2.2.2.2.2.1 x_.2.2.2.2.2.2.2.2.2.2.2.2.2.2.2.1 x_.2.2.2.2.2.2.2.2.2.2.2.2.2.2.2.2.1 x_.2.2.2.2.2.2.2.2.2.2.2.2.2.2.2.2.2.2.1 k_) (fun ρ x_ r_ k_=>k_ 0 (Shape.inj jD.c5x0 (x_.1,x_.2.1,x_.2.2.1,x_.2.2.2.1,x_.2.2.2.2.1,x_.2.2.2.2.2.1,x_.2.2.2.2.2.2.1,x_.2.2.2.2.2.2.2.1,x_.2.2.2.2.2.2.2.2.1,x_.2.2.2.2.2.2.2.2.2.1,x_.2.2.2.2.2.2.2.2.2.2.1,x_.2.2.2.2.2.2.2.2.2.2.2.1,x_.2.2.2.2.2.2.2.2.2.2.2.2.1,x_.2.2.2.2.2.2.2.2.2.2.2.2.2.1,x_.2.2.2.2.2.2.2.2.2.2.2.2.2.2.1,x_.2.2.2.2.2.2.2.2.2.2.2.2.2.2.2.1,x_.2.2.2.2.2.2.2.2.2.2.2.2.2.2.2.2.1,x_.2.2.2.2.2.2.2.2.2.2.2.2.2.2.2.2.2.1,r_,())))
def jD.c100003 {ρ:Type} (t14:List ((Int)×((Int)×((List Int)×((Int)×((Int)×(List Int))))))) (t15:Int) (t16:Int) (t3005:List ((Int)×((Int)×((List Int)×((Int)×((Int)×(List Int))))))) (k_:((Int)×(List ((Int)×((Int)×((List Int)×((Int)×((Int)×(List Int))))))))⊕((Int)×(List ((Int)×((Int)×((List Int)×((Int)×((Int)×(List Int))))))))→Option ρ):Option ρ:=
  br (decide (t16 < t15))
   (bnd (idx t14 t16) fun y=>
    bnd (W.jD.c5 y.1 y.2.1 y.2.2.1 y.2.2.2.1 y.2.2.2.2.1 y.2.2.2.2.2 t3005 some) fun y_1=>
    k_ (.inl ((IntKind.i64.wrap (t16+(1:Int))),y_1)))
   (k_ (.inr (t16,t3005)))
def jD.c100003s:Shape:=⟨[(0,ct4),(1,ct21),(2,ct6),(4,ct23),(5,ct19),(14,ct18),(15,ct2),(16,ct2)],[(2,ct8),(4,ct25),(5,ct26),(3004,ct10),(3005,ct10)]⟩
def jD.c100003x0:Shape:=jD.c100003s
def jD.c100003r:Ck:=Ck.ofLoop (S:=(Int)×(List ((Int)×((Int)×((List Int)×((Int)×((Int)×(List Int)))))))) (T:=(Int)×(List ((Int)×((Int)×((List Int)×((Int)×((Int)×(List Int)))))))) jD.c100003s (fun x_=>(x_.2.2.2.1,x_.2.2.2.2.2.2.2.2.2.2.2.2.1)) (fun ρ x_ s_ k_=>jD.c100003 x_.2.1 x_.2.2.1 s_.1 s_.2 k_) (fun ρ x_ r_ k_=>k_ 2 (Shape.inj jD.c100003x0 (x_.1,x_.2.1,x_.2.2.1,r_.1,x_.2.2.2.2.1,x_.2.2.2.2.2.1,x_.2.2.2.2.2.2.1,x_.2.2.2.2.2.2.2.1,x_.2.2.2.2.2.2.2.2.1,x_.2.2.2.2.2.2.2.2.2.1,x_.2.2.2.2.2.2.2.2.2.2.1,x_.2.2.2.2.2.2.2.2.2.2.2.1,r_.2,())))
def jD (c:(Int)×((Int)×(List ((Int)×((Int)×((List Int)×((Int)×((Int)×(List Int))))))))):Option ((Int)×(Int)×(List ((Int)×((Int)×((List Int)×((Int)×((Int)×(List Int)))))))×Unit):=
  bnd (iter (fun s↦W.jD.c100003 c.2.2 (↑(List.length c.2.2):Int) s.1 s.2 some) ((0:Int),[])) fun y=>
  some (c.1,c.2.1,y.2,())
def jD.mc:MCallee:=⟨46,jD.pre,jD.post,fun x_=>jD x_.1⟩
def jD.G:Env:=⟨31,tab,[(45,Jk.ce),(48,JH.ce)],[0,1,2,4,5,7,14,15,16,17],[2,4,5,12,3002,3004,3005],[(5,[⟨[],[],[22,23,24,25,26],[26]⟩,⟨[0],[],[22,23,24,25,26],[26]⟩,⟨[],[],[20,21,23,24],[]⟩,⟨[],[],[20,21,22],[]⟩,⟨[3],[],[20,21,22],[]⟩,⟨[2,4,3],[],[20,21],[]⟩,⟨[5,2,4,3],[26],[20,21],[]⟩,⟨[1,0,6,5,2,4,3],[3005],[],[]⟩,⟨[0,1,2,3,4,5,6,7],[],[],[]⟩,⟨[8,0,1,2,3,4,5,6,7],[5],[],[]⟩])],[(100003,jD.c100003r),(5,jD.c5r)],[],Jf,[]⟩
theorem jD.eq (x_:densU jD.mc.pre.tys):denM jD.G Tryd.f46 jD.mc.pre jD.mc.post x_=jD.mc.F x_:=by kernel_rfl
theorem jD.p0:PcA jD.G Tryd.f46 0:=
  JA (s:=jD.c100003r) (by kernel_rfl) (by kernel_rfl) (Jt (sh:=jD.c100003s) (I:=fun x_ s_=>(x_.1,x_.2.1,x_.2.2.1,s_.1,x_.2.2.2.2.1,x_.2.2.2.2.2.1,x_.2.2.2.2.2.2.1,x_.2.2.2.2.2.2.2.1,x_.2.2.2.2.2.2.2.2.1,x_.2.2.2.2.2.2.2.2.2.1,x_.2.2.2.2.2.2.2.2.2.2.1,x_.2.2.2.2.2.2.2.2.2.2.2.1,s_.2,())) (fun x_=>rfl) (fun ρ x_ s_ k_=>(jw (je fun _=>(je fun _=>jc)) jc)) (fun ρ x_ t k=>(by kernel_rfl)) (fun x_ s=>by kernel_rfl))
theorem jD.p1:PcA jD.G Tryd.f46 1:=
  jG (s:=jD.c5r) (by kernel_rfl) (by kernel_rfl) (jF (sh:=jD.c5s) (fun ρ x_ k_=>(je fun _=>(je fun _=>(je fun _=>jc)))) (fun ρ x_ t k=>(by kernel_rfl)) (fun x_=>by kernel_rfl))
theorem jD.ok:MOk Tryd.prog 46 jD.mc:=kb (G:=jD.G) Js mixed Tryd.func46 ⟨(Ja Jk.ok (Ja JH.ok Je)),jU,jO,jT⟩ (m:=2) (by kernel_rfl) ⟨⟨trivial,jD.p0⟩,jD.p1⟩ (by kernel_rfl) jD.eq
abbrev ct27:SD:=.one (.own 2000000 0)
def jp.pre:Shape:=⟨[(0,ct27)],[(2000000,ct10)]⟩
def jp.post:Shape:=⟨[],[(2000000,ct10)]⟩
def jp.c3 {ρ:Type} (i:Int) (j:Int) (t2000000:List ((Int)×((Int)×((List Int)×((Int)×((Int)×(List Int))))))) (k_:List ((Int)×((Int)×((List Int)×((Int)×((Int)×(List Int))))))→Option ρ):Option ρ:=
  bnd (inR (List.length t2000000) j) fun y=>
  bnd (idx t2000000 j) fun y_1=>
  bnd (inR (List.length t2000000) i) fun y_2=>
  bnd (idx t2000000 i) fun y_3=>
  bnd (inR (List.length t2000000) i) fun y_4=>
  bnd (idx t2000000 i) fun y_5=>
  bnd (inR (List.length (List.set t2000000 (Int.toNat i) y_1)) j) fun y_6=>
  bnd (idx (List.set t2000000 (Int.toNat i) y_1) j) fun y_7=>
  k_ (List.set (List.set t2000000 (Int.toNat i) y_1) (Int.toNat j) y_3)
def jp.c3s:Shape:=⟨[(0,ct27),(2,ct2),(3,ct2)],[(2000000,ct10)]⟩
def jp.c3x0:Shape:=jp.c3s
def jp.c3r:Ck:=Ck.of (T:=List ((Int)×((Int)×((List Int)×((Int)×((Int)×(List Int))))))) jp.c3s (fun ρ x_ k_=>jp.c3 x_.1 x_.2.1 x_.2.2.1 k_) (fun ρ x_ r_ k_=>k_ 0 (Shape.inj jp.c3x0 (x_.1,x_.2.1,r_,())))
def jp.c100001 {ρ:Type} (i:Int) (j:Int) (t2000000:List ((Int)×((Int)×((List Int)×((Int)×((Int)×(List Int))))))) (k_:((Int)×(Int)×(List ((Int)×((Int)×((List Int)×((Int)×((Int)×(List Int))))))))⊕((Int)×(Int)×(List ((Int)×((Int)×((List Int)×((Int)×((Int)×(List Int))))))))→Option ρ):Option ρ:=
  br (decide (i < j))
   (bnd (W.jp.c3 i j t2000000 some) fun y=>
    k_ (.inl ((IntKind.i64.wrap (i+(1:Int))),(IntKind.i64.wrap (j - (1:Int))),y)))
   (k_ (.inr (i,j,t2000000)))
def jp.c100001s:Shape:=jp.c3s
def jp.c100001x0:Shape:=jp.c3s
def jp.c100001r:Ck:=Ck.ofLoop (S:=(Int)×(Int)×(List ((Int)×((Int)×((List Int)×((Int)×((Int)×(List Int)))))))) (T:=(Int)×(Int)×(List ((Int)×((Int)×((List Int)×((Int)×((Int)×(List Int)))))))) jp.c100001s (fun x_=>(x_.1,x_.2.1,x_.2.2.1)) (fun ρ x_ s_ k_=>jp.c100001 s_.1 s_.2.1 s_.2.2 k_) (fun ρ x_ r_ k_=>k_ 2 (Shape.inj jp.c100001x0 (r_.1,r_.2.1,r_.2.2,())))
def jp (t2000000:List ((Int)×((Int)×((List Int)×((Int)×((Int)×(List Int))))))):Option ((List ((Int)×((Int)×((List Int)×((Int)×((Int)×(List Int)))))))×Unit):=
  bnd (iter (fun s↦W.jp.c100001 s.1 s.2.1 s.2.2 some) ((0:Int),IntKind.i64.wrap ((↑(List.length t2000000):Int) - (1:Int)),t2000000)) fun y=>
  some (y.2.2,())
def jp.mc:MCallee:=⟨49,jp.pre,jp.post,fun x_=>jp x_.1⟩
def jp.G:Env:=⟨28,tab,[],[0,2,3,9],[2000000],[(3,[⟨[],[],[15,16,17,18,19,20,21,22,23,24,25],[]⟩,⟨[],[],[14,16,17,18,19,20,21,22,23,24,25],[]⟩,⟨[],[],[14,15,17,18,19,20,21,22,23,24,25,26],[2000000]⟩,⟨[],[],[14,15,16,18,19,20,21,22,23,24,25,26],[2000000]⟩,⟨[],[],[14,15,16,17,19,22,23,24,25],[]⟩,⟨[],[],[14,15,16,17,18,22,23,24,25],[]⟩,⟨[4,5],[],[14,15,16,17,22,23,24,25],[]⟩,⟨[6,4,5],[],[14,15,16,17,22,23,24,25],[]⟩,⟨[],[],[14,15,16,17,18,19,20,21,23],[]⟩,⟨[],[],[14,15,16,17,18,19,20,21,22],[]⟩,⟨[8,9],[],[14,15,16,17,18,19,20,21],[]⟩,⟨[10,8,9],[],[14,15,16,17,18,19,20,21],[]⟩,⟨[0,1,4,5,6,7,11,10,8,9],[],[16,17],[]⟩,⟨[12,0,1,4,5,6,7,11,10,8,9],[2000000],[16,17],[]⟩,⟨[2,3,0,1,4,5,6,7,8,9,10,11,12,13],[],[],[]⟩,⟨[14,2,3,0,1,4,5,6,7,8,9,10,11,12,13],[2000000],[],[]⟩])],[(100001,jp.c100001r),(3,jp.c3r)],[],Jf,[]⟩
theorem jp.eq (x_:densU jp.mc.pre.tys):denM jp.G Tryd.f49 jp.mc.pre jp.mc.post x_=jp.mc.F x_:=by kernel_rfl
theorem jp.p0:PcA jp.G Tryd.f49 0:=
  JA (s:=jp.c100001r) (by kernel_rfl) (by kernel_rfl) (Jt (sh:=jp.c100001s) (I:=fun x_ s_=>(s_.1,s_.2.1,s_.2.2,())) (fun x_=>rfl) (fun ρ x_ s_ k_=>(jw (je fun _=>jc) jc)) (fun ρ x_ t k=>(by kernel_rfl)) (fun x_ s=>by kernel_rfl))
theorem jp.p1:PcA jp.G Tryd.f49 1:=
  jG (s:=jp.c3r) (by kernel_rfl) (by kernel_rfl) (jF (sh:=jp.c3s) (fun ρ x_ k_=>(je fun _=>(je fun _=>(je fun _=>(je fun _=>(je fun _=>(je fun _=>(je fun _=>(je fun _=>jc))))))))) (fun ρ x_ t k=>(by kernel_rfl)) (fun x_=>by kernel_rfl))
theorem jp.ok:MOk Tryd.prog 49 jp.mc:=kb (G:=jp.G) Js mixed Tryd.func49 ⟨Je,jU,jO,jT⟩ (m:=2) (by kernel_rfl) ⟨⟨trivial,jp.p0⟩,jp.p1⟩ (by kernel_rfl) jp.eq
def Jd.c3 {ρ:Type}  (k_:Unit→Option ρ):Option ρ:=
  k_ ()
def Jd.c3s:Shape:=⟨[(0,ct4),(1,ct5),(2,ct6),(3,ct7),(4,ct23)],[(1,ct8),(2,ct8),(3,ct17),(4,ct17)]⟩
def Jd.c3x0:Shape:=Jd.c3s
def Jd.c3r:Ck:=Ck.of (T:=Unit) Jd.c3s (fun ρ x_ k_=>Jd.c3  k_) (fun ρ x_ r_ k_=>k_ 0 (Shape.inj Jd.c3x0 (x_.1,x_.2.1,x_.2.2.1,x_.2.2.2.1,(0:Int),(0:Int),[],x_.2.2.2.2.2.2.2.2.2.1,x_.2.2.2.2.2.2.2.2.2.2.1,x_.2.2.2.2.2.2.2.2.2)))
def Jd (c:(Int)×((Int)×(List ((Int)×((Int)×((List Int)×((Int)×((Int)×(List Int))))))))):Option (((Int)×((Int)×(List ((Int)×((Int)×((List Int)×((Int)×((Int)×(List Int)))))))))×((Int)×(Int))):=
  bnd (W.jR (c.1,c.2.1,c.2.2)) fun y=>
  br (y.1 != (0:Int))
   (bnd (W.Jd.c3 some) fun y_1=>
    some (((0:Int),(0:Int),[]),y.1,y.2))
   (bnd (W.jD (c.1,c.2.1,c.2.2)) fun y_2=>
    bnd (W.jp y_2.2.2.1) fun y_3=>
    some ((y_2.1,y_2.2.1,y_3.1),(0:Int),(0:Int)))
def Jd.ce:Go.Ql.Callee:=⟨[(.st (.pair (.int .i64) (.pair (.int .i64) (.sl (.st (.pair (.int .i64) (.pair (.int .i64) (.pair (.sl (.int .i64)) (.pair (.int .i64) (.pair (.int .i64) (.sl (.int .i64))))))))))))],[(.st (.pair (.int .i64) (.pair (.int .i64) (.sl (.st (.pair (.int .i64) (.pair (.int .i64) (.pair (.sl (.int .i64)) (.pair (.int .i64) (.pair (.int .i64) (.sl (.int .i64)))))))))))),(.st (.pair (.int .i64) (.int .i64)))],fun x_=>Jd x_⟩
def Jd.G:Env:=⟨20,tab,[(44,jR.ce)],[0,1,2,3,4,5,10],[5,2014,3005],[(3,[⟨[],[],[12],[]⟩,⟨[],[],[11],[2]⟩,⟨[0],[2],[12],[]⟩,⟨[1,2,0],[3],[],[]⟩])],[(3,Jd.c3r)],[(46,jD.mc),(49,jp.mc)],Jf,[]⟩
theorem Jd.eq (x_:dens Jd.ce.params):den Jd.G Tryd.f23 Jd.ce.params Jd.ce.res x_=Jd.ce.F x_:=by kernel_rfl
theorem Jd.p0:PcA Jd.G Tryd.f23 0:=
  jG (s:=Jd.c3r) (by kernel_rfl) (by kernel_rfl) (jF (sh:=Jd.c3s) (fun ρ x_ k_=>jc) (fun ρ x_ t k=>(by kernel_rfl)) (fun x_=>by kernel_rfl))
theorem Jd.ok:CalleeOk Tryd.prog 23 Jd.ce:=fn_ok (G:=Jd.G) Js mixed Tryd.func23 ⟨(Ja jR.ok Je),(Jj jD.ok (Jj jp.ok jU)),jO,jT⟩ (m:=1) (by kernel_rfl) ⟨trivial,Jd.p0⟩ (by kernel_rfl) Jd.eq
def JE (code:Int) (t1:Int):Option ((Int)×(Int)):=
  some (code,t1)
def JE.ce:Go.Ql.Callee:=⟨[(.int .i64),(.int .i64)],[(.st (.pair (.int .i64) (.int .i64)))],fun x_=>JE x_.1 x_.2⟩
def JE.G:Env:=⟨8,tab,[],[0,1,4],[],[],[],[],Jf,[]⟩
theorem JE.eq (x_:dens JE.ce.params):den JE.G Tryd.f42 JE.ce.params JE.ce.res x_=JE.ce.F x_:=by kernel_rfl
theorem JE.ok:CalleeOk Tryd.prog 42 JE.ce:=fn_ok (G:=JE.G) Js mixed Tryd.func42 ⟨Je,jU,jO,jT⟩ (m:=0) (by kernel_rfl) trivial (by kernel_rfl) JE.eq
def Jv.c100002 {ρ:Type} (l:List (Int)) (x:Int) (i:Int) (k_:(Int)⊕((Int)⊕(Int))→Option ρ):Option ρ:=
  br (decide (i < (↑(List.length l):Int)))
   (bnd (idx l i) fun y=>
    br (y == x)
     (k_ (.inr (.inl i)))
     (k_ (.inl (IntKind.i64.wrap (i+(1:Int))))))
   (k_ (.inr (.inr i)))
def Jv.c100002s:Shape:=⟨[(0,ct0),(1,ct2),(4,ct11),(5,ct2)],[]⟩
def Jv.c100002x0:Shape:=Jv.c100002s
def Jv.c100002x1:Shape:=Jv.c100002s
def Jv.c100002r:Ck:=Ck.ofLoop (S:=Int) (T:=(Int)⊕(Int)) Jv.c100002s (fun x_=>x_.2.2.2.1) (fun ρ x_ s_ k_=>Jv.c100002 x_.1 x_.2.1 s_ k_) (fun ρ x_ r_ k_=>sel r_ (fun r_=>k_ 1 (Shape.inj Jv.c100002x0 (x_.1,x_.2.1,true,r_,()))) (fun r_=>k_ 2 (Shape.inj Jv.c100002x1 (x_.1,x_.2.1,x_.2.2.1,r_,()))))
def Jv (l:List (Int)) (x:Int):Option Bool:=
  bnd (iter (fun s↦W.Jv.c100002 l x s some) (0:Int)) fun y=>
  sel y
   (fun u=>some true)
   (fun v=>some false)
def Jv.ce:Go.Ql.Callee:=⟨[(.sl (.int .i64)),(.int .i64)],[.bool],fun x_=>Jv x_.1 x_.2⟩
def Jv.G:Env:=⟨18,tab,[],[0,1,4,5,9,17],[],[],[(100002,Jv.c100002r)],[],Jf,[]⟩
theorem Jv.eq (x_:dens Jv.ce.params):den Jv.G Tryd.f52 Jv.ce.params Jv.ce.res x_=Jv.ce.F x_:=by kernel_rfl
theorem Jv.p0:PcA Jv.G Tryd.f52 0:=
  JA (s:=Jv.c100002r) (by kernel_rfl) (by kernel_rfl) (Jt (sh:=Jv.c100002s) (I:=fun x_ s_=>(x_.1,x_.2.1,x_.2.2.1,s_,())) (fun x_=>rfl) (fun ρ x_ s_ k_=>(jw (je fun _=>(jw jc jc)) jc)) (fun ρ x_ t k=>(kB (fun _=>(by kernel_rfl)) (fun _=>(by kernel_rfl)))) (fun x_ s=>by kernel_rfl))
theorem Jv.ok:CalleeOk Tryd.prog 52 Jv.ce:=fn_ok (G:=Jv.G) Js mixed Tryd.func52 ⟨Je,jU,jO,jT⟩ (m:=1) (by kernel_rfl) ⟨trivial,Jv.p0⟩ (by kernel_rfl) Jv.eq
def jh.c1 {ρ:Type} (o0:Int) (k_:Bool→Option ρ):Option ρ:=
  br (decide (o0 < (1:Int)))
   (k_ true)
   (k_ (decide (o0 > (6:Int))))
def jh.c1s:Shape:=⟨[(0,ct12),(1,ct2),(2,ct2),(3,ct7),(6,ct2)],[(3,ct14)]⟩
def jh.c1x0:Shape:=⟨[(0,ct12),(1,ct2),(2,ct2),(3,ct7),(6,ct2),(17,ct11)],[(3,ct14)]⟩
def jh.c1r:Ck:=Ck.of (T:=Bool) jh.c1s (fun ρ x_ k_=>jh.c1 x_.2.2.2.2.1 k_) (fun ρ x_ r_ k_=>k_ 0 (Shape.inj jh.c1x0 (x_.1,x_.2.1,x_.2.2.1,x_.2.2.2.1,r_,x_.2.2.2.2)))
def jh.c3 {ρ:Type} (o0:Int) (k_:Bool→Option ρ):Option ρ:=
  br (o0 == (1:Int))
   (k_ true)
   (k_ (o0 == (4:Int)))
def jh.c3s:Shape:=jh.c1s
def jh.c3x0:Shape:=⟨[(0,ct12),(1,ct2),(2,ct2),(3,ct7),(6,ct2),(7,ct11)],[(3,ct14)]⟩
def jh.c3r:Ck:=Ck.of (T:=Bool) jh.c3s (fun ρ x_ k_=>jh.c3 x_.2.2.2.2.1 k_) (fun ρ x_ r_ k_=>k_ 0 (Shape.inj jh.c3x0 (x_.1,x_.2.1,x_.2.2.1,x_.2.2.2.1,r_,x_.2.2.2.2)))
def jh.c4 {ρ:Type} (angle:Bool) (o1:Int) (k_:Bool→Option ρ):Option ρ:=
  br (decide (o1 < (0:Int)))
   (k_ true)
   (br (decide (o1 > (15:Int)))
     (k_ true)
     (br (decide (o1 > (0:Int)))
       (k_ (!angle))
       (k_ false)))
def jh.c4s:Shape:=jh.c3x0
def jh.c4x0:Shape:=⟨[(0,ct12),(1,ct2),(2,ct2),(3,ct7),(6,ct2),(7,ct11),(42,ct11)],[(3,ct14)]⟩
def jh.c4r:Ck:=Ck.of (T:=Bool) jh.c4s (fun ρ x_ k_=>jh.c4 x_.2.2.2.2.1 x_.2.2.2.2.2.2.1 k_) (fun ρ x_ r_ k_=>k_ 0 (Shape.inj jh.c4x0 (x_.1,x_.2.1,x_.2.2.1,x_.2.2.2.1,x_.2.2.2.2.1,r_,x_.2.2.2.2.2)))
def jh.c6 {ρ:Type} (qubits:Int) (o0:Int) (o3:Int) (k_:Bool→Option ρ):Option ρ:=
  br (decide (o3 < (0:Int)))
   (k_ true)
   (br (decide (o3≥qubits))
     (k_ true)
     (br (o0 == (1:Int))
       (k_ (decide (o3 > (0:Int))))
       (k_ false)))
def jh.c6s:Shape:=jh.c3x0
def jh.c6x0:Shape:=⟨[(0,ct12),(1,ct2),(2,ct2),(3,ct7),(6,ct2),(7,ct11),(61,ct11)],[(3,ct14)]⟩
def jh.c6r:Ck:=Ck.of (T:=Bool) jh.c6s (fun ρ x_ k_=>jh.c6 x_.2.1 x_.2.2.2.2.2.1 x_.2.2.2.2.2.2.2.2.1 k_) (fun ρ x_ r_ k_=>k_ 0 (Shape.inj jh.c6x0 (x_.1,x_.2.1,x_.2.2.1,x_.2.2.2.1,x_.2.2.2.2.1,r_,x_.2.2.2.2.2)))
def jh.c8 {ρ:Type} (o0:Int) (o2:List (Int)) (k_:Bool→Option ρ):Option ρ:=
  br (decide ((↑(List.length o2):Int) > (0:Int)))
   (br (o0 != (2:Int))
     (br (o0 != (3:Int))
       (k_ (o0 != (4:Int)))
       (k_ false))
     (k_ false))
   (k_ false)
def jh.c8s:Shape:=jh.c3x0
def jh.c8x0:Shape:=⟨[(0,ct12),(1,ct2),(2,ct2),(3,ct7),(6,ct2),(7,ct11),(80,ct11)],[(3,ct14)]⟩
def jh.c8r:Ck:=Ck.of (T:=Bool) jh.c8s (fun ρ x_ k_=>jh.c8 x_.2.2.2.2.2.1 x_.2.2.2.2.2.2.2.1 k_) (fun ρ x_ r_ k_=>k_ 0 (Shape.inj jh.c8x0 (x_.1,x_.2.1,x_.2.2.1,x_.2.2.2.1,x_.2.2.2.2.1,r_,x_.2.2.2.2.2)))
def jh.c13 {ρ:Type} (qubits:Int) (i:Int) (o2:List (Int)) (k_:Bool→Option ρ):Option ρ:=
  bnd (idx o2 i) fun y=>
  br (decide (y < (0:Int)))
   (k_ true)
   (bnd (idx o2 i) fun y_1=>
    k_ (decide (y_1≥qubits)))
def jh.c13s:Shape:=⟨[(0,ct12),(1,ct2),(2,ct2),(3,ct7),(6,ct2),(7,ct11),(8,ct2)],[(3,ct14)]⟩
def jh.c13x0:Shape:=⟨[(0,ct12),(1,ct2),(2,ct2),(3,ct7),(6,ct2),(7,ct11),(8,ct2),(102,ct11)],[(3,ct14)]⟩
def jh.c13r:Ck:=Ck.of (T:=Bool) jh.c13s (fun ρ x_ k_=>jh.c13 x_.2.1 x_.2.2.2.2.2.1 x_.2.2.2.2.2.2.2.2.1 k_) (fun ρ x_ r_ k_=>k_ 0 (Shape.inj jh.c13x0 (x_.1,x_.2.1,x_.2.2.1,x_.2.2.2.1,x_.2.2.2.2.1,x_.2.2.2.2.2.1,r_,x_.2.2.2.2.2.2)))
def jh.c15 {ρ:Type} (i:Int) (o2:List (Int)) (o3:Int) (k_:Bool→Option ρ):Option ρ:=
  bnd (idx o2 i) fun y=>
  br (y == o3)
   (k_ true)
   (bnd (okIf (decide ((0:Int)≤i) && decide (i≤(↑(List.length o2):Int)))) fun y_1=>
    bnd (idx o2 i) fun y_2=>
    bnd (W.Jv (List.take (Int.toNat i) o2) y_2) fun y_3=>
    k_ y_3)
def jh.c15s:Shape:=jh.c13s
def jh.c15x0:Shape:=⟨[(0,ct12),(1,ct2),(2,ct2),(3,ct7),(6,ct2),(7,ct11),(8,ct2),(122,ct11)],[(3,ct14)]⟩
def jh.c15r:Ck:=Ck.of (T:=Bool) jh.c15s (fun ρ x_ k_=>jh.c15 x_.2.2.2.2.2.1 x_.2.2.2.2.2.2.2.2.1 x_.2.2.2.2.2.2.2.2.2.1 k_) (fun ρ x_ r_ k_=>k_ 0 (Shape.inj jh.c15x0 (x_.1,x_.2.1,x_.2.2.1,x_.2.2.2.1,x_.2.2.2.2.1,x_.2.2.2.2.2.1,r_,x_.2.2.2.2.2.2)))
def jh.c100011 {ρ:Type} (qubits:Int) (i:Int) (o2:List (Int)) (o3:Int) (k_:(Int)⊕(((Int)×(Int))⊕(Int))→Option ρ):Option ρ:=
  br (decide (i < (↑(List.length o2):Int)))
   (bnd (W.jh.c13 qubits i o2 some) fun y=>
    br y
     (k_ (.inr (.inl ((10:Int),i))))
     (bnd (W.jh.c15 i o2 o3 some) fun y_1=>
      br y_1
       (k_ (.inr (.inl ((12:Int),i))))
       (k_ (.inl (IntKind.i64.wrap (i+(1:Int)))))))
   (k_ (.inr (.inr i)))
def jh.c100011s:Shape:=jh.c13s
def jh.c100011x0:Shape:=jh.c13s
def jh.c100011x1:Shape:=jh.c13s
def jh.c100011r:Ck:=Ck.ofLoop (S:=Int) (T:=((Int)×(Int))⊕(Int)) jh.c100011s (fun x_=>x_.2.2.2.2.2.1) (fun ρ x_ s_ k_=>jh.c100011 x_.2.1 s_ x_.2.2.2.2.2.2.2.2.1 x_.2.2.2.2.2.2.2.2.2.1 k_) (fun ρ x_ r_ k_=>sel r_ (fun r_=>k_ 1 (Shape.inj jh.c100011x0 (x_.1,x_.2.1,x_.2.2.1,r_.1,x_.2.2.2.2.1,r_.2,x_.2.2.2.2.2.2))) (fun r_=>k_ 2 (Shape.inj jh.c100011x1 (x_.1,x_.2.1,x_.2.2.1,x_.2.2.2.1,x_.2.2.2.2.1,r_,x_.2.2.2.2.2.2))))
def jh.c18 {ρ:Type} (bits:Int) (o4:Int) (k_:Bool→Option ρ):Option ρ:=
  br (decide (o4 < (0:Int)))
   (k_ true)
   (k_ (decide (o4≥bits)))
def jh.c18s:Shape:=jh.c13s
def jh.c18x0:Shape:=⟨[(0,ct12),(1,ct2),(2,ct2),(3,ct7),(6,ct2),(7,ct11),(8,ct2),(134,ct11)],[(3,ct14)]⟩
def jh.c18r:Ck:=Ck.of (T:=Bool) jh.c18s (fun ρ x_ k_=>jh.c18 x_.2.2.1 x_.2.2.2.2.2.2.2.2.2.2.1 k_) (fun ρ x_ r_ k_=>k_ 0 (Shape.inj jh.c18x0 (x_.1,x_.2.1,x_.2.2.1,x_.2.2.2.1,x_.2.2.2.2.1,x_.2.2.2.2.2.1,r_,x_.2.2.2.2.2.2)))
def jh.c269649 {ρ:Type} (bits:Int) (o0:Int) (o4:Int) (k_:(Unit)⊕(Unit)→Option ρ):Option ρ:=
  br (o0 == (5:Int))
   (bnd (W.jh.c18 bits o4 some) fun y=>
    br y
     (k_ (.inl ()))
     (k_ (.inr ())))
   (br (o4 != (0:Int))
     (k_ (.inl ()))
     (k_ (.inr ())))
def jh.c269649s:Shape:=jh.c13s
def jh.c269649x0:Shape:=jh.c13s
def jh.c269649x1:Shape:=jh.c13s
def jh.c269649r:Ck:=Ck.of (T:=(Unit)⊕(Unit)) jh.c269649s (fun ρ x_ k_=>jh.c269649 x_.2.2.1 x_.2.2.2.2.2.2.1 x_.2.2.2.2.2.2.2.2.2.2.1 k_) (fun ρ x_ r_ k_=>sel r_ (fun r_=>k_ 1 (Shape.inj jh.c269649x0 (x_.1,x_.2.1,x_.2.2.1,(13:Int),x_.2.2.2.2))) (fun r_=>k_ 0 (Shape.inj jh.c269649x1 x_)))
def jh.c27 {ρ:Type} (bits:Int) (i_1:Int) (o5:List (Int)) (k_:Bool→Option ρ):Option ρ:=
  bnd (idx o5 i_1) fun y=>
  br (y == (0:Int))
   (k_ true)
   (bnd (idx o5 i_1) fun y_1=>
    br (decide (y_1 > bits))
     (k_ true)
     (bnd (idx o5 i_1) fun y_2=>
      k_ (decide (y_2 < IntKind.i64.wrap ((0:Int) - bits)))))
def jh.c27s:Shape:=⟨[(0,ct12),(1,ct2),(2,ct2),(3,ct7),(6,ct2),(7,ct11),(8,ct2),(9,ct2)],[(3,ct14)]⟩
def jh.c27x0:Shape:=⟨[(0,ct12),(1,ct2),(2,ct2),(3,ct7),(6,ct2),(7,ct11),(8,ct2),(9,ct2),(173,ct11)],[(3,ct14)]⟩
def jh.c27r:Ck:=Ck.of (T:=Bool) jh.c27s (fun ρ x_ k_=>jh.c27 x_.2.2.1 x_.2.2.2.2.2.2.1 x_.2.2.2.2.2.2.2.2.2.2.2.2.1 k_) (fun ρ x_ r_ k_=>k_ 0 (Shape.inj jh.c27x0 (x_.1,x_.2.1,x_.2.2.1,x_.2.2.2.1,x_.2.2.2.2.1,x_.2.2.2.2.2.1,x_.2.2.2.2.2.2.1,r_,x_.2.2.2.2.2.2.2)))
def jh.c100025 {ρ:Type} (bits:Int) (i_1:Int) (o5:List (Int)) (k_:(Int)⊕((Int)⊕(Int))→Option ρ):Option ρ:=
  br (decide (i_1 < (↑(List.length o5):Int)))
   (bnd (W.jh.c27 bits i_1 o5 some) fun y=>
    br y
     (k_ (.inr (.inl i_1)))
     (k_ (.inl (IntKind.i64.wrap (i_1+(1:Int))))))
   (k_ (.inr (.inr i_1)))
def jh.c100025s:Shape:=jh.c27s
def jh.c100025x0:Shape:=jh.c27s
def jh.c100025x1:Shape:=jh.c27s
def jh.c100025r:Ck:=Ck.ofLoop (S:=Int) (T:=(Int)⊕(Int)) jh.c100025s (fun x_=>x_.2.2.2.2.2.2.1) (fun ρ x_ s_ k_=>jh.c100025 x_.2.2.1 s_ x_.2.2.2.2.2.2.2.2.2.2.2.2.1 k_) (fun ρ x_ r_ k_=>sel r_ (fun r_=>k_ 1 (Shape.inj jh.c100025x0 (x_.1,x_.2.1,x_.2.2.1,(14:Int),x_.2.2.2.2.1,x_.2.2.2.2.2.1,r_,x_.2.2.2.2.2.2.2))) (fun r_=>k_ 4 (Shape.inj jh.c100025x1 (x_.1,x_.2.1,x_.2.2.1,x_.2.2.2.1,x_.2.2.2.2.1,x_.2.2.2.2.2.1,r_,x_.2.2.2.2.2.2.2))))
def jh (o:(Int)×((Int)×((List Int)×((Int)×((Int)×(List Int)))))) (qubits:Int) (bits:Int):Option (Int):=
  bnd (W.jh.c1 o.1 some) fun y=>
  br y
   (some (8:Int))
   (bnd (W.jh.c3 o.1 some) fun y_1=>
    bnd (W.jh.c4 y_1 o.2.1 some) fun y_2=>
    br y_2
     (some (9:Int))
     (bnd (W.jh.c6 qubits o.1 o.2.2.2.1 some) fun y_3=>
      br y_3
       (some (10:Int))
       (bnd (W.jh.c8 o.1 o.2.2.1 some) fun y_4=>
        br y_4
         (some (11:Int))
         (bnd (iter (fun s↦W.jh.c100011 qubits s o.2.2.1 o.2.2.2.1 some) (0:Int)) fun y_5=>
          sel y_5
           (fun u=>some u.1)
           (fun v=>bnd (W.jh.c269649 bits o.1 o.2.2.2.2.1 some) fun y_6=>
            sel y_6
             (fun u_1=>some (13:Int))
             (fun v_1=>br (decide ((↑(List.length o.2.2.2.2.2):Int) > (24:Int)))
               (some (14:Int))
               (bnd (iter (fun s↦W.jh.c100025 bits s o.2.2.2.2.2 some) (0:Int)) fun y_7=>
                sel y_7
                 (fun u_2=>some (14:Int))
                 (fun v_2=>some (0:Int)))))))))
def jh.ce:Go.Ql.Callee:=⟨[(.st (.pair (.int .i64) (.pair (.int .i64) (.pair (.sl (.int .i64)) (.pair (.int .i64) (.pair (.int .i64) (.sl (.int .i64)))))))),(.int .i64),(.int .i64)],[(.int .i64)],fun x_=>jh x_.1 x_.2.1 x_.2.2⟩
def jh.G:Env:=⟨174,tab,[(52,Jv.ce)],[0,1,2,3,6,7,8,9,17,42,61,80,85,102,122,125,134,137,141,146,173],[],[(15,[⟨[],[],[105,108,109],[]⟩,⟨[0],[],[105,108,109],[]⟩,⟨[],[],[103,104,108,109],[]⟩,⟨[1,0,2],[],[108,109],[]⟩,⟨[3,1,0,2],[],[108,109],[]⟩,⟨[],[],[103,104,105,106,107],[]⟩,⟨[5],[],[103,104,105,106,107],[]⟩,⟨[4,3,1,0,2,6,5],[],[],[]⟩,⟨[7,4,3,1,0,2,6,5],[],[],[]⟩,⟨[8,7,4,3,1,0,2,6,5],[],[114,116,117,118,119,120],[]⟩,⟨[9,8,7,4,3,1,0,2,6,5],[],[114,116,117,118,119,120],[]⟩,⟨[8,7,4,3,1,0,2,6,5],[],[112,113,116,117,118,119,120],[]⟩,⟨[10,9,8,7,4,3,1,0,2,6,5,11],[],[116,117,118,119,120],[]⟩,⟨[8,7,4,3,1,0,2,6,5],[],[112,113,114,115,118],[]⟩,⟨[13,8,7,4,3,1,0,2,6,5],[],[112,113,114,115,118],[]⟩,⟨[8,7,4,3,1,0,2,6,5],[],[112,113,114,115,116,117],[]⟩,⟨[14,13,8,7,4,3,1,0,2,6,5,15],[],[112,113,114,115],[]⟩,⟨[16,14,13,8,7,4,3,1,0,2,6,5,15],[],[112,113,114,115],[]⟩,⟨[12,10,9,8,7,4,3,1,0,2,6,5,11,17,16,14,13,15],[],[],[]⟩,⟨[8,7,4,3,1,0,2,6,5,18,12,10,9,11,17,16,14,13,15],[],[],[]⟩])],[(100025,jh.c100025r),(27,jh.c27r),(269649,jh.c269649r),(18,jh.c18r),(100011,jh.c100011r),(15,jh.c15r),(13,jh.c13r),(8,jh.c8r),(6,jh.c6r),(4,jh.c4r),(3,jh.c3r),(1,jh.c1r)],[],Jf,[]⟩
theorem jh.eq (x_:dens jh.ce.params):den jh.G Tryd.f43 jh.ce.params jh.ce.res x_=jh.ce.F x_:=by kernel_rfl
theorem jh.p0:PcA jh.G Tryd.f43 0:=
  jG (s:=jh.c1r) (by kernel_rfl) (by kernel_rfl) (jF (sh:=jh.c1s) (fun ρ x_ k_=>(jw jc jc)) (fun ρ x_ t k=>(by kernel_rfl)) (fun x_=>by kernel_rfl))
theorem jh.p1:PcA jh.G Tryd.f43 1:=
  jG (s:=jh.c3r) (by kernel_rfl) (by kernel_rfl) (jF (sh:=jh.c3s) (fun ρ x_ k_=>(jw jc jc)) (fun ρ x_ t k=>(by kernel_rfl)) (fun x_=>by kernel_rfl))
theorem jh.p2:PcA jh.G Tryd.f43 2:=
  jG (s:=jh.c4r) (by kernel_rfl) (by kernel_rfl) (jF (sh:=jh.c4s) (fun ρ x_ k_=>(jw jc (jw jc (jw jc jc)))) (fun ρ x_ t k=>(by kernel_rfl)) (fun x_=>by kernel_rfl))
theorem jh.p3:PcA jh.G Tryd.f43 3:=
  jG (s:=jh.c6r) (by kernel_rfl) (by kernel_rfl) (jF (sh:=jh.c6s) (fun ρ x_ k_=>(jw jc (jw jc (jw jc jc)))) (fun ρ x_ t k=>(by kernel_rfl)) (fun x_=>by kernel_rfl))
theorem jh.p4:PcA jh.G Tryd.f43 4:=
  jG (s:=jh.c8r) (by kernel_rfl) (by kernel_rfl) (jF (sh:=jh.c8s) (fun ρ x_ k_=>(jw (jw (jw jc jc) jc) jc)) (fun ρ x_ t k=>(by kernel_rfl)) (fun x_=>by kernel_rfl))
theorem jh.p5:PcA jh.G Tryd.f43 5:=
  JA (s:=jh.c100011r) (by kernel_rfl) (by kernel_rfl) (Jt (sh:=jh.c100011s) (I:=fun x_ s_=>(x_.1,x_.2.1,x_.2.2.1,x_.2.2.2.1,x_.2.2.2.2.1,s_,x_.2.2.2.2.2.2)) (fun x_=>rfl) (fun ρ x_ s_ k_=>(jw (je fun _=>(jw jc (je fun _=>(jw jc jc)))) jc)) (fun ρ x_ t k=>(kB (fun _=>(by kernel_rfl)) (fun _=>(by kernel_rfl)))) (fun x_ s=>by kernel_rfl))
theorem jh.p6:PcA jh.G Tryd.f43 6:=
  jG (s:=jh.c13r) (by kernel_rfl) (by kernel_rfl) (jF (sh:=jh.c13s) (fun ρ x_ k_=>(je fun _=>(jw jc (je fun _=>jc)))) (fun ρ x_ t k=>(by kernel_rfl)) (fun x_=>by kernel_rfl))
theorem jh.p7:PcA jh.G Tryd.f43 7:=
  jG (s:=jh.c15r) (by kernel_rfl) (by kernel_rfl) (jF (sh:=jh.c15s) (fun ρ x_ k_=>(je fun _=>(jw jc (je fun _=>(je fun _=>(je fun _=>jc)))))) (fun ρ x_ t k=>(by kernel_rfl)) (fun x_=>by kernel_rfl))
theorem jh.p8:PcA jh.G Tryd.f43 8:=
  kn (s:=jh.c269649r) (by kernel_rfl) (by kernel_rfl) (jF (sh:=jh.c269649s) (fun ρ x_ k_=>(jw (je fun _=>(jw jc jc)) (jw jc jc))) (fun ρ x_ t k=>(kB (fun _=>(by kernel_rfl)) (fun _=>(by kernel_rfl)))) (fun x_=>by kernel_rfl))
theorem jh.p9:PcA jh.G Tryd.f43 9:=
  jG (s:=jh.c18r) (by kernel_rfl) (by kernel_rfl) (jF (sh:=jh.c18s) (fun ρ x_ k_=>(jw jc jc)) (fun ρ x_ t k=>(by kernel_rfl)) (fun x_=>by kernel_rfl))
theorem jh.p10:PcA jh.G Tryd.f43 10:=
  JA (s:=jh.c100025r) (by kernel_rfl) (by kernel_rfl) (Jt (sh:=jh.c100025s) (I:=fun x_ s_=>(x_.1,x_.2.1,x_.2.2.1,x_.2.2.2.1,x_.2.2.2.2.1,x_.2.2.2.2.2.1,s_,x_.2.2.2.2.2.2.2)) (fun x_=>rfl) (fun ρ x_ s_ k_=>(jw (je fun _=>(jw jc jc)) jc)) (fun ρ x_ t k=>(kB (fun _=>(by kernel_rfl)) (fun _=>(by kernel_rfl)))) (fun x_ s=>by kernel_rfl))
theorem jh.p11:PcA jh.G Tryd.f43 11:=
  jG (s:=jh.c27r) (by kernel_rfl) (by kernel_rfl) (jF (sh:=jh.c27s) (fun ρ x_ k_=>(je fun _=>(jw jc (je fun _=>(jw jc (je fun _=>jc)))))) (fun ρ x_ t k=>(by kernel_rfl)) (fun x_=>by kernel_rfl))
theorem jh.ok:CalleeOk Tryd.prog 43 jh.ce:=fn_ok (G:=jh.G) Js mixed Tryd.func43 ⟨(Ja Jv.ok Je),jU,jO,jT⟩ (m:=12) (by kernel_rfl) ⟨⟨⟨⟨⟨⟨⟨⟨⟨⟨⟨⟨trivial,jh.p0⟩,jh.p1⟩,jh.p2⟩,jh.p3⟩,jh.p4⟩,jh.p5⟩,jh.p6⟩,jh.p7⟩,jh.p8⟩,jh.p9⟩,jh.p10⟩,jh.p11⟩ (by kernel_rfl) jh.eq
def jL.c1 {ρ:Type} (c0:Int) (k_:Bool→Option ρ):Option ρ:=
  br (decide (c0 < (1:Int)))
   (k_ true)
   (k_ (decide (c0 > (12:Int))))
def jL.c1s:Shape:=⟨[(0,ct4),(1,ct5),(2,ct6)],[(1,ct8),(2,ct17)]⟩
def jL.c1x0:Shape:=⟨[(0,ct4),(1,ct5),(2,ct6),(12,ct11)],[(1,ct8),(2,ct17)]⟩
def jL.c1r:Ck:=Ck.of (T:=Bool) jL.c1s (fun ρ x_ k_=>jL.c1 x_.2.1 k_) (fun ρ x_ r_ k_=>k_ 0 (Shape.inj jL.c1x0 (x_.1,r_,x_.2)))
def jL.c3 {ρ:Type} (c1:Int) (k_:Bool→Option ρ):Option ρ:=
  br (decide (c1 < (0:Int)))
   (k_ true)
   (k_ (decide (c1 > (12:Int))))
def jL.c3s:Shape:=jL.c1s
def jL.c3x0:Shape:=⟨[(0,ct4),(1,ct5),(2,ct6),(21,ct11)],[(1,ct8),(2,ct17)]⟩
def jL.c3r:Ck:=Ck.of (T:=Bool) jL.c3s (fun ρ x_ k_=>jL.c3 x_.2.2.1 k_) (fun ρ x_ r_ k_=>k_ 0 (Shape.inj jL.c3x0 (x_.1,r_,x_.2)))
def jL.c10 {ρ:Type} (i:Int) (c0:Int) (c1:Int) (c2:List ((Int)×((Int)×((List Int)×((Int)×((Int)×(List Int))))))) (k_:Int→Option ρ):Option ρ:=
  bnd (idx c2 i) fun y=>
  bnd (W.jh y c0 c1) fun y_1=>
  k_ y_1
def jL.c10s:Shape:=⟨[(0,ct4),(1,ct5),(2,ct6),(3,ct2)],[(1,ct8),(2,ct17)]⟩
def jL.c10x0:Shape:=⟨[(0,ct4),(1,ct5),(2,ct6),(3,ct2),(4,ct2)],[(1,ct8),(2,ct17)]⟩
def jL.c10r:Ck:=Ck.of (T:=Int) jL.c10s (fun ρ x_ k_=>jL.c10 x_.2.1 x_.2.2.1 x_.2.2.2.1 x_.2.2.2.2.1 k_) (fun ρ x_ r_ k_=>k_ 0 (Shape.inj jL.c10x0 (x_.1,x_.2.1,r_,x_.2.2)))
def jL.c100008 {ρ:Type} (i:Int) (c0:Int) (c1:Int) (c2:List ((Int)×((Int)×((List Int)×((Int)×((Int)×(List Int))))))) (k_:(Int)⊕(((Int)×(Int)×(Int))⊕(Int))→Option ρ):Option ρ:=
  br (decide (i < (↑(List.length c2):Int)))
   (bnd (W.jL.c10 i c0 c1 c2 some) fun y=>
    br (y != (0:Int))
     (bnd (W.JE y i) fun y_1=>
      k_ (.inr (.inl (i,y_1.1,y_1.2))))
     (k_ (.inl (IntKind.i64.wrap (i+(1:Int))))))
   (k_ (.inr (.inr i)))
def jL.c100008s:Shape:=jL.c10s
def jL.c100008x0:Shape:=jL.c10s
def jL.c100008x1:Shape:=jL.c10s
def jL.c100008r:Ck:=Ck.ofLoop (S:=Int) (T:=((Int)×(Int)×(Int))⊕(Int)) jL.c100008s (fun x_=>x_.2.1) (fun ρ x_ s_ k_=>jL.c100008 s_ x_.2.2.1 x_.2.2.2.1 x_.2.2.2.2.1 k_) (fun ρ x_ r_ k_=>sel r_ (fun r_=>k_ 1 (Shape.inj jL.c100008x0 (x_.1,r_.1,x_.2.2.1,x_.2.2.2.1,x_.2.2.2.2.1,r_.2.1,r_.2.2,()))) (fun r_=>k_ 2 (Shape.inj jL.c100008x1 (x_.1,r_,x_.2.2))))
def jL (c:(Int)×((Int)×(List ((Int)×((Int)×((List Int)×((Int)×((Int)×(List Int))))))))):Option ((Int)×(Int)):=
  bnd (W.jL.c1 c.1 some) fun y=>
  br y
   (bnd (W.JE (6:Int) (0:Int)) fun y_1=>
    some (y_1.1,y_1.2))
   (bnd (W.jL.c3 c.2.1 some) fun y_2=>
    br y_2
     (bnd (W.JE (7:Int) (0:Int)) fun y_3=>
      some (y_3.1,y_3.2))
     (br (decide ((↑(List.length c.2.2):Int) > (4096:Int)))
       (bnd (W.JE (2:Int) (0:Int)) fun y_4=>
        some (y_4.1,y_4.2))
       (bnd (iter (fun s↦W.jL.c100008 s c.1 c.2.1 c.2.2 some) (0:Int)) fun y_5=>
        sel y_5
         (fun u=>some (u.2.1,u.2.2))
         (fun v=>some ((0:Int),(0:Int))))))
def jL.ce:Go.Ql.Callee:=⟨[(.st (.pair (.int .i64) (.pair (.int .i64) (.sl (.st (.pair (.int .i64) (.pair (.int .i64) (.pair (.sl (.int .i64)) (.pair (.int .i64) (.pair (.int .i64) (.sl (.int .i64))))))))))))],[(.st (.pair (.int .i64) (.int .i64)))],fun x_=>jL x_⟩
def jL.G:Env:=⟨51,tab,[(42,JE.ce),(43,jh.ce)],[0,1,2,3,4,12,21,26,32,46],[],[(10,[⟨[],[],[37,40,41,42,43],[]⟩,⟨[0],[],[37,40,41,42,43],[]⟩,⟨[],[],[35,36,40,41,42,43],[]⟩,⟨[1,0,2],[],[40,41,42,43],[]⟩,⟨[3,1,0,2],[],[40,41,42,43],[]⟩,⟨[],[],[35,36,37,38,39,42,43],[]⟩,⟨[5],[],[35,36,37,38,39,42,43],[]⟩,⟨[],[],[35,36,37,38,39,40,41],[]⟩,⟨[7],[],[35,36,37,38,39,40,41],[]⟩,⟨[4,3,1,0,2,6,5,8,7],[],[],[]⟩,⟨[9,4,3,1,0,2,6,5,8,7],[],[],[]⟩])],[(100008,jL.c100008r),(10,jL.c10r),(3,jL.c3r),(1,jL.c1r)],[],Jf,[]⟩
theorem jL.eq (x_:dens jL.ce.params):den jL.G Tryd.f15 jL.ce.params jL.ce.res x_=jL.ce.F x_:=by kernel_rfl
theorem jL.p0:PcA jL.G Tryd.f15 0:=
  jG (s:=jL.c1r) (by kernel_rfl) (by kernel_rfl) (jF (sh:=jL.c1s) (fun ρ x_ k_=>(jw jc jc)) (fun ρ x_ t k=>(by kernel_rfl)) (fun x_=>by kernel_rfl))
theorem jL.p1:PcA jL.G Tryd.f15 1:=
  jG (s:=jL.c3r) (by kernel_rfl) (by kernel_rfl) (jF (sh:=jL.c3s) (fun ρ x_ k_=>(jw jc jc)) (fun ρ x_ t k=>(by kernel_rfl)) (fun x_=>by kernel_rfl))
theorem jL.p2:PcA jL.G Tryd.f15 2:=
  JA (s:=jL.c100008r) (by kernel_rfl) (by kernel_rfl) (Jt (sh:=jL.c100008s) (I:=fun x_ s_=>(x_.1,s_,x_.2.2)) (fun x_=>rfl) (fun ρ x_ s_ k_=>(jw (je fun _=>(jw (je fun _=>jc) jc)) jc)) (fun ρ x_ t k=>(kB (fun _=>(by kernel_rfl)) (fun _=>(by kernel_rfl)))) (fun x_ s=>by kernel_rfl))
theorem jL.p3:PcA jL.G Tryd.f15 3:=
  jG (s:=jL.c10r) (by kernel_rfl) (by kernel_rfl) (jF (sh:=jL.c10s) (fun ρ x_ k_=>(je fun _=>(je fun _=>jc))) (fun ρ x_ t k=>(by kernel_rfl)) (fun x_=>by kernel_rfl))
theorem jL.ok:CalleeOk Tryd.prog 15 jL.ce:=fn_ok (G:=jL.G) Js mixed Tryd.func15 ⟨(Ja JE.ok (Ja jh.ok Je)),jU,jO,jT⟩ (m:=4) (by kernel_rfl) ⟨⟨⟨⟨trivial,jL.p0⟩,jL.p1⟩,jL.p2⟩,jL.p3⟩ (by kernel_rfl) jL.eq
def Jo.c7 {ρ:Type} (i:Int) (c2:List ((Int)×((Int)×((List Int)×((Int)×((Int)×(List Int))))))) (k_:Bool→Option ρ):Option ρ:=
  bnd (idx c2 i) fun y=>
  br (decide (y.1≥(5:Int)))
   (k_ true)
   (bnd (idx c2 i) fun y_1=>
    k_ (decide ((↑(List.length y_1.2.2.2.2.2):Int) > (0:Int))))
def Jo.c7s:Shape:=⟨[(0,ct4),(1,ct5),(2,ct6),(3,ct7),(4,ct2)],[(1,ct8),(2,ct17),(3,ct17)]⟩
def Jo.c7x0:Shape:=⟨[(0,ct4),(1,ct5),(2,ct6),(3,ct7),(4,ct2),(34,ct11)],[(1,ct8),(2,ct17),(3,ct17)]⟩
def Jo.c7r:Ck:=Ck.of (T:=Bool) Jo.c7s (fun ρ x_ k_=>Jo.c7 x_.2.1 x_.2.2.2.2.1 k_) (fun ρ x_ r_ k_=>k_ 0 (Shape.inj Jo.c7x0 (x_.1,x_.2.1,r_,x_.2.2)))
def Jo.c100005 {ρ:Type} (i:Int) (c2:List ((Int)×((Int)×((List Int)×((Int)×((Int)×(List Int))))))) (k_:(Int)⊕(((Int)×(Int)×(Int))⊕(Int))→Option ρ):Option ρ:=
  br (decide (i < (↑(List.length c2):Int)))
   (bnd (W.Jo.c7 i c2 some) fun y=>
    br y
     (bnd (W.JE (15:Int) i) fun y_1=>
      k_ (.inr (.inl (i,y_1.1,y_1.2))))
     (k_ (.inl (IntKind.i64.wrap (i+(1:Int))))))
   (k_ (.inr (.inr i)))
def Jo.c100005s:Shape:=Jo.c7s
def Jo.c100005x0:Shape:=Jo.c7s
def Jo.c100005x1:Shape:=Jo.c7s
def Jo.c100005r:Ck:=Ck.ofLoop (S:=Int) (T:=((Int)×(Int)×(Int))⊕(Int)) Jo.c100005s (fun x_=>x_.2.1) (fun ρ x_ s_ k_=>Jo.c100005 s_ x_.2.2.2.2.1 k_) (fun ρ x_ r_ k_=>sel r_ (fun r_=>k_ 1 (Shape.inj Jo.c100005x0 (x_.1,r_.1,x_.2.2.1,x_.2.2.2.1,x_.2.2.2.2.1,r_.2.1,r_.2.2,x_.2.2.2.2.2.2.2))) (fun r_=>k_ 2 (Shape.inj Jo.c100005x1 (x_.1,r_,x_.2.2))))
def Jo (c:(Int)×((Int)×(List ((Int)×((Int)×((List Int)×((Int)×((Int)×(List Int))))))))):Option ((Int)×(Int)):=
  bnd (W.jL (c.1,c.2.1,c.2.2)) fun y=>
  br (y.1 != (0:Int))
   (some (y.1,y.2))
   (bnd (iter (fun s↦W.Jo.c100005 s c.2.2 some) (0:Int)) fun y_1=>
    sel y_1
     (fun u=>some (u.2.1,u.2.2))
     (fun v=>some (y.1,y.2)))
def Jo.ce:Go.Ql.Callee:=⟨[(.st (.pair (.int .i64) (.pair (.int .i64) (.sl (.st (.pair (.int .i64) (.pair (.int .i64) (.pair (.sl (.int .i64)) (.pair (.int .i64) (.pair (.int .i64) (.sl (.int .i64))))))))))))],[(.st (.pair (.int .i64) (.int .i64)))],fun x_=>Jo x_⟩
def Jo.G:Env:=⟨38,tab,[(15,jL.ce),(42,JE.ce)],[0,1,2,3,4,9,15,34],[],[],[(100005,Jo.c100005r),(7,Jo.c7r)],[],Jf,[]⟩
theorem Jo.eq (x_:dens Jo.ce.params):den Jo.G Tryd.f17 Jo.ce.params Jo.ce.res x_=Jo.ce.F x_:=by kernel_rfl
theorem Jo.p0:PcA Jo.G Tryd.f17 0:=
  JA (s:=Jo.c100005r) (by kernel_rfl) (by kernel_rfl) (Jt (sh:=Jo.c100005s) (I:=fun x_ s_=>(x_.1,s_,x_.2.2)) (fun x_=>rfl) (fun ρ x_ s_ k_=>(jw (je fun _=>(jw (je fun _=>jc) jc)) jc)) (fun ρ x_ t k=>(kB (fun _=>(by kernel_rfl)) (fun _=>(by kernel_rfl)))) (fun x_ s=>by kernel_rfl))
theorem Jo.p1:PcA Jo.G Tryd.f17 1:=
  jG (s:=Jo.c7r) (by kernel_rfl) (by kernel_rfl) (jF (sh:=Jo.c7s) (fun ρ x_ k_=>(je fun _=>(jw jc (je fun _=>jc)))) (fun ρ x_ t k=>(by kernel_rfl)) (fun x_=>by kernel_rfl))
theorem Jo.ok:CalleeOk Tryd.prog 17 Jo.ce:=fn_ok (G:=Jo.G) Js mixed Tryd.func17 ⟨(Ja jL.ok (Ja JE.ok Je)),jU,jO,jT⟩ (m:=2) (by kernel_rfl) ⟨⟨trivial,Jo.p0⟩,Jo.p1⟩ (by kernel_rfl) Jo.eq
def jE.c3 {ρ:Type}  (k_:Unit→Option ρ):Option ρ:=
  k_ ()
def jE.c3s:Shape:=⟨[(0,ct4),(1,ct5),(2,ct6),(3,ct7),(4,ct23)],[(1,ct8),(2,ct8),(3,ct17),(4,ct17)]⟩
def jE.c3x0:Shape:=jE.c3s
def jE.c3r:Ck:=Ck.of (T:=Unit) jE.c3s (fun ρ x_ k_=>jE.c3  k_) (fun ρ x_ r_ k_=>k_ 0 (Shape.inj jE.c3x0 (x_.1,x_.2.1,x_.2.2.1,x_.2.2.2.1,(0:Int),(0:Int),[],x_.2.2.2.2.2.2.2.2.2.1,x_.2.2.2.2.2.2.2.2.2.2.1,x_.2.2.2.2.2.2.2.2.2)))
def jE.c236869 {ρ:Type} (o1:Int) (k_:Int→Option ρ):Option ρ:=
  br (decide (o1 > (0:Int)))
   (k_ (IntKind.i64.wrap ((16:Int) - o1)))
   (k_ o1)
def jE.c236869s:Shape:=⟨[(0,ct4),(1,ct5),(2,ct6),(3,ct7),(4,ct23),(5,ct19),(6,ct2),(7,ct24)],[(1,ct8),(2,ct8),(3,ct17),(4,ct17),(5,ct26),(7,ct14),(3005,ct10)]⟩
def jE.c236869x0:Shape:=jE.c236869s
def jE.c236869r:Ck:=Ck.of (T:=Int) jE.c236869s (fun ρ x_ k_=>jE.c236869 x_.2.2.2.2.2.2.2.2.2.2.2.2.2.2.2.1 k_) (fun ρ x_ r_ k_=>k_ 0 (Shape.inj jE.c236869x0 (x_.1,x_.2.1,x_.2.2.1,x_.2.2.2.1,x_.2.2.2.2.1,x_.2.2.2.2.2.1,x_.2.2.2.2.2.2.1,x_.2.2.2.2.2.2.2.1,x_.2.2.2.2.2.2.2.2.1,x_.2.2.2.2.2.2.2.2.2.1,x_.2.2.2.2.2.2.2.2.2.2.1,x_.2.2.2.2.2.2.2.2.2.2.2.1,x_.2.2.2.2.2.2.2.2.2.2.2.2.1,x_.2.2.2.2.2.2.2.2.2.2.2.2.2.1,x_.2.2.2.2.2.2.2.2.2.2.2.2.2.2.1,r_,x_.2.2.2.2.2.2.2.2.2.2.2.2.2.2.2.2)))
def jE.c100006 {ρ:Type} (i:Int) (c2:List ((Int)×((Int)×((List Int)×((Int)×((Int)×(List Int))))))) (t3005:List ((Int)×((Int)×((List Int)×((Int)×((Int)×(List Int))))))) (k_:((Int)×(List ((Int)×((Int)×((List Int)×((Int)×((Int)×(List Int))))))))⊕((Int)×(List ((Int)×((Int)×((List Int)×((Int)×((Int)×(List Int))))))))→Option ρ):Option ρ:=
  br (decide (i≥(0:Int)))
   (bnd (idx c2 i) fun y=>
    bnd (W.JX y) fun y_1=>
    bnd (W.jE.c236869 y_1.2.1 some) fun y_2=>
    bnd (okIf (decide ((List.length t3005+(1:Nat))*(80:Nat)≤(140737488355328:Nat)) && decide (List.length t3005+(1:Nat)≤(140737488355328:Nat)))) fun y_3=>
    k_ (.inl ((IntKind.i64.wrap (i - (1:Int))),(t3005++[(y_1.1,y_2,y_1.2.2.1,y_1.2.2.2.1,y_1.2.2.2.2.1,y_1.2.2.2.2.2)]))))
   (k_ (.inr (i,t3005)))
def jE.c100006s:Shape:=⟨[(0,ct4),(1,ct5),(2,ct6),(3,ct7),(4,ct23),(5,ct19),(6,ct2)],[(1,ct8),(2,ct8),(3,ct17),(4,ct17),(5,ct26),(3005,ct10)]⟩
def jE.c100006x0:Shape:=jE.c100006s
def jE.c100006r:Ck:=Ck.ofLoop (S:=(Int)×(List ((Int)×((Int)×((List Int)×((Int)×((Int)×(List Int)))))))) (T:=(Int)×(List ((Int)×((Int)×((List Int)×((Int)×((Int)×(List Int)))))))) jE.c100006s (fun x_=>(x_.2.1,x_.2.2.2.2.2.2.2.2.2.2.2.2.2.2.1)) (fun ρ x_ s_ k_=>jE.c100006 s_.1 x_.2.2.2.2.1 s_.2 k_) (fun ρ x_ r_ k_=>k_ 2 (Shape.inj jE.c100006x0 (x_.1,r_.1,x_.2.2.1,x_.2.2.2.1,x_.2.2.2.2.1,x_.2.2.2.2.2.1,x_.2.2.2.2.2.2.1,x_.2.2.2.2.2.2.2.1,x_.2.2.2.2.2.2.2.2.1,x_.2.2.2.2.2.2.2.2.2.1,x_.2.2.2.2.2.2.2.2.2.2.1,x_.2.2.2.2.2.2.2.2.2.2.2.1,x_.2.2.2.2.2.2.2.2.2.2.2.2.1,x_.2.2.2.2.2.2.2.2.2.2.2.2.2.1,r_.2,())))
def jE.c12 {ρ:Type}  (k_:Unit→Option ρ):Option ρ:=
  k_ ()
def jE.c12s:Shape:=jE.c100006s
def jE.c12x0:Shape:=⟨[(0,ct4),(1,ct5),(2,ct6),(3,ct7),(4,ct23),(5,ct19),(6,ct2)],[(1,ct8),(2,ct26),(3,ct17),(4,ct17),(5,ct26),(3005,ct10)]⟩
def jE.c12r:Ck:=Ck.of (T:=Unit) jE.c12s (fun ρ x_ k_=>jE.c12  k_) (fun ρ x_ r_ k_=>k_ 0 (Shape.inj jE.c12x0 (x_.1,x_.2.1,x_.2.2.1,x_.2.2.2.1,x_.2.2.2.2.1,x_.2.2.2.2.2.2.2.2.2.2.2.2.1,x_.2.2.2.2.2.2.2.2.2.2.2.2.2.1,x_.2.2.2.2.2.2.2.2.2.2.1,x_.2.2.2.2.2.2.2.2.2.2.2.1,x_.2.2.2.2.2.2.2.2.2.2)))
def jE (c:(Int)×((Int)×(List ((Int)×((Int)×((List Int)×((Int)×((Int)×(List Int))))))))):Option (((Int)×((Int)×(List ((Int)×((Int)×((List Int)×((Int)×((Int)×(List Int)))))))))×((Int)×(Int))):=
  bnd (W.Jo (c.1,c.2.1,c.2.2)) fun y=>
  br (y.1 != (0:Int))
   (bnd (W.jE.c3 some) fun y_1=>
    some (((0:Int),(0:Int),[]),y.1,y.2))
   (bnd (iter (fun s↦W.jE.c100006 s.1 c.2.2 s.2 some) (IntKind.i64.wrap ((↑(List.length c.2.2):Int) - (1:Int)),[])) fun y_2=>
    bnd (W.jE.c12 some) fun y_3=>
    some ((c.1,c.2.1,y_2.2),y.1,y.2))
def jE.ce:Go.Ql.Callee:=⟨[(.st (.pair (.int .i64) (.pair (.int .i64) (.sl (.st (.pair (.int .i64) (.pair (.int .i64) (.pair (.sl (.int .i64)) (.pair (.int .i64) (.pair (.int .i64) (.sl (.int .i64))))))))))))],[(.st (.pair (.int .i64) (.pair (.int .i64) (.sl (.st (.pair (.int .i64) (.pair (.int .i64) (.pair (.sl (.int .i64)) (.pair (.int .i64) (.pair (.int .i64) (.sl (.int .i64)))))))))))),(.st (.pair (.int .i64) (.int .i64)))],fun x_=>jE x_⟩
def jE.G:Env:=⟨49,tab,[(17,Jo.ce),(37,JX.ce)],[0,1,2,3,4,5,6,7,12,25,36],[1,5,19,3001,3005],[(12,[⟨[],[],[48],[]⟩,⟨[],[],[47],[2]⟩,⟨[0],[2],[48],[]⟩,⟨[1,2,0],[3],[],[]⟩]),
  (3,[⟨[],[],[14],[]⟩,⟨[],[],[13],[2]⟩,⟨[0],[2],[14],[]⟩,⟨[1,2,0],[3],[],[]⟩])],[(12,jE.c12r),(100006,jE.c100006r),(236869,jE.c236869r),(3,jE.c3r)],[],Jf,[]⟩
theorem jE.eq (x_:dens jE.ce.params):den jE.G Tryd.f24 jE.ce.params jE.ce.res x_=jE.ce.F x_:=by kernel_rfl
theorem jE.p0:PcA jE.G Tryd.f24 0:=
  jG (s:=jE.c3r) (by kernel_rfl) (by kernel_rfl) (jF (sh:=jE.c3s) (fun ρ x_ k_=>jc) (fun ρ x_ t k=>(by kernel_rfl)) (fun x_=>by kernel_rfl))
theorem jE.p1:PcA jE.G Tryd.f24 1:=
  JA (s:=jE.c100006r) (by kernel_rfl) (by kernel_rfl) (Jt (sh:=jE.c100006s) (I:=fun x_ s_=>(x_.1,s_.1,x_.2.2.1,x_.2.2.2.1,x_.2.2.2.2.1,x_.2.2.2.2.2.1,x_.2.2.2.2.2.2.1,x_.2.2.2.2.2.2.2.1,x_.2.2.2.2.2.2.2.2.1,x_.2.2.2.2.2.2.2.2.2.1,x_.2.2.2.2.2.2.2.2.2.2.1,x_.2.2.2.2.2.2.2.2.2.2.2.1,x_.2.2.2.2.2.2.2.2.2.2.2.2.1,x_.2.2.2.2.2.2.2.2.2.2.2.2.2.1,s_.2,())) (fun x_=>rfl) (fun ρ x_ s_ k_=>(jw (je fun _=>(je fun _=>(je fun _=>(je fun _=>jc)))) jc)) (fun ρ x_ t k=>(by kernel_rfl)) (fun x_ s=>by kernel_rfl))
theorem jE.p2:PcA jE.G Tryd.f24 2:=
  kn (s:=jE.c236869r) (by kernel_rfl) (by kernel_rfl) (jF (sh:=jE.c236869s) (fun ρ x_ k_=>(jw jc jc)) (fun ρ x_ t k=>(by kernel_rfl)) (fun x_=>by kernel_rfl))
theorem jE.p3:PcA jE.G Tryd.f24 3:=
  jG (s:=jE.c12r) (by kernel_rfl) (by kernel_rfl) (jF (sh:=jE.c12s) (fun ρ x_ k_=>jc) (fun ρ x_ t k=>(by kernel_rfl)) (fun x_=>by kernel_rfl))
theorem jE.ok:CalleeOk Tryd.prog 24 jE.ce:=fn_ok (G:=jE.G) Js mixed Tryd.func24 ⟨(Ja Jo.ok (Ja JX.ok Je)),jU,jO,jT⟩ (m:=4) (by kernel_rfl) ⟨⟨⟨⟨trivial,jE.p0⟩,jE.p1⟩,jE.p2⟩,jE.p3⟩ (by kernel_rfl) jE.eq
def ki  : Option ((Int)×((Int)×(List ((Int)×((Int)×((List Int)×((Int)×((Int)×(List Int))))))))):=
  some ((2:Int),(1:Int),[((3:Int),(0:Int),[],(0:Int),(0:Int),[]),((2:Int),(0:Int),[(0:Int)],(1:Int),(0:Int),[]),((5:Int),(0:Int),[],(1:Int),(0:Int),[(-1:Int)])])
def ki.ce:Go.Ql.Callee:=⟨[],[(.st (.pair (.int .i64) (.pair (.int .i64) (.sl (.st (.pair (.int .i64) (.pair (.int .i64) (.pair (.sl (.int .i64)) (.pair (.int .i64) (.pair (.int .i64) (.sl (.int .i64))))))))))))],fun x_=>ki⟩
def ki.G:Env:=⟨8,tab,[],[0],[],[],[],[],Jf,[]⟩
theorem ki.eq (x_:dens ki.ce.params):den ki.G Tryd.f39 ki.ce.params ki.ce.res x_=ki.ce.F x_:=by kernel_rfl
theorem ki.ok:CalleeOk Tryd.prog 39 ki.ce:=fn_ok (G:=ki.G) Js mixed Tryd.func39 ⟨Je,jU,jO,jT⟩ (m:=0) (by kernel_rfl) trivial (by kernel_rfl) ki.eq
def istrconv_small (i:Int):Option (List UInt8):=
  br (decide (i < (10:Int)))
   (bnd (okIf (decide ((0:Int)≤i) && decide (i≤IntKind.i64.wrap (i+(1:Int))) && decide (IntKind.i64.wrap (i+(1:Int))≤(↑(List.length (Array.toList (ByteArray.data (ByteArray.mk #[(48:UInt8),(49:UInt8),(50:UInt8),(51:UInt8),(52:UInt8),(53:UInt8),(54:UInt8),(55:UInt8),(56:UInt8),(57:UInt8),(97:UInt8),(98:UInt8),(99:UInt8),(100:UInt8),(101:UInt8),(102:UInt8),(103:UInt8),(104:UInt8),(105:UInt8),(106:UInt8),(107:UInt8),(108:UInt8),(109:UInt8),(110:UInt8),(111:UInt8),(112:UInt8),(113:UInt8),(114:UInt8),(115:UInt8),(116:UInt8),(117:UInt8),(118:UInt8),(119:UInt8),(120:UInt8),(121:UInt8),(122:UInt8)])))):Int)))) fun y=>
    some (List.drop (Int.toNat i) (List.take (Int.toNat (IntKind.i64.wrap (i+(1:Int)))) (Array.toList (ByteArray.data (ByteArray.mk #[(48:UInt8),(49:UInt8),(50:UInt8),(51:UInt8),(52:UInt8),(53:UInt8),(54:UInt8),(55:UInt8),(56:UInt8),(57:UInt8),(97:UInt8),(98:UInt8),(99:UInt8),(100:UInt8),(101:UInt8),(102:UInt8),(103:UInt8),(104:UInt8),(105:UInt8),(106:UInt8),(107:UInt8),(108:UInt8),(109:UInt8),(110:UInt8),(111:UInt8),(112:UInt8),(113:UInt8),(114:UInt8),(115:UInt8),(116:UInt8),(117:UInt8),(118:UInt8),(119:UInt8),(120:UInt8),(121:UInt8),(122:UInt8)]))))))
   (bnd (okIf (decide ((0:Int)≤IntKind.i64.wrap (i*(2:Int))) && decide (IntKind.i64.wrap (i*(2:Int))≤IntKind.i64.wrap (IntKind.i64.wrap (i*(2:Int))+(2:Int))) && decide (IntKind.i64.wrap (IntKind.i64.wrap (i*(2:Int))+(2:Int))≤(↑(List.length (Array.toList (ByteArray.data (ByteArray.mk (List.toArray (List.append (List.append [(48:UInt8),(48:UInt8),(48:UInt8),(49:UInt8),(48:UInt8),(50:UInt8),(48:UInt8),(51:UInt8),(48:UInt8),(52:UInt8),(48:UInt8),(53:UInt8),(48:UInt8),(54:UInt8),(48:UInt8),(55:UInt8),(48:UInt8),(56:UInt8),(48:UInt8),(57:UInt8),(49:UInt8),(48:UInt8),(49:UInt8),(49:UInt8),(49:UInt8),(50:UInt8),(49:UInt8),(51:UInt8),(49:UInt8),(52:UInt8),(49:UInt8),(53:UInt8),(49:UInt8),(54:UInt8),(49:UInt8),(55:UInt8),(49:UInt8),(56:UInt8),(49:UInt8),(57:UInt8),(50:UInt8),(48:UInt8),(50:UInt8),(49:UInt8),(50:UInt8),(50:UInt8),(50:UInt8),(51:UInt8),(50:UInt8),(52:UInt8)] [(50:UInt8),(53:UInt8),(50:UInt8),(54:UInt8),(50:UInt8),(55:UInt8),(50:UInt8),(56:UInt8),(50:UInt8),(57:UInt8),(51:UInt8),(48:UInt8),(51:UInt8),(49:UInt8),(51:UInt8),(50:UInt8),(51:UInt8),(51:UInt8),(51:UInt8),(52:UInt8),(51:UInt8),(53:UInt8),(51:UInt8),(54:UInt8),(51:UInt8),(55:UInt8),(51:UInt8),(56:UInt8),(51:UInt8),(57:UInt8),(52:UInt8),(48:UInt8),(52:UInt8),(49:UInt8),(52:UInt8),(50:UInt8),(52:UInt8),(51:UInt8),(52:UInt8),(52:UInt8),(52:UInt8),(53:UInt8),(52:UInt8),(54:UInt8),(52:UInt8),(55:UInt8),(52:UInt8),(56:UInt8),(52:UInt8),(57:UInt8)]) (List.append [(53:UInt8),(48:UInt8),(53:UInt8),(49:UInt8),(53:UInt8),(50:UInt8),(53:UInt8),(51:UInt8),(53:UInt8),(52:UInt8),(53:UInt8),(53:UInt8),(53:UInt8),(54:UInt8),(53:UInt8),(55:UInt8),(53:UInt8),(56:UInt8),(53:UInt8),(57:UInt8),(54:UInt8),(48:UInt8),(54:UInt8),(49:UInt8),(54:UInt8),(50:UInt8),(54:UInt8),(51:UInt8),(54:UInt8),(52:UInt8),(54:UInt8),(53:UInt8),(54:UInt8),(54:UInt8),(54:UInt8),(55:UInt8),(54:UInt8),(56:UInt8),(54:UInt8),(57:UInt8),(55:UInt8),(48:UInt8),(55:UInt8),(49:UInt8),(55:UInt8),(50:UInt8),(55:UInt8),(51:UInt8),(55:UInt8),(52:UInt8)] [(55:UInt8),(53:UInt8),(55:UInt8),(54:UInt8),(55:UInt8),(55:UInt8),(55:UInt8),(56:UInt8),(55:UInt8),(57:UInt8),(56:UInt8),(48:UInt8),(56:UInt8),(49:UInt8),(56:UInt8),(50:UInt8),(56:UInt8),(51:UInt8),(56:UInt8),(52:UInt8),(56:UInt8),(53:UInt8),(56:UInt8),(54:UInt8),(56:UInt8),(55:UInt8),(56:UInt8),(56:UInt8),(56:UInt8),(57:UInt8),(57:UInt8),(48:UInt8),(57:UInt8),(49:UInt8),(57:UInt8),(50:UInt8),(57:UInt8),(51:UInt8),(57:UInt8),(52:UInt8),(57:UInt8),(53:UInt8),(57:UInt8),(54:UInt8),(57:UInt8),(55:UInt8),(57:UInt8),(56:UInt8),(57:UInt8),(57:UInt8)]))))))):Int)))) fun y_1=>
    some (List.drop (Int.toNat (IntKind.i64.wrap (i*(2:Int)))) (List.take (Int.toNat (IntKind.i64.wrap (IntKind.i64.wrap (i*(2:Int))+(2:Int)))) (Array.toList (ByteArray.data (ByteArray.mk (List.toArray (List.append (List.append [(48:UInt8),(48:UInt8),(48:UInt8),(49:UInt8),(48:UInt8),(50:UInt8),(48:UInt8),(51:UInt8),(48:UInt8),(52:UInt8),(48:UInt8),(53:UInt8),(48:UInt8),(54:UInt8),(48:UInt8),(55:UInt8),(48:UInt8),(56:UInt8),(48:UInt8),(57:UInt8),(49:UInt8),(48:UInt8),(49:UInt8),(49:UInt8),(49:UInt8),(50:UInt8),(49:UInt8),(51:UInt8),(49:UInt8),(52:UInt8),(49:UInt8),(53:UInt8),(49:UInt8),(54:UInt8),(49:UInt8),(55:UInt8),(49:UInt8),(56:UInt8),(49:UInt8),(57:UInt8),(50:UInt8),(48:UInt8),(50:UInt8),(49:UInt8),(50:UInt8),(50:UInt8),(50:UInt8),(51:UInt8),(50:UInt8),(52:UInt8)] [(50:UInt8),(53:UInt8),(50:UInt8),(54:UInt8),(50:UInt8),(55:UInt8),(50:UInt8),(56:UInt8),(50:UInt8),(57:UInt8),(51:UInt8),(48:UInt8),(51:UInt8),(49:UInt8),(51:UInt8),(50:UInt8),(51:UInt8),(51:UInt8),(51:UInt8),(52:UInt8),(51:UInt8),(53:UInt8),(51:UInt8),(54:UInt8),(51:UInt8),(55:UInt8),(51:UInt8),(56:UInt8),(51:UInt8),(57:UInt8),(52:UInt8),(48:UInt8),(52:UInt8),(49:UInt8),(52:UInt8),(50:UInt8),(52:UInt8),(51:UInt8),(52:UInt8),(52:UInt8),(52:UInt8),(53:UInt8),(52:UInt8),(54:UInt8),(52:UInt8),(55:UInt8),(52:UInt8),(56:UInt8),(52:UInt8),(57:UInt8)]) (List.append [(53:UInt8),(48:UInt8),(53:UInt8),(49:UInt8),(53:UInt8),(50:UInt8),(53:UInt8),(51:UInt8),(53:UInt8),(52:UInt8),(53:UInt8),(53:UInt8),(53:UInt8),(54:UInt8),(53:UInt8),(55:UInt8),(53:UInt8),(56:UInt8),(53:UInt8),(57:UInt8),(54:UInt8),(48:UInt8),(54:UInt8),(49:UInt8),(54:UInt8),(50:UInt8),(54:UInt8),(51:UInt8),(54:UInt8),(52:UInt8),(54:UInt8),(53:UInt8),(54:UInt8),(54:UInt8),(54:UInt8),(55:UInt8),(54:UInt8),(56:UInt8),(54:UInt8),(57:UInt8),(55:UInt8),(48:UInt8),(55:UInt8),(49:UInt8),(55:UInt8),(50:UInt8),(55:UInt8),(51:UInt8),(55:UInt8),(52:UInt8)] [(55:UInt8),(53:UInt8),(55:UInt8),(54:UInt8),(55:UInt8),(55:UInt8),(55:UInt8),(56:UInt8),(55:UInt8),(57:UInt8),(56:UInt8),(48:UInt8),(56:UInt8),(49:UInt8),(56:UInt8),(50:UInt8),(56:UInt8),(51:UInt8),(56:UInt8),(52:UInt8),(56:UInt8),(53:UInt8),(56:UInt8),(54:UInt8),(56:UInt8),(55:UInt8),(56:UInt8),(56:UInt8),(56:UInt8),(57:UInt8),(57:UInt8),(48:UInt8),(57:UInt8),(49:UInt8),(57:UInt8),(50:UInt8),(57:UInt8),(51:UInt8),(57:UInt8),(52:UInt8),(57:UInt8),(53:UInt8),(57:UInt8),(54:UInt8),(57:UInt8),(55:UInt8),(57:UInt8),(56:UInt8),(57:UInt8),(57:UInt8)])))))))))
def istrconv_small.ce:Go.Ql.Callee:=⟨[(.int .i64)],[.str],fun x_=>istrconv_small x_⟩
def istrconv_small.G:Env:=⟨15,tab,[],[0,2,4],[],[],[],[],Jf,[]⟩
theorem istrconv_small.eq (x_:dens istrconv_small.ce.params):den istrconv_small.G Tryd.f91 istrconv_small.ce.params istrconv_small.ce.res x_=istrconv_small.ce.F x_:=by kernel_rfl
theorem istrconv_small.ok:CalleeOk Tryd.prog 91 istrconv_small.ce:=fn_ok (G:=istrconv_small.G) Js mixed Tryd.func91 ⟨Je,jU,jO,jT⟩ (m:=0) (by kernel_rfl) trivial (by kernel_rfl) istrconv_small.eq
abbrev ct28:SD:=.one (.val .str)
abbrev ct29:SD:=.one (.val (.int .u64))
abbrev ct30:SO:=.arr 0 false 118 (.int .u8)
def istrconv_FormatInt.c2 {ρ:Type} (i:Int) (k_:Bool→Option ρ):Option ρ:=
  br (decide ((0:Int)≤i))
   (k_ (decide (i < (100:Int))))
   (k_ false)
def istrconv_FormatInt.c2s:Shape:=⟨[(0,ct2),(1,ct2),(4,ct28)],[]⟩
def istrconv_FormatInt.c2x0:Shape:=⟨[(0,ct2),(1,ct2),(4,ct28),(17,ct11)],[]⟩
def istrconv_FormatInt.c2r:Ck:=Ck.of (T:=Bool) istrconv_FormatInt.c2s (fun ρ x_ k_=>istrconv_FormatInt.c2 x_.1 k_) (fun ρ x_ r_ k_=>k_ 0 (Shape.inj istrconv_FormatInt.c2x0 (x_.1,x_.2.1,x_.2.2.1,r_,())))
def istrconv_FormatInt.c224581 {ρ:Type} (i:Int) (u:Int) (k_:Int→Option ρ):Option ρ:=
  br (decide (i < (0:Int)))
   (k_ (IntKind.u64.wrap ((0:Int) - u)))
   (k_ u)
def istrconv_FormatInt.c224581s:Shape:=⟨[(0,ct2),(1,ct2),(4,ct28),(5,ct15),(6,ct29)],[(5,ct30)]⟩
def istrconv_FormatInt.c224581x0:Shape:=istrconv_FormatInt.c224581s
def istrconv_FormatInt.c224581r:Ck:=Ck.of (T:=Int) istrconv_FormatInt.c224581s (fun ρ x_ k_=>istrconv_FormatInt.c224581 x_.1 x_.2.2.2.1 k_) (fun ρ x_ r_ k_=>k_ 0 (Shape.inj istrconv_FormatInt.c224581x0 (x_.1,x_.2.1,x_.2.2.1,r_,x_.2.2.2.2)))
def istrconv_FormatInt (i:Int) (base:Int):Option (List UInt8):=
  br (base == (10:Int))
   (bnd (W.istrconv_FormatInt.c2 i some) fun y=>
    br y
     (bnd (W.istrconv_small i) fun y_1=>
      some y_1)
     (bnd (W.istrconv_FormatInt.c224581 i (IntKind.wrap IntKind.u64 i) some) fun y_2=>
      none))
   (none)
def istrconv_FormatInt.ce:Go.Ql.Callee:=⟨[(.int .i64),(.int .i64)],[.str],fun x_=>istrconv_FormatInt x_.1 x_.2⟩
def istrconv_FormatInt.G:Env:=⟨54,tab,[(91,istrconv_small.ce)],[0,1,4,5,6,7,9,11,17,23,34],[5],[],[(224581,istrconv_FormatInt.c224581r),(2,istrconv_FormatInt.c2r)],[],Jf,[]⟩
theorem istrconv_FormatInt.eq (x_:dens istrconv_FormatInt.ce.params):den istrconv_FormatInt.G Tryd.f85 istrconv_FormatInt.ce.params istrconv_FormatInt.ce.res x_=istrconv_FormatInt.ce.F x_:=by kernel_rfl
theorem istrconv_FormatInt.p0:PcA istrconv_FormatInt.G Tryd.f85 0:=
  jG (s:=istrconv_FormatInt.c2r) (by kernel_rfl) (by kernel_rfl) (jF (sh:=istrconv_FormatInt.c2s) (fun ρ x_ k_=>(jw jc jc)) (fun ρ x_ t k=>(by kernel_rfl)) (fun x_=>by kernel_rfl))
theorem istrconv_FormatInt.p1:PcA istrconv_FormatInt.G Tryd.f85 1:=
  kn (s:=istrconv_FormatInt.c224581r) (by kernel_rfl) (by kernel_rfl) (jF (sh:=istrconv_FormatInt.c224581s) (fun ρ x_ k_=>(jw jc jc)) (fun ρ x_ t k=>(by kernel_rfl)) (fun x_=>by kernel_rfl))
theorem istrconv_FormatInt.ok:CalleeOk Tryd.prog 85 istrconv_FormatInt.ce:=fn_ok (G:=istrconv_FormatInt.G) Js mixed Tryd.func85 ⟨(Ja istrconv_small.ok Je),jU,jO,jT⟩ (m:=2) (by kernel_rfl) ⟨⟨trivial,istrconv_FormatInt.p0⟩,istrconv_FormatInt.p1⟩ (by kernel_rfl) istrconv_FormatInt.eq
def istrconv_Itoa (i:Int):Option (List UInt8):=
  bnd (W.istrconv_FormatInt i (10:Int)) fun y=>
  some y
def istrconv_Itoa.ce:Go.Ql.Callee:=⟨[(.int .i64)],[.str],fun x_=>istrconv_Itoa x_⟩
def istrconv_Itoa.G:Env:=⟨5,tab,[(85,istrconv_FormatInt.ce)],[0,2],[],[],[],[],Jf,[]⟩
theorem istrconv_Itoa.eq (x_:dens istrconv_Itoa.ce.params):den istrconv_Itoa.G Tryd.f73 istrconv_Itoa.ce.params istrconv_Itoa.ce.res x_=istrconv_Itoa.ce.F x_:=by kernel_rfl
theorem istrconv_Itoa.ok:CalleeOk Tryd.prog 73 istrconv_Itoa.ce:=fn_ok (G:=istrconv_Itoa.G) Js mixed Tryd.func73 ⟨(Ja istrconv_FormatInt.ok Je),jU,jO,jT⟩ (m:=0) (by kernel_rfl) trivial (by kernel_rfl) istrconv_Itoa.eq
def Jz (i:Int):Option (List UInt8):=
  bnd (W.istrconv_Itoa i) fun y=>
  some y
def Jz.ce:Go.Ql.Callee:=⟨[(.int .i64)],[.str],fun x_=>Jz x_⟩
def Jz.G:Env:=⟨5,tab,[(73,istrconv_Itoa.ce)],[0,2],[],[],[],[],Jf,[]⟩
theorem Jz.eq (x_:dens Jz.ce.params):den Jz.G Tryd.f55 Jz.ce.params Jz.ce.res x_=Jz.ce.F x_:=by kernel_rfl
theorem Jz.ok:CalleeOk Tryd.prog 55 Jz.ce:=fn_ok (G:=Jz.G) Js mixed Tryd.func55 ⟨(Ja istrconv_Itoa.ok Je),jU,jO,jT⟩ (m:=0) (by kernel_rfl) trivial (by kernel_rfl) Jz.eq
abbrev ct31:SD:=.one (.ref 1000000 0)
abbrev ct32:SO:=.box [.selfp 1000000 72,.own 1000001 0]
abbrev ct33:SO:=.arr 0 false 5 (.int .u8)
abbrev ct34:SD:=.one (.val (.nilv 1))
def jz.pre:Shape:=⟨[(0,ct31),(1,ct28)],[(1000000,ct32),(1000001,ct33)]⟩
def jz.post:Shape:=⟨[(0,ct2),(1,ct34)],[(1000001,ct33),(1000000,ct32)]⟩
def jz (s:List UInt8) (t1000001:List (Int)):Option ((Int)×(Unit)×(List Int)×Unit):=
  bnd (W.Jc t1000001) fun y=>
  bnd (okIf (decide (List.length y.1+List.length s≤(140737488355328:Nat)))) fun y_1=>
  some ((↑(List.length s):Int),(),y.1++List.map (fun b↦(↑(UInt8.toNat b):Int)) s,())
def jz.mc:MCallee:=⟨54,jz.pre,jz.post,fun x_=>jz x_.1 x_.2.1⟩
def jz.G:Env:=⟨19,tab,[],[0,1,4,5],[1000000,1000001],[],[],[(72,Jc.mc)],Jf,[]⟩
theorem jz.eq (x_:densU jz.mc.pre.tys):denM jz.G Tryd.f54 jz.mc.pre jz.mc.post x_=jz.mc.F x_:=by kernel_rfl
theorem jz.ok:MOk Tryd.prog 54 jz.mc:=kb (G:=jz.G) Js mixed Tryd.func54 ⟨Je,(Jj Jc.ok jU),jO,jT⟩ (m:=0) (by kernel_rfl) trivial (by kernel_rfl) jz.eq
def ke (kind:Int):Option (List UInt8):=
  br (kind == (1:Int))
   (some (Array.toList (ByteArray.data (ByteArray.mk #[(112:UInt8),(104:UInt8),(97:UInt8),(115:UInt8),(101:UInt8)]))))
   (br (kind == (2:Int))
     (some (Array.toList (ByteArray.data (ByteArray.mk #[(120:UInt8)]))))
     (br (kind == (3:Int))
       (some (Array.toList (ByteArray.data (ByteArray.mk #[(104:UInt8)]))))
       (br (kind == (4:Int))
         (some (Array.toList (ByteArray.data (ByteArray.mk #[(112:UInt8)]))))
         (br (kind == (5:Int))
           (some (Array.toList (ByteArray.data (ByteArray.mk #[(109:UInt8),(101:UInt8),(97:UInt8),(115:UInt8),(117:UInt8),(114:UInt8),(101:UInt8)]))))
           (some (Array.toList (ByteArray.data (ByteArray.mk #[(114:UInt8),(101:UInt8),(115:UInt8),(101:UInt8),(116:UInt8)]))))))))
def ke.ce:Go.Ql.Callee:=⟨[(.int .i64)],[.str],fun x_=>ke x_⟩
def ke.G:Env:=⟨14,tab,[],[0,2,3,4,6,8,10,12],[],[],[],[],Jf,[]⟩
theorem ke.eq (x_:dens ke.ce.params):den ke.G Tryd.f75 ke.ce.params ke.ce.res x_=ke.ce.F x_:=by kernel_rfl
theorem ke.ok:CalleeOk Tryd.prog 75 ke.ce:=fn_ok (G:=ke.G) Js mixed Tryd.func75 ⟨Je,jU,jO,jT⟩ (m:=0) (by kernel_rfl) trivial (by kernel_rfl) ke.eq
abbrev ct35:SD:=.one (.val (.int .u8))
def jQ.pre:Shape:=⟨[(0,ct31),(1,ct35)],[(1000000,ct32),(1000001,ct33)]⟩
def jQ.post:Shape:=⟨[(0,ct34)],[(1000001,ct33),(1000000,ct32)]⟩
def jQ (c:Int) (t1000001:List (Int)):Option ((Unit)×(List Int)×Unit):=
  bnd (W.Jc t1000001) fun y=>
  bnd (okIf (decide ((List.length y.1+(1:Nat))*(1:Nat)≤(140737488355328:Nat)) && decide (List.length y.1+(1:Nat)≤(140737488355328:Nat)))) fun y_1=>
  some ((),y.1++[c],())
def jQ.mc:MCallee:=⟨76,jQ.pre,jQ.post,fun x_=>jQ x_.1 x_.2.1⟩
def jQ.G:Env:=⟨17,tab,[],[0,1,4],[1000000,1000001],[],[],[(72,Jc.mc)],Jf,[]⟩
theorem jQ.eq (x_:densU jQ.mc.pre.tys):denM jQ.G Tryd.f76 jQ.mc.pre jQ.mc.post x_=jQ.mc.F x_:=by kernel_rfl
theorem jQ.ok:MOk Tryd.prog 76 jQ.mc:=kb (G:=jQ.G) Js mixed Tryd.func76 ⟨Je,(Jj Jc.ok jU),jO,jT⟩ (m:=0) (by kernel_rfl) trivial (by kernel_rfl) jQ.eq
abbrev ct36:SO:=.box [.ref 1000200 0]
abbrev ct37:SO:=.box [.selfp 1000200 72,.own 1000201 0]
def jK.pre:Shape:=⟨[(0,ct0),(1,ct13)],[(1000100,ct36),(1000200,ct37),(1000201,ct33)]⟩
def jK.post:Shape:=⟨[],[(1000201,ct33),(1000200,ct37),(1000100,ct36)]⟩
def jK.c3 {ρ:Type} (n:Int) (t1000201:List (Int)) (k_:List (Int)→Option ρ):Option ρ:=
  bnd (W.Jz n) fun y=>
  bnd (okIf (decide (List.length (Array.toList (ByteArray.data (ByteArray.mk #[(32:UInt8)])))+List.length y≤(9223372036854775807:Nat)))) fun y_1=>
  bnd (W.jz (Array.toList (ByteArray.data (ByteArray.mk #[(32:UInt8)]))++y) t1000201) fun y_2=>
  k_ y_2.2.2.1
def jK.c3s:Shape:=⟨[(0,ct0),(1,ct13),(4,ct2),(5,ct0),(6,ct2),(7,ct2)],[(1000100,ct36),(1000200,ct37),(1000201,ct33)]⟩
def jK.c3x0:Shape:=jK.c3s
def jK.c3r:Ck:=Ck.of (T:=List (Int)) jK.c3s (fun ρ x_ k_=>jK.c3 x_.2.1 x_.2.2.2.2.2.1 k_) (fun ρ x_ r_ k_=>k_ 0 (Shape.inj jK.c3x0 (x_.1,x_.2.1,x_.2.2.1,x_.2.2.2.1,x_.2.2.2.2.1,r_,())))
def jK.c100001 {ρ:Type} (t5:List (Int)) (t6:Int) (t7:Int) (t1000201:List (Int)) (k_:((Int)×(List Int))⊕((Int)×(List Int))→Option ρ):Option ρ:=
  br (decide (t7 < t6))
   (bnd (idx t5 t7) fun y=>
    bnd (W.jK.c3 y t1000201 some) fun y_1=>
    k_ (.inl ((IntKind.i64.wrap (t7+(1:Int))),y_1)))
   (k_ (.inr (t7,t1000201)))
def jK.c100001s:Shape:=⟨[(0,ct0),(1,ct13),(5,ct0),(6,ct2),(7,ct2)],[(1000100,ct36),(1000200,ct37),(1000201,ct33)]⟩
def jK.c100001x0:Shape:=jK.c100001s
def jK.c100001r:Ck:=Ck.ofLoop (S:=(Int)×(List Int)) (T:=(Int)×(List Int)) jK.c100001s (fun x_=>(x_.2.2.2.1,x_.2.2.2.2.1)) (fun ρ x_ s_ k_=>jK.c100001 x_.2.1 x_.2.2.1 s_.1 s_.2 k_) (fun ρ x_ r_ k_=>k_ 2 (Shape.inj jK.c100001x0 (x_.1,x_.2.1,x_.2.2.1,r_.1,r_.2,())))
def jK (ns:List (Int)) (t1000201:List (Int)):Option ((List Int)×Unit):=
  bnd (iter (fun s↦W.jK.c100001 ns (↑(List.length ns):Int) s.1 s.2 some) ((0:Int),t1000201)) fun y=>
  some (y.2,())
def jK.mc:MCallee:=⟨74,jK.pre,jK.post,fun x_=>jK x_.1 x_.2.1⟩
def jK.G:Env:=⟨17,tab,[(55,Jz.ce)],[0,1,4,5,6,7,8],[1000100,1000200,1000201],[(3,[⟨[],[],[12,13,14],[]⟩,⟨[],[],[11],[]⟩,⟨[1],[],[11],[]⟩,⟨[2,1],[],[11],[]⟩,⟨[0,3,2,1],[1000201,1000200],[],[]⟩])],[(100001,jK.c100001r),(3,jK.c3r)],[(54,jz.mc)],Jf,[]⟩
theorem jK.eq (x_:densU jK.mc.pre.tys):denM jK.G Tryd.f74 jK.mc.pre jK.mc.post x_=jK.mc.F x_:=by kernel_rfl
theorem jK.p0:PcA jK.G Tryd.f74 0:=
  JA (s:=jK.c100001r) (by kernel_rfl) (by kernel_rfl) (Jt (sh:=jK.c100001s) (I:=fun x_ s_=>(x_.1,x_.2.1,x_.2.2.1,s_.1,s_.2,())) (fun x_=>rfl) (fun ρ x_ s_ k_=>(jw (je fun _=>(je fun _=>jc)) jc)) (fun ρ x_ t k=>(by kernel_rfl)) (fun x_ s=>by kernel_rfl))
theorem jK.p1:PcA jK.G Tryd.f74 1:=
  jG (s:=jK.c3r) (by kernel_rfl) (by kernel_rfl) (jF (sh:=jK.c3s) (fun ρ x_ k_=>(je fun _=>(je fun _=>(je fun _=>jc)))) (fun ρ x_ t k=>(by kernel_rfl)) (fun x_=>by kernel_rfl))
theorem jK.ok:MOk Tryd.prog 74 jK.mc:=kb (G:=jK.G) Js mixed Tryd.func74 ⟨(Ja Jz.ok Je),(Jj jz.ok jU),jO,jT⟩ (m:=2) (by kernel_rfl) ⟨⟨trivial,jK.p0⟩,jK.p1⟩ (by kernel_rfl) jK.eq
abbrev ct38:SD:=.one (.clo 7)
abbrev ct39:SO:=.box [.ref 1000000 0]
abbrev ct40:SO:=.clo 74 [] [.ref 2 0]
def jg.pre:Shape:=⟨[(0,ct31),(1,ct12)],[(1000000,ct32),(1000001,ct33)]⟩
def jg.post:Shape:=⟨[],[(1000001,ct33),(1000000,ct32)]⟩
def jg.c2 {ρ:Type} (o0:Int) (t1000001:List (Int)) (k_:List (Int)→Option ρ):Option ρ:=
  bnd (W.ke o0) fun y=>
  bnd (W.jz y t1000001) fun y_1=>
  k_ y_1.2.2.1
def jg.c2s:Shape:=⟨[(0,ct31),(1,ct12),(2,ct6),(3,ct7),(4,ct38)],[(2,ct39),(3,ct14),(7,ct40),(1000000,ct32),(1000001,ct33)]⟩
def jg.c2x0:Shape:=jg.c2s
def jg.c2r:Ck:=Ck.of (T:=List (Int)) jg.c2s (fun ρ x_ k_=>jg.c2 x_.2.1 x_.2.2.2.2.2.2.2.1 k_) (fun ρ x_ r_ k_=>k_ 0 (Shape.inj jg.c2x0 (x_.1,x_.2.1,x_.2.2.1,x_.2.2.2.1,x_.2.2.2.2.1,x_.2.2.2.2.2.1,x_.2.2.2.2.2.2.1,r_,())))
def jg.c212293 {ρ:Type} (o0:Int) (o1:Int) (t1000001:List (Int)) (k_:List (Int)→Option ρ):Option ρ:=
  bnd (W.Jn o0) fun y=>
  br y
   (bnd (W.jK [o1] t1000001) fun y_1=>
    k_ y_1.1)
   (k_ t1000001)
def jg.c212293s:Shape:=jg.c2s
def jg.c212293x0:Shape:=jg.c2s
def jg.c212293r:Ck:=Ck.of (T:=List (Int)) jg.c212293s (fun ρ x_ k_=>jg.c212293 x_.2.1 x_.2.2.1 x_.2.2.2.2.2.2.2.1 k_) (fun ρ x_ r_ k_=>k_ 0 (Shape.inj jg.c212293x0 (x_.1,x_.2.1,x_.2.2.1,x_.2.2.2.1,x_.2.2.2.2.1,x_.2.2.2.2.2.1,x_.2.2.2.2.2.2.1,r_,())))
def jg.c220485 {ρ:Type} (o0:Int) (o3:Int) (t1000001:List (Int)) (k_:List (Int)→Option ρ):Option ρ:=
  br (o0 != (1:Int))
   (bnd (W.jK [o3] t1000001) fun y=>
    k_ y.1)
   (k_ t1000001)
def jg.c220485s:Shape:=jg.c2s
def jg.c220485x0:Shape:=jg.c2s
def jg.c220485r:Ck:=Ck.of (T:=List (Int)) jg.c220485s (fun ρ x_ k_=>jg.c220485 x_.2.1 x_.2.2.2.2.1 x_.2.2.2.2.2.2.2.1 k_) (fun ρ x_ r_ k_=>k_ 0 (Shape.inj jg.c220485x0 (x_.1,x_.2.1,x_.2.2.1,x_.2.2.2.1,x_.2.2.2.2.1,x_.2.2.2.2.2.1,x_.2.2.2.2.2.2.1,r_,())))
def jg.c228679 {ρ:Type} (o2:List (Int)) (t1000001:List (Int)) (k_:List (Int)→Option ρ):Option ρ:=
  br (decide ((↑(List.length o2):Int) > (0:Int)))
   (bnd (W.jz (Array.toList (ByteArray.data (ByteArray.mk #[(32:UInt8),(111:UInt8),(110:UInt8)]))) t1000001) fun y=>
    bnd (W.jK o2 y.2.2.1) fun y_1=>
    k_ y_1.1)
   (k_ t1000001)
def jg.c228679s:Shape:=jg.c2s
def jg.c228679x0:Shape:=jg.c2s
def jg.c228679r:Ck:=Ck.of (T:=List (Int)) jg.c228679s (fun ρ x_ k_=>jg.c228679 x_.2.2.2.1 x_.2.2.2.2.2.2.2.1 k_) (fun ρ x_ r_ k_=>k_ 0 (Shape.inj jg.c228679x0 (x_.1,x_.2.1,x_.2.2.1,x_.2.2.2.1,x_.2.2.2.2.1,x_.2.2.2.2.2.1,x_.2.2.2.2.2.2.1,r_,())))
def jg.c240967 {ρ:Type} (o0:Int) (o4:Int) (t1000001:List (Int)) (k_:List (Int)→Option ρ):Option ρ:=
  br (o0 == (5:Int))
   (bnd (W.jz (Array.toList (ByteArray.data (ByteArray.mk #[(32:UInt8),(116:UInt8),(111:UInt8)]))) t1000001) fun y=>
    bnd (W.jK [o4] y.2.2.1) fun y_1=>
    k_ y_1.1)
   (k_ t1000001)
def jg.c240967s:Shape:=jg.c2s
def jg.c240967x0:Shape:=jg.c2s
def jg.c240967r:Ck:=Ck.of (T:=List (Int)) jg.c240967s (fun ρ x_ k_=>jg.c240967 x_.2.1 x_.2.2.2.2.2.1 x_.2.2.2.2.2.2.2.1 k_) (fun ρ x_ r_ k_=>k_ 0 (Shape.inj jg.c240967x0 (x_.1,x_.2.1,x_.2.2.1,x_.2.2.2.1,x_.2.2.2.2.1,x_.2.2.2.2.2.1,x_.2.2.2.2.2.2.1,r_,())))
def jg.c19 {ρ:Type} (v:Int) (t1000001:List (Int)) (k_:List (Int)→Option ρ):Option ρ:=
  bnd (W.Jz (IntKind.i64.wrap (IntKind.i64.wrap ((0:Int) - v) - (1:Int)))) fun y=>
  bnd (okIf (decide (List.length (Array.toList (ByteArray.data (ByteArray.mk #[(32:UInt8),(33:UInt8)])))+List.length y≤(9223372036854775807:Nat)))) fun y_1=>
  bnd (W.jz (Array.toList (ByteArray.data (ByteArray.mk #[(32:UInt8),(33:UInt8)]))++y) t1000001) fun y_2=>
  k_ y_2.2.2.1
def jg.c19s:Shape:=⟨[(0,ct31),(1,ct12),(2,ct6),(3,ct7),(4,ct38),(6,ct2),(56,ct0),(57,ct2),(58,ct2)],[(2,ct39),(3,ct14),(7,ct40),(1000000,ct32),(1000001,ct33)]⟩
def jg.c19x0:Shape:=jg.c19s
def jg.c19r:Ck:=Ck.of (T:=List (Int)) jg.c19s (fun ρ x_ k_=>jg.c19 x_.2.1 x_.2.2.2.2.2.2.2.2.2.2.2.1 k_) (fun ρ x_ r_ k_=>k_ 0 (Shape.inj jg.c19x0 (x_.1,x_.2.1,x_.2.2.1,x_.2.2.2.1,x_.2.2.2.2.1,x_.2.2.2.2.2.1,x_.2.2.2.2.2.2.1,x_.2.2.2.2.2.2.2.1,x_.2.2.2.2.2.2.2.2.1,x_.2.2.2.2.2.2.2.2.2.1,x_.2.2.2.2.2.2.2.2.2.2.1,r_,())))
def jg.c269640 {ρ:Type} (t56:List (Int)) (t58:Int) (t1000001:List (Int)) (k_:List (Int)→Option ρ):Option ρ:=
  bnd (idx t56 t58) fun y=>
  br (decide (y < (0:Int)))
   (bnd (W.jg.c19 y t1000001 some) fun y_1=>
    k_ y_1)
   (bnd (W.jK [IntKind.i64.wrap (y - (1:Int))] t1000001) fun y_2=>
    k_ y_2.1)
def jg.c269640s:Shape:=⟨[(0,ct31),(1,ct12),(2,ct6),(3,ct7),(4,ct38),(56,ct0),(57,ct2),(58,ct2)],[(2,ct39),(3,ct14),(7,ct40),(1000000,ct32),(1000001,ct33)]⟩
def jg.c269640x0:Shape:=jg.c269640s
def jg.c269640r:Ck:=Ck.of (T:=List (Int)) jg.c269640s (fun ρ x_ k_=>jg.c269640 x_.2.1 x_.2.2.2.1 x_.2.2.2.2.2.2.2.2.2.2.1 k_) (fun ρ x_ r_ k_=>k_ 0 (Shape.inj jg.c269640x0 (x_.1,x_.2.1,x_.2.2.1,x_.2.2.2.1,x_.2.2.2.2.1,x_.2.2.2.2.2.1,x_.2.2.2.2.2.2.1,x_.2.2.2.2.2.2.2.1,x_.2.2.2.2.2.2.2.2.1,x_.2.2.2.2.2.2.2.2.2.1,r_,())))
def jg.c100016 {ρ:Type} (t56:List (Int)) (t57:Int) (t58:Int) (t1000001:List (Int)) (k_:((Int)×(List Int))⊕((Int)×(List Int))→Option ρ):Option ρ:=
  br (decide (t58 < t57))
   (bnd (W.jg.c269640 t56 t58 t1000001 some) fun y=>
    k_ (.inl ((IntKind.i64.wrap (t58+(1:Int))),y)))
   (k_ (.inr (t58,t1000001)))
def jg.c100016s:Shape:=jg.c269640s
def jg.c100016x0:Shape:=jg.c269640s
def jg.c100016r:Ck:=Ck.ofLoop (S:=(Int)×(List Int)) (T:=(Int)×(List Int)) jg.c100016s (fun x_=>(x_.2.2.2.1,x_.2.2.2.2.2.2.2.2.2.2.1)) (fun ρ x_ s_ k_=>jg.c100016 x_.2.1 x_.2.2.1 s_.1 s_.2 k_) (fun ρ x_ r_ k_=>k_ 2 (Shape.inj jg.c100016x0 (x_.1,x_.2.1,x_.2.2.1,r_.1,x_.2.2.2.2.1,x_.2.2.2.2.2.1,x_.2.2.2.2.2.2.1,x_.2.2.2.2.2.2.2.1,x_.2.2.2.2.2.2.2.2.1,x_.2.2.2.2.2.2.2.2.2.1,r_.2,())))
def jg.c253274 {ρ:Type} (o5:List (Int)) (t1000001:List (Int)) (k_:List (Int)→Option ρ):Option ρ:=
  br (decide ((↑(List.length o5):Int) > (0:Int)))
   (bnd (W.jz (Array.toList (ByteArray.data (ByteArray.mk #[(32:UInt8),(105:UInt8),(102:UInt8)]))) t1000001) fun y=>
    bnd (iter (fun s↦W.jg.c100016 o5 (↑(List.length o5):Int) s.1 s.2 some) ((0:Int),y.2.2.1)) fun y_1=>
    k_ y_1.2)
   (k_ t1000001)
def jg.c253274s:Shape:=jg.c2s
def jg.c253274x0:Shape:=jg.c2s
def jg.c253274r:Ck:=Ck.of (T:=List (Int)) jg.c253274s (fun ρ x_ k_=>jg.c253274 x_.2.2.2.2.2.2.1 x_.2.2.2.2.2.2.2.1 k_) (fun ρ x_ r_ k_=>k_ 0 (Shape.inj jg.c253274x0 (x_.1,x_.2.1,x_.2.2.1,x_.2.2.2.1,x_.2.2.2.2.1,x_.2.2.2.2.2.1,x_.2.2.2.2.2.2.1,r_,())))
def jg (o:(Int)×((Int)×((List Int)×((Int)×((Int)×(List Int)))))) (t1000001:List (Int)):Option ((List Int)×Unit):=
  bnd (W.jg.c2 o.1 t1000001 some) fun y=>
  bnd (W.jg.c212293 o.1 o.2.1 y some) fun y_1=>
  bnd (W.jg.c220485 o.1 o.2.2.2.1 y_1 some) fun y_2=>
  bnd (W.jg.c228679 o.2.2.1 y_2 some) fun y_3=>
  bnd (W.jg.c240967 o.1 o.2.2.2.2.1 y_3 some) fun y_4=>
  bnd (W.jg.c253274 o.2.2.2.2.2 y_4 some) fun y_5=>
  bnd (W.jQ (10:Int) y_5) fun y_6=>
  some (y_6.2.1,())
def jg.mc:MCallee:=⟨56,jg.pre,jg.post,fun x_=>jg x_.1 x_.2.1⟩
def jg.G:Env:=⟨79,tab,[(75,ke.ce),(68,Jn.ce),(55,Jz.ce)],[0,1,2,3,4,6,15,23,32,41,52,56,57,58,59,63],[2,1002,1000000,1000001],[(19,[⟨[],[],[65,66,67,68,69],[]⟩,⟨[],[],[64],[]⟩,⟨[1],[],[64],[]⟩,⟨[2,1],[],[64],[]⟩,⟨[3,2,1],[],[64],[]⟩,⟨[4,3,2,1],[],[64],[]⟩,⟨[0,5,4,3,2,1],[1000001,1000000],[],[]⟩]),
  (2,[⟨[],[],[9,10,11],[]⟩,⟨[],[],[8],[]⟩,⟨[1],[],[8],[]⟩,⟨[2,1],[],[8],[]⟩,⟨[0,3,2,1],[1000001,1000000],[],[]⟩])],[(253274,jg.c253274r),(100016,jg.c100016r),(269640,jg.c269640r),(19,jg.c19r),(240967,jg.c240967r),(228679,jg.c228679r),(220485,jg.c220485r),(212293,jg.c212293r),(2,jg.c2r)],[(54,jz.mc),(76,jQ.mc),(74,jK.mc)],Jf,[]⟩
theorem jg.eq (x_:densU jg.mc.pre.tys):denM jg.G Tryd.f56 jg.mc.pre jg.mc.post x_=jg.mc.F x_:=by kernel_rfl
theorem jg.p0:PcA jg.G Tryd.f56 0:=
  jG (s:=jg.c2r) (by kernel_rfl) (by kernel_rfl) (jF (sh:=jg.c2s) (fun ρ x_ k_=>(je fun _=>(je fun _=>jc))) (fun ρ x_ t k=>(by kernel_rfl)) (fun x_=>by kernel_rfl))
theorem jg.p1:PcA jg.G Tryd.f56 1:=
  kn (s:=jg.c212293r) (by kernel_rfl) (by kernel_rfl) (jF (sh:=jg.c212293s) (fun ρ x_ k_=>(je fun _=>(jw (je fun _=>jc) jc))) (fun ρ x_ t k=>(by kernel_rfl)) (fun x_=>by kernel_rfl))
theorem jg.p2:PcA jg.G Tryd.f56 2:=
  kn (s:=jg.c220485r) (by kernel_rfl) (by kernel_rfl) (jF (sh:=jg.c220485s) (fun ρ x_ k_=>(jw (je fun _=>jc) jc)) (fun ρ x_ t k=>(by kernel_rfl)) (fun x_=>by kernel_rfl))
theorem jg.p3:PcA jg.G Tryd.f56 3:=
  kn (s:=jg.c228679r) (by kernel_rfl) (by kernel_rfl) (jF (sh:=jg.c228679s) (fun ρ x_ k_=>(jw (je fun _=>(je fun _=>jc)) jc)) (fun ρ x_ t k=>(by kernel_rfl)) (fun x_=>by kernel_rfl))
theorem jg.p4:PcA jg.G Tryd.f56 4:=
  kn (s:=jg.c240967r) (by kernel_rfl) (by kernel_rfl) (jF (sh:=jg.c240967s) (fun ρ x_ k_=>(jw (je fun _=>(je fun _=>jc)) jc)) (fun ρ x_ t k=>(by kernel_rfl)) (fun x_=>by kernel_rfl))
theorem jg.p5:PcA jg.G Tryd.f56 5:=
  kn (s:=jg.c253274r) (by kernel_rfl) (by kernel_rfl) (jF (sh:=jg.c253274s) (fun ρ x_ k_=>(jw (je fun _=>(je fun _=>jc)) jc)) (fun ρ x_ t k=>(by kernel_rfl)) (fun x_=>by kernel_rfl))
theorem jg.p6:PcA jg.G Tryd.f56 6:=
  JA (s:=jg.c100016r) (by kernel_rfl) (by kernel_rfl) (Jt (sh:=jg.c100016s) (I:=fun x_ s_=>(x_.1,x_.2.1,x_.2.2.1,s_.1,x_.2.2.2.2.1,x_.2.2.2.2.2.1,x_.2.2.2.2.2.2.1,x_.2.2.2.2.2.2.2.1,x_.2.2.2.2.2.2.2.2.1,x_.2.2.2.2.2.2.2.2.2.1,s_.2,())) (fun x_=>rfl) (fun ρ x_ s_ k_=>(jw (je fun _=>jc) jc)) (fun ρ x_ t k=>(by kernel_rfl)) (fun x_ s=>by kernel_rfl))
theorem jg.p7:PcA jg.G Tryd.f56 7:=
  kn (s:=jg.c269640r) (by kernel_rfl) (by kernel_rfl) (jF (sh:=jg.c269640s) (fun ρ x_ k_=>(je fun _=>(jw (je fun _=>jc) (je fun _=>jc)))) (fun ρ x_ t k=>(by kernel_rfl)) (fun x_=>by kernel_rfl))
theorem jg.p8:PcA jg.G Tryd.f56 8:=
  jG (s:=jg.c19r) (by kernel_rfl) (by kernel_rfl) (jF (sh:=jg.c19s) (fun ρ x_ k_=>(je fun _=>(je fun _=>(je fun _=>jc)))) (fun ρ x_ t k=>(by kernel_rfl)) (fun x_=>by kernel_rfl))
theorem jg.ok:MOk Tryd.prog 56 jg.mc:=kb (G:=jg.G) Js mixed Tryd.func56 ⟨(Ja ke.ok (Ja Jn.ok (Ja Jz.ok Je))),(Jj jz.ok (Jj jQ.ok (Jj jK.ok jU))),jO,jT⟩ (m:=9) (by kernel_rfl) ⟨⟨⟨⟨⟨⟨⟨⟨⟨trivial,jg.p0⟩,jg.p1⟩,jg.p2⟩,jg.p3⟩,jg.p4⟩,jg.p5⟩,jg.p6⟩,jg.p7⟩,jg.p8⟩ (by kernel_rfl) jg.eq
abbrev ct41:SO:=.box [.selfp 5 72,.own 2005 0]
def jJ.c3 {ρ:Type}  (k_:Unit→Option ρ):Option ρ:=
  k_ ()
def jJ.c3s:Shape:=⟨[(0,ct4),(1,ct5),(2,ct28),(3,ct7),(4,ct23)],[(1,ct8),(3,ct17),(4,ct17)]⟩
def jJ.c3x0:Shape:=jJ.c3s
def jJ.c3r:Ck:=Ck.of (T:=Unit) jJ.c3s (fun ρ x_ k_=>jJ.c3  k_) (fun ρ x_ r_ k_=>k_ 0 (Shape.inj jJ.c3x0 (x_.1,(Array.toList (ByteArray.data (ByteArray.mk #[]))),x_.2.2.1,x_.2.2.2.1,x_.2.2.2.2.1,x_.2.2.2.2.2.2.2.1,x_.2.2.2.2.2.2.2.2.1,x_.2.2.2.2.2.2.2)))
def jJ.c5 {ρ:Type} (c0:Int) (c1:Int) (t2005:List (Int)) (k_:List (Int)→Option ρ):Option ρ:=
  bnd (W.Jz c0) fun y=>
  bnd (okIf (decide (List.length (Array.toList (ByteArray.data (ByteArray.mk #[(113:UInt8),(117:UInt8),(98:UInt8),(105:UInt8),(116:UInt8),(115:UInt8),(32:UInt8)])))+List.length y≤(9223372036854775807:Nat)))) fun y_1=>
  bnd (okIf (decide (List.length (Array.toList (ByteArray.data (ByteArray.mk #[(113:UInt8),(117:UInt8),(98:UInt8),(105:UInt8),(116:UInt8),(115:UInt8),(32:UInt8)]))++y)+List.length (Array.toList (ByteArray.data (ByteArray.mk #[(32:UInt8),(98:UInt8),(105:UInt8),(116:UInt8),(115:UInt8),(32:UInt8)])))≤(9223372036854775807:Nat)))) fun y_2=>
  bnd (W.Jz c1) fun y_3=>
  bnd (okIf (decide (List.length (Array.toList (ByteArray.data (ByteArray.mk #[(113:UInt8),(117:UInt8),(98:UInt8),(105:UInt8),(116:UInt8),(115:UInt8),(32:UInt8)]))++y++Array.toList (ByteArray.data (ByteArray.mk #[(32:UInt8),(98:UInt8),(105:UInt8),(116:UInt8),(115:UInt8),(32:UInt8)])))+List.length y_3≤(9223372036854775807:Nat)))) fun y_4=>
  bnd (okIf (decide (List.length (Array.toList (ByteArray.data (ByteArray.mk #[(113:UInt8),(117:UInt8),(98:UInt8),(105:UInt8),(116:UInt8),(115:UInt8),(32:UInt8)]))++y++Array.toList (ByteArray.data (ByteArray.mk #[(32:UInt8),(98:UInt8),(105:UInt8),(116:UInt8),(115:UInt8),(32:UInt8)]))++y_3)+List.length (Array.toList (ByteArray.data (ByteArray.mk #[(10:UInt8)])))≤(9223372036854775807:Nat)))) fun y_5=>
  bnd (W.jz (Array.toList (ByteArray.data (ByteArray.mk #[(113:UInt8),(117:UInt8),(98:UInt8),(105:UInt8),(116:UInt8),(115:UInt8),(32:UInt8)]))++y++Array.toList (ByteArray.data (ByteArray.mk #[(32:UInt8),(98:UInt8),(105:UInt8),(116:UInt8),(115:UInt8),(32:UInt8)]))++y_3++Array.toList (ByteArray.data (ByteArray.mk #[(10:UInt8)]))) t2005) fun y_6=>
  k_ y_6.2.2.1
def jJ.c5s:Shape:=⟨[(0,ct4),(1,ct5),(2,ct28),(3,ct7),(4,ct23),(5,ct19)],[(1,ct8),(3,ct17),(4,ct17),(5,ct41),(2005,ct33)]⟩
def jJ.c5x0:Shape:=jJ.c5s
def jJ.c5r:Ck:=Ck.of (T:=List (Int)) jJ.c5s (fun ρ x_ k_=>jJ.c5 x_.2.2.1 x_.2.2.2.1 x_.2.2.2.2.2.2.2.2.2.1 k_) (fun ρ x_ r_ k_=>k_ 0 (Shape.inj jJ.c5x0 (x_.1,x_.2.1,x_.2.2.1,x_.2.2.2.1,x_.2.2.2.2.1,x_.2.2.2.2.2.1,x_.2.2.2.2.2.2.1,x_.2.2.2.2.2.2.2.1,x_.2.2.2.2.2.2.2.2.1,r_,())))
def jJ.c100007 {ρ:Type} (t26:List ((Int)×((Int)×((List Int)×((Int)×((Int)×(List Int))))))) (t27:Int) (t28:Int) (t2005:List (Int)) (k_:((Int)×(List Int))⊕((Int)×(List Int))→Option ρ):Option ρ:=
  br (decide (t28 < t27))
   (bnd (idx t26 t28) fun y=>
    bnd (W.jg (y.1,y.2.1,y.2.2.1,y.2.2.2.1,y.2.2.2.2.1,y.2.2.2.2.2) t2005) fun y_1=>
    k_ (.inl ((IntKind.i64.wrap (t28+(1:Int))),y_1.1)))
   (k_ (.inr (t28,t2005)))
def jJ.c100007s:Shape:=⟨[(0,ct4),(1,ct5),(2,ct28),(3,ct7),(4,ct23),(5,ct19),(26,ct18),(27,ct2),(28,ct2)],[(1,ct8),(3,ct17),(4,ct17),(5,ct41),(2005,ct33)]⟩
def jJ.c100007x0:Shape:=jJ.c100007s
def jJ.c100007r:Ck:=Ck.ofLoop (S:=(Int)×(List Int)) (T:=(Int)×(List Int)) jJ.c100007s (fun x_=>(x_.2.2.2.2.1,x_.2.2.2.2.2.2.2.2.2.2.2.2.1)) (fun ρ x_ s_ k_=>jJ.c100007 x_.2.2.1 x_.2.2.2.1 s_.1 s_.2 k_) (fun ρ x_ r_ k_=>k_ 2 (Shape.inj jJ.c100007x0 (x_.1,x_.2.1,x_.2.2.1,x_.2.2.2.1,r_.1,x_.2.2.2.2.2.1,x_.2.2.2.2.2.2.1,x_.2.2.2.2.2.2.2.1,x_.2.2.2.2.2.2.2.2.1,x_.2.2.2.2.2.2.2.2.2.1,x_.2.2.2.2.2.2.2.2.2.2.1,x_.2.2.2.2.2.2.2.2.2.2.2.1,r_.2,())))
def jJ (c:(Int)×((Int)×(List ((Int)×((Int)×((List Int)×((Int)×((Int)×(List Int))))))))):Option ((List UInt8)×((Int)×(Int))):=
  bnd (W.jC (c.1,c.2.1,c.2.2)) fun y=>
  br (y.1 != (0:Int))
   (bnd (W.jJ.c3 some) fun y_1=>
    some (Array.toList (ByteArray.data (ByteArray.mk #[])),y.1,y.2))
   (bnd (W.jJ.c5 c.1 c.2.1 [] some) fun y_2=>
    bnd (iter (fun s↦W.jJ.c100007 c.2.2 (↑(List.length c.2.2):Int) s.1 s.2 some) ((0:Int),y_2)) fun y_3=>
    bnd (W.Ju y_3.2) fun y_4=>
    some (y_4.1,(0:Int),(0:Int)))
def jJ.ce:Go.Ql.Callee:=⟨[(.st (.pair (.int .i64) (.pair (.int .i64) (.sl (.st (.pair (.int .i64) (.pair (.int .i64) (.pair (.sl (.int .i64)) (.pair (.int .i64) (.pair (.int .i64) (.sl (.int .i64))))))))))))],[.str,(.st (.pair (.int .i64) (.int .i64)))],fun x_=>jJ x_⟩
def jJ.G:Env:=⟨37,tab,[(14,jC.ce),(55,Jz.ce)],[0,1,2,3,4,5,7,12,26,27,28,29],[5,2005],[(5,[⟨[],[],[19,20],[]⟩,⟨[0],[],[19,20],[]⟩,⟨[1,0],[],[19,20],[]⟩,⟨[2,1,0],[],[19,20,21],[]⟩,⟨[3,2,1,0],[],[19,20,21],[]⟩,⟨[],[],[14,15,16,17,18],[]⟩,⟨[5],[],[14,15,16,17,18],[]⟩,⟨[6,5,2,1,0],[],[17,18],[]⟩,⟨[4,3,2,1,0,7,6,5],[],[],[]⟩,⟨[8,4,3,2,1,0,7,6,5],[],[],[]⟩,⟨[9,8,4,3,2,1,0,7,6,5],[2005,5],[],[]⟩]),
  (3,[⟨[],[],[2],[]⟩,⟨[],[],[13],[]⟩,⟨[0,1],[3],[],[]⟩])],[(100007,jJ.c100007r),(5,jJ.c5r),(3,jJ.c3r)],[(54,jz.mc),(56,jg.mc),(57,Ju.mc)],Jf,[]⟩
theorem jJ.eq (x_:dens jJ.ce.params):den jJ.G Tryd.f32 jJ.ce.params jJ.ce.res x_=jJ.ce.F x_:=by kernel_rfl
theorem jJ.p0:PcA jJ.G Tryd.f32 0:=
  jG (s:=jJ.c3r) (by kernel_rfl) (by kernel_rfl) (jF (sh:=jJ.c3s) (fun ρ x_ k_=>jc) (fun ρ x_ t k=>(by kernel_rfl)) (fun x_=>by kernel_rfl))
theorem jJ.p1:PcA jJ.G Tryd.f32 1:=
  jG (s:=jJ.c5r) (by kernel_rfl) (by kernel_rfl) (jF (sh:=jJ.c5s) (fun ρ x_ k_=>(je fun _=>(je fun _=>(je fun _=>(je fun _=>(je fun _=>(je fun _=>(je fun _=>jc)))))))) (fun ρ x_ t k=>(by kernel_rfl)) (fun x_=>by kernel_rfl))
theorem jJ.p2:PcA jJ.G Tryd.f32 2:=
  JA (s:=jJ.c100007r) (by kernel_rfl) (by kernel_rfl) (Jt (sh:=jJ.c100007s) (I:=fun x_ s_=>(x_.1,x_.2.1,x_.2.2.1,x_.2.2.2.1,s_.1,x_.2.2.2.2.2.1,x_.2.2.2.2.2.2.1,x_.2.2.2.2.2.2.2.1,x_.2.2.2.2.2.2.2.2.1,x_.2.2.2.2.2.2.2.2.2.1,x_.2.2.2.2.2.2.2.2.2.2.1,x_.2.2.2.2.2.2.2.2.2.2.2.1,s_.2,())) (fun x_=>rfl) (fun ρ x_ s_ k_=>(jw (je fun _=>(je fun _=>jc)) jc)) (fun ρ x_ t k=>(by kernel_rfl)) (fun x_ s=>by kernel_rfl))
theorem jJ.ok:CalleeOk Tryd.prog 32 jJ.ce:=fn_ok (G:=jJ.G) Js mixed Tryd.func32 ⟨(Ja jC.ok (Ja Jz.ok Je)),(Jj jz.ok (Jj jg.ok (Jj Ju.ok jU))),jO,jT⟩ (m:=3) (by kernel_rfl) ⟨⟨⟨trivial,jJ.p0⟩,jJ.p1⟩,jJ.p2⟩ (by kernel_rfl) jJ.eq
def jY.c2 {ρ:Type} (t:List UInt8) (f0:Int) (k_:Bool→Option ρ):Option ρ:=
  br (f0 == (0:Int))
   (k_ (t == Array.toList (ByteArray.data (ByteArray.mk #[(113:UInt8),(117:UInt8),(98:UInt8),(105:UInt8),(116:UInt8),(115:UInt8),(32:UInt8),(50:UInt8),(32:UInt8),(98:UInt8),(105:UInt8),(116:UInt8),(115:UInt8),(32:UInt8),(49:UInt8),(10:UInt8),(104:UInt8),(32:UInt8),(48:UInt8),(10:UInt8),(120:UInt8),(32:UInt8),(49:UInt8),(32:UInt8),(111:UInt8),(110:UInt8),(32:UInt8),(48:UInt8),(10:UInt8),(109:UInt8),(101:UInt8),(97:UInt8),(115:UInt8),(117:UInt8),(114:UInt8),(101:UInt8),(32:UInt8),(49:UInt8),(32:UInt8),(116:UInt8),(111:UInt8),(32:UInt8),(48:UInt8),(32:UInt8),(105:UInt8),(102:UInt8),(32:UInt8),(33:UInt8),(48:UInt8),(10:UInt8)]))))
   (k_ false)
def jY.c2s:Shape:=⟨[(0,ct11),(1,ct28),(2,ct6)],[(2,ct17)]⟩
def jY.c2x0:Shape:=jY.c2s
def jY.c2r:Ck:=Ck.of (T:=Bool) jY.c2s (fun ρ x_ k_=>jY.c2 x_.2.1 x_.2.2.1 k_) (fun ρ x_ r_ k_=>k_ 0 (Shape.inj jY.c2x0 (r_,x_.2)))
def jY  : Option Bool:=
  bnd W.ki fun y=>
  bnd (W.jJ y) fun y_1=>
  bnd (W.jY.c2 y_1.1 y_1.2.1 some) fun y_2=>
  some y_2
def jY.ce:Go.Ql.Callee:=⟨[],[.bool],fun x_=>jY⟩
def jY.G:Env:=⟨15,tab,[(39,ki.ce),(32,jJ.ce)],[0,1,2],[],[],[(2,jY.c2r)],[],Jf,[]⟩
theorem jY.eq (x_:dens jY.ce.params):den jY.G Tryd.f13 jY.ce.params jY.ce.res x_=jY.ce.F x_:=by kernel_rfl
theorem jY.p0:PcA jY.G Tryd.f13 0:=
  jG (s:=jY.c2r) (by kernel_rfl) (by kernel_rfl) (jF (sh:=jY.c2s) (fun ρ x_ k_=>(jw jc jc)) (fun ρ x_ t k=>(by kernel_rfl)) (fun x_=>by kernel_rfl))
theorem jY.ok:CalleeOk Tryd.prog 13 jY.ce:=fn_ok (G:=jY.G) Js mixed Tryd.func13 ⟨(Ja ki.ok (Ja jJ.ok Je)),jU,jO,jT⟩ (m:=1) (by kernel_rfl) ⟨trivial,jY.p0⟩ (by kernel_rfl) jY.eq
def jP.c6 {ρ:Type} (a:List (Int)) (b:List (Int)) (i:Int) (k_:Bool→Option ρ):Option ρ:=
  bnd (idx a i) fun y=>
  bnd (idx b i) fun y_1=>
  k_ (y != y_1)
def jP.c6s:Shape:=⟨[(0,ct0),(1,ct0),(4,ct11),(5,ct2)],[]⟩
def jP.c6x0:Shape:=⟨[(0,ct0),(1,ct0),(4,ct11),(5,ct2),(25,ct11)],[]⟩
def jP.c6r:Ck:=Ck.of (T:=Bool) jP.c6s (fun ρ x_ k_=>jP.c6 x_.1 x_.2.1 x_.2.2.2.1 k_) (fun ρ x_ r_ k_=>k_ 0 (Shape.inj jP.c6x0 (x_.1,x_.2.1,x_.2.2.1,x_.2.2.2.1,r_,())))
def jP.c100004 {ρ:Type} (a:List (Int)) (b:List (Int)) (i:Int) (k_:(Int)⊕((Int)⊕(Int))→Option ρ):Option ρ:=
  br (decide (i < (↑(List.length a):Int)))
   (bnd (W.jP.c6 a b i some) fun y=>
    br y
     (k_ (.inr (.inl i)))
     (k_ (.inl (IntKind.i64.wrap (i+(1:Int))))))
   (k_ (.inr (.inr i)))
def jP.c100004s:Shape:=jP.c6s
def jP.c100004x0:Shape:=jP.c6s
def jP.c100004x1:Shape:=jP.c6s
def jP.c100004r:Ck:=Ck.ofLoop (S:=Int) (T:=(Int)⊕(Int)) jP.c100004s (fun x_=>x_.2.2.2.1) (fun ρ x_ s_ k_=>jP.c100004 x_.1 x_.2.1 s_ k_) (fun ρ x_ r_ k_=>sel r_ (fun r_=>k_ 1 (Shape.inj jP.c100004x0 (x_.1,x_.2.1,false,r_,()))) (fun r_=>k_ 2 (Shape.inj jP.c100004x1 (x_.1,x_.2.1,x_.2.2.1,r_,()))))
def jP (a:List (Int)) (b:List (Int)):Option Bool:=
  br ((↑(List.length a):Int) != (↑(List.length b):Int))
   (some false)
   (bnd (iter (fun s↦W.jP.c100004 a b s some) (0:Int)) fun y=>
    sel y
     (fun u=>some false)
     (fun v=>some true))
def jP.ce:Go.Ql.Callee:=⟨[(.sl (.int .i64)),(.sl (.int .i64))],[.bool],fun x_=>jP x_.1 x_.2⟩
def jP.G:Env:=⟨26,tab,[],[0,1,4,5,10,14,25],[],[(6,[⟨[],[],[18,21,22,23,24],[]⟩,⟨[],[],[17,21,22,23,24],[]⟩,⟨[0,1],[],[21,22,23,24],[]⟩,⟨[2,0,1],[],[21,22,23,24],[]⟩,⟨[],[],[17,18,19,20,22],[]⟩,⟨[],[],[17,18,19,20,21],[]⟩,⟨[4,5],[],[17,18,19,20],[]⟩,⟨[6,4,5],[],[17,18,19,20],[]⟩,⟨[3,2,0,1,7,6,4,5],[],[],[]⟩])],[(100004,jP.c100004r),(6,jP.c6r)],[],Jf,[]⟩
theorem jP.eq (x_:dens jP.ce.params):den jP.G Tryd.f30 jP.ce.params jP.ce.res x_=jP.ce.F x_:=by kernel_rfl
theorem jP.p0:PcA jP.G Tryd.f30 0:=
  JA (s:=jP.c100004r) (by kernel_rfl) (by kernel_rfl) (Jt (sh:=jP.c100004s) (I:=fun x_ s_=>(x_.1,x_.2.1,x_.2.2.1,s_,())) (fun x_=>rfl) (fun ρ x_ s_ k_=>(jw (je fun _=>(jw jc jc)) jc)) (fun ρ x_ t k=>(kB (fun _=>(by kernel_rfl)) (fun _=>(by kernel_rfl)))) (fun x_ s=>by kernel_rfl))
theorem jP.p1:PcA jP.G Tryd.f30 1:=
  jG (s:=jP.c6r) (by kernel_rfl) (by kernel_rfl) (jF (sh:=jP.c6s) (fun ρ x_ k_=>(je fun _=>(je fun _=>jc))) (fun ρ x_ t k=>(by kernel_rfl)) (fun x_=>by kernel_rfl))
theorem jP.ok:CalleeOk Tryd.prog 30 jP.ce:=fn_ok (G:=jP.G) Js mixed Tryd.func30 ⟨Je,jU,jO,jT⟩ (m:=2) (by kernel_rfl) ⟨⟨trivial,jP.p0⟩,jP.p1⟩ (by kernel_rfl) jP.eq
abbrev ct42:SD:=.one (.ref 6 0)
def jt.c1 {ρ:Type} (a0:Int) (a1:Int) (a2:List ((Int)×((Int)×((List Int)×((Int)×((Int)×(List Int))))))) (b0:Int) (b1:Int) (b2:List ((Int)×((Int)×((List Int)×((Int)×((Int)×(List Int))))))) (k_:Bool→Option ρ):Option ρ:=
  br (a0 != b0)
   (k_ true)
   (br (a1 != b1)
     (k_ true)
     (k_ ((↑(List.length a2):Int) != (↑(List.length b2):Int))))
def jt.c1s:Shape:=⟨[(0,ct4),(1,ct4),(2,ct6),(3,ct7),(4,ct11)],[(2,ct8),(3,ct8)]⟩
def jt.c1x0:Shape:=⟨[(0,ct4),(1,ct4),(2,ct6),(3,ct7),(4,ct11),(28,ct11)],[(2,ct8),(3,ct8)]⟩
def jt.c1r:Ck:=Ck.of (T:=Bool) jt.c1s (fun ρ x_ k_=>jt.c1 x_.2.2.2.1 x_.2.2.2.2.1 x_.2.2.2.2.2.1 x_.2.2.2.2.2.2.1 x_.2.2.2.2.2.2.2.1 x_.2.2.2.2.2.2.2.2.1 k_) (fun ρ x_ r_ k_=>k_ 0 (Shape.inj jt.c1x0 (x_.1,x_.2.1,x_.2.2.1,r_,x_.2.2.2)))
def jt.c8 {ρ:Type} (x0:Int) (x1:Int) (x2:List (Int)) (x3:Int) (x4:Int) (x5:List (Int)) (y0:Int) (y1:Int) (y2:List (Int)) (y3:Int) (y4:Int) (y5:List (Int)) (k_:Bool→Option ρ):Option ρ:=
  br (x0 != y0)
   (k_ true)
   (br (x1 != y1)
     (k_ true)
     (br (x3 != y3)
       (k_ true)
       (br (x4 != y4)
         (k_ true)
         (bnd (W.jP x2 y2) fun y=>
          br (!y)
           (k_ true)
           (bnd (W.jP x5 y5) fun y_1=>
            k_ (!y_1))))))
def jt.c8s:Shape:=⟨[(0,ct4),(1,ct4),(2,ct6),(3,ct7),(4,ct11),(5,ct2),(6,ct42),(7,ct24)],[(2,ct8),(3,ct8),(6,ct14),(7,ct14)]⟩
def jt.c8x0:Shape:=⟨[(0,ct4),(1,ct4),(2,ct6),(3,ct7),(4,ct11),(5,ct2),(6,ct42),(7,ct24),(87,ct11)],[(2,ct8),(3,ct8),(6,ct14),(7,ct14)]⟩
def jt.c8r:Ck:=Ck.of (T:=Bool) jt.c8s (fun ρ x_ k_=>jt.c8 x_.2.2.2.2.2.2.2.2.2.2.1 x_.2.2.2.2.2.2.2.2.2.2.2.1 x_.2.2.2.2.2.2.2.2.2.2.2.2.1 x_.2.2.2.2.2.2.2.2.2.2.2.2.2.1 x_.2.2.2.2.2.2.2.2.2.2.2.2.2.2.1 x_.2.2.2.2.2.2.2.2.2.2.2.2.2.2.2.1 x_.2.2.2.2.2.2.2.2.2.2.2.2.2.2.2.2.1 x_.2.2.2.2.2.2.2.2.2.2.2.2.2.2.2.2.2.1 x_.2.2.2.2.2.2.2.2.2.2.2.2.2.2.2.2.2.2.1 x_.2.2.2.2.2.2.2.2.2.2.2.2.2.2.2.2.2.2.2.1 x_.2.2.2.2.2.2.2.2.2.2.2.2.2.2.2.2.2.2.2.2.1 x_.2.2.2.2.2.2.2.2.2.2.2.2.2.2.2.2.2.2.2.2.2.1 k_) (fun ρ x_ r_ k_=>k_ 0 (Shape.inj jt.c8x0 (x_.1,x_.2.1,x_.2.2.1,x_.2.2.2.1,r_,x_.2.2.2.2)))
def jt.c100004 {ρ:Type} (i:Int) (a2:List ((Int)×((Int)×((List Int)×((Int)×((Int)×(List Int))))))) (b2:List ((Int)×((Int)×((List Int)×((Int)×((Int)×(List Int))))))) (k_:(Int)⊕((Int)⊕(Int))→Option ρ):Option ρ:=
  br (decide (i < (↑(List.length a2):Int)))
   (bnd (idx a2 i) fun y=>
    bnd (idx b2 i) fun y_1=>
    bnd (W.jt.c8 y.1 y.2.1 y.2.2.1 y.2.2.2.1 y.2.2.2.2.1 y.2.2.2.2.2 y_1.1 y_1.2.1 y_1.2.2.1 y_1.2.2.2.1 y_1.2.2.2.2.1 y_1.2.2.2.2.2 some) fun y_2=>
    br y_2
     (k_ (.inr (.inl i)))
     (k_ (.inl (IntKind.i64.wrap (i+(1:Int))))))
   (k_ (.inr (.inr i)))
def jt.c100004s:Shape:=⟨[(0,ct4),(1,ct4),(2,ct6),(3,ct7),(4,ct11),(5,ct2)],[(2,ct8),(3,ct8)]⟩
def jt.c100004x0:Shape:=jt.c100004s
def jt.c100004x1:Shape:=jt.c100004s
def jt.c100004r:Ck:=Ck.ofLoop (S:=Int) (T:=(Int)⊕(Int)) jt.c100004s (fun x_=>x_.2.2.2.1) (fun ρ x_ s_ k_=>jt.c100004 s_ x_.2.2.2.2.2.2.1 x_.2.2.2.2.2.2.2.2.2.1 k_) (fun ρ x_ r_ k_=>sel r_ (fun r_=>k_ 1 (Shape.inj jt.c100004x0 (x_.1,x_.2.1,false,r_,x_.2.2.2.2))) (fun r_=>k_ 2 (Shape.inj jt.c100004x1 (x_.1,x_.2.1,x_.2.2.1,r_,x_.2.2.2.2))))
def jt (a:(Int)×((Int)×(List ((Int)×((Int)×((List Int)×((Int)×((Int)×(List Int))))))))) (b:(Int)×((Int)×(List ((Int)×((Int)×((List Int)×((Int)×((Int)×(List Int))))))))):Option Bool:=
  bnd (W.jt.c1 a.1 a.2.1 a.2.2 b.1 b.2.1 b.2.2 some) fun y=>
  br y
   (some false)
   (bnd (iter (fun s↦W.jt.c100004 s a.2.2 b.2.2 some) (0:Int)) fun y_1=>
    sel y_1
     (fun u=>some false)
     (fun v=>some true))
def jt.ce:Go.Ql.Callee:=⟨[(.st (.pair (.int .i64) (.pair (.int .i64) (.sl (.st (.pair (.int .i64) (.pair (.int .i64) (.pair (.sl (.int .i64)) (.pair (.int .i64) (.pair (.int .i64) (.sl (.int .i64)))))))))))),(.st (.pair (.int .i64) (.pair (.int .i64) (.sl (.st (.pair (.int .i64) (.pair (.int .i64) (.pair (.sl (.int .i64)) (.pair (.int .i64) (.pair (.int .i64) (.sl (.int .i64))))))))))))],[.bool],fun x_=>jt x_.1 x_.2⟩
def jt.G:Env:=⟨88,tab,[(30,jP.ce)],[0,1,2,3,4,5,6,7,28,33,87],[],[],[(100004,jt.c100004r),(8,jt.c8r),(1,jt.c1r)],[],Jf,[]⟩
theorem jt.eq (x_:dens jt.ce.params):den jt.G Tryd.f29 jt.ce.params jt.ce.res x_=jt.ce.F x_:=by kernel_rfl
theorem jt.p0:PcA jt.G Tryd.f29 0:=
  jG (s:=jt.c1r) (by kernel_rfl) (by kernel_rfl) (jF (sh:=jt.c1s) (fun ρ x_ k_=>(jw jc (jw jc jc))) (fun ρ x_ t k=>(by kernel_rfl)) (fun x_=>by kernel_rfl))
theorem jt.p1:PcA jt.G Tryd.f29 1:=
  JA (s:=jt.c100004r) (by kernel_rfl) (by kernel_rfl) (Jt (sh:=jt.c100004s) (I:=fun x_ s_=>(x_.1,x_.2.1,x_.2.2.1,s_,x_.2.2.2.2)) (fun x_=>rfl) (fun ρ x_ s_ k_=>(jw (je fun _=>(je fun _=>(je fun _=>(jw jc jc)))) jc)) (fun ρ x_ t k=>(kB (fun _=>(by kernel_rfl)) (fun _=>(by kernel_rfl)))) (fun x_ s=>by kernel_rfl))
theorem jt.p2:PcA jt.G Tryd.f29 2:=
  jG (s:=jt.c8r) (by kernel_rfl) (by kernel_rfl) (jF (sh:=jt.c8s) (fun ρ x_ k_=>(jw jc (jw jc (jw jc (jw jc (je fun _=>(jw jc (je fun _=>jc)))))))) (fun ρ x_ t k=>(by kernel_rfl)) (fun x_=>by kernel_rfl))
theorem jt.ok:CalleeOk Tryd.prog 29 jt.ce:=fn_ok (G:=jt.G) Js mixed Tryd.func29 ⟨(Ja jP.ok Je),jU,jO,jT⟩ (m:=3) (by kernel_rfl) ⟨⟨⟨trivial,jt.p0⟩,jt.p1⟩,jt.p2⟩ (by kernel_rfl) jt.eq
abbrev ct43:SD:=.one (.val (.st (.pair (.int .i64) (.int .i64))))
def jZ.c1 {ρ:Type} (c0:Int) (c1:Int) (c2:List ((Int)×((Int)×((List Int)×((Int)×((Int)×(List Int))))))) (f0:Int) (f1:Int) (d0:Int) (d1:Int) (d2:List ((Int)×((Int)×((List Int)×((Int)×((Int)×(List Int))))))) (g0:Int) (g1:Int) (k_:Bool→Option ρ):Option ρ:=
  br (Ty.eqT (Ty.pair (Ty.int IntKind.i64) (Ty.int IntKind.i64)) (f0,f1) (g0,g1))
   (bnd (W.jt (c0,c1,c2) (d0,d1,d2)) fun y=>
    k_ y)
   (k_ false)
def jZ.c1s:Shape:=⟨[(0,ct4),(1,ct43),(2,ct4),(3,ct43),(4,ct23),(5,ct19),(6,ct42),(7,ct24),(8,ct11)],[(4,ct8),(5,ct17),(6,ct8),(7,ct17)]⟩
def jZ.c1x0:Shape:=jZ.c1s
def jZ.c1r:Ck:=Ck.of (T:=Bool) jZ.c1s (fun ρ x_ k_=>jZ.c1 x_.2.2.2.2.2.1 x_.2.2.2.2.2.2.1 x_.2.2.2.2.2.2.2.1 x_.2.2.2.2.2.2.2.2.1 x_.2.2.2.2.2.2.2.2.2.1 x_.2.2.2.2.2.2.2.2.2.2.1 x_.2.2.2.2.2.2.2.2.2.2.2.1 x_.2.2.2.2.2.2.2.2.2.2.2.2.1 x_.2.2.2.2.2.2.2.2.2.2.2.2.2.1 x_.2.2.2.2.2.2.2.2.2.2.2.2.2.2.1 k_) (fun ρ x_ r_ k_=>k_ 0 (Shape.inj jZ.c1x0 (x_.1,x_.2.1,x_.2.2.1,x_.2.2.2.1,r_,x_.2.2.2.2.2)))
def jZ (c:(Int)×((Int)×(List ((Int)×((Int)×((List Int)×((Int)×((Int)×(List Int))))))))) (f:(Int)×(Int)) (d:(Int)×((Int)×(List ((Int)×((Int)×((List Int)×((Int)×((Int)×(List Int))))))))) (g:(Int)×(Int)):Option Bool:=
  bnd (W.jZ.c1 c.1 c.2.1 c.2.2 f.1 f.2 d.1 d.2.1 d.2.2 g.1 g.2 some) fun y=>
  some y
def jZ.ce:Go.Ql.Callee:=⟨[(.st (.pair (.int .i64) (.pair (.int .i64) (.sl (.st (.pair (.int .i64) (.pair (.int .i64) (.pair (.sl (.int .i64)) (.pair (.int .i64) (.pair (.int .i64) (.sl (.int .i64)))))))))))),(.st (.pair (.int .i64) (.int .i64))),(.st (.pair (.int .i64) (.pair (.int .i64) (.sl (.st (.pair (.int .i64) (.pair (.int .i64) (.pair (.sl (.int .i64)) (.pair (.int .i64) (.pair (.int .i64) (.sl (.int .i64)))))))))))),(.st (.pair (.int .i64) (.int .i64)))],[.bool],fun x_=>jZ x_.1 x_.2.1 x_.2.2.1 x_.2.2.2⟩
def jZ.G:Env:=⟨17,tab,[(29,jt.ce)],[0,1,2,3,4,5,6,7,8],[],[],[(1,jZ.c1r)],[],Jf,[]⟩
theorem jZ.eq (x_:dens jZ.ce.params):den jZ.G Tryd.f20 jZ.ce.params jZ.ce.res x_=jZ.ce.F x_:=by kernel_rfl
theorem jZ.p0:PcA jZ.G Tryd.f20 0:=
  jG (s:=jZ.c1r) (by kernel_rfl) (by kernel_rfl) (jF (sh:=jZ.c1s) (fun ρ x_ k_=>(jw (je fun _=>jc) jc)) (fun ρ x_ t k=>(by kernel_rfl)) (fun x_=>by kernel_rfl))
theorem jZ.ok:CalleeOk Tryd.prog 20 jZ.ce:=fn_ok (G:=jZ.G) Js mixed Tryd.func20 ⟨(Ja jt.ok Je),jU,jO,jT⟩ (m:=1) (by kernel_rfl) ⟨trivial,jZ.p0⟩ (by kernel_rfl) jZ.eq
def jN.c100002 {ρ:Type} (s:List (Int)) (v:Int) (t7:Int) (t8:Int) (k_:(Int)⊕(((Int)×(Int))⊕(Int))→Option ρ):Option ρ:=
  br (decide (t8 < t7))
   (bnd (idx s t8) fun y=>
    br (v == y)
     (k_ (.inr (.inl (t8,t8))))
     (k_ (.inl (IntKind.i64.wrap (t8+(1:Int))))))
   (k_ (.inr (.inr t8)))
def jN.c100002s:Shape:=⟨[(0,ct0),(1,ct2),(4,ct2),(7,ct2),(8,ct2)],[]⟩
def jN.c100002x0:Shape:=jN.c100002s
def jN.c100002x1:Shape:=jN.c100002s
def jN.c100002r:Ck:=Ck.ofLoop (S:=Int) (T:=((Int)×(Int))⊕(Int)) jN.c100002s (fun x_=>x_.2.2.2.2.1) (fun ρ x_ s_ k_=>jN.c100002 x_.1 x_.2.1 x_.2.2.2.1 s_ k_) (fun ρ x_ r_ k_=>sel r_ (fun r_=>k_ 1 (Shape.inj jN.c100002x0 (x_.1,x_.2.1,r_.1,x_.2.2.2.1,r_.2,()))) (fun r_=>k_ 2 (Shape.inj jN.c100002x1 (x_.1,x_.2.1,x_.2.2.1,x_.2.2.2.1,r_,()))))
def jN (s:List (Int)) (v:Int):Option (Int):=
  bnd (iter (fun s_1↦W.jN.c100002 s v (↑(List.length s):Int) s_1 some) (0:Int)) fun y=>
  sel y
   (fun u=>some u.1)
   (fun v_1=>some (-1:Int))
def jN.ce:Go.Ql.Callee:=⟨[(.sl (.int .i64)),(.int .i64)],[(.int .i64)],fun x_=>jN x_.1 x_.2⟩
def jN.G:Env:=⟨19,tab,[],[0,1,4,5,7,8,9,16],[],[],[(100002,jN.c100002r)],[],Jf,[]⟩
theorem jN.eq (x_:dens jN.ce.params):den jN.G Tryd.f71 jN.ce.params jN.ce.res x_=jN.ce.F x_:=by kernel_rfl
theorem jN.p0:PcA jN.G Tryd.f71 0:=
  JA (s:=jN.c100002r) (by kernel_rfl) (by kernel_rfl) (Jt (sh:=jN.c100002s) (I:=fun x_ s_=>(x_.1,x_.2.1,x_.2.2.1,x_.2.2.2.1,s_,())) (fun x_=>rfl) (fun ρ x_ s_ k_=>(jw (je fun _=>(jw jc jc)) jc)) (fun ρ x_ t k=>(kB (fun _=>(by kernel_rfl)) (fun _=>(by kernel_rfl)))) (fun x_ s=>by kernel_rfl))
theorem jN.ok:CalleeOk Tryd.prog 71 jN.ce:=fn_ok (G:=jN.G) Js mixed Tryd.func71 ⟨Je,jU,jO,jT⟩ (m:=1) (by kernel_rfl) ⟨trivial,jN.p0⟩ (by kernel_rfl) jN.eq
def Jq (s:List (Int)) (v:Int):Option Bool:=
  bnd (W.jN s v) fun y=>
  some (decide (y≥(0:Int)))
def Jq.ce:Go.Ql.Callee:=⟨[(.sl (.int .i64)),(.int .i64)],[.bool],fun x_=>Jq x_.1 x_.2⟩
def Jq.G:Env:=⟨9,tab,[(71,jN.ce)],[0,1,4],[],[],[],[],Jf,[]⟩
theorem Jq.eq (x_:dens Jq.ce.params):den Jq.G Tryd.f50 Jq.ce.params Jq.ce.res x_=Jq.ce.F x_:=by kernel_rfl
theorem Jq.ok:CalleeOk Tryd.prog 50 Jq.ce:=fn_ok (G:=Jq.G) Js mixed Tryd.func50 ⟨(Ja jN.ok Je),jU,jO,jT⟩ (m:=0) (by kernel_rfl) trivial (by kernel_rfl) Jq.eq
end
end W
end
