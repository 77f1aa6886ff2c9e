/- Lifted functions, part 2: each with its contract. -/
import Derived.Test.YtcndclcpmelgoaaDoorWaT
import Derived.Test.YtcndclcpmelgoaaDoorProg
set_option linter.all false
section
set_option maxHeartbeats 4000000
set_option maxRecDepth 100000
set_option linter.unusedVariables false
namespace W
open Go Go.Ql Go.Proofs
noncomputable section
abbrev ct56:SO:=.clo 53 [] [.ref 1000101 0]
def jp.pre:Shape:=⟨[(0,ct4),(1,ct45)],[(1000100,ct56),(1000101,ct53)]⟩
def jp.post:Shape:=⟨[(0,ct4)],[(1000100,ct56),(1000101,ct53)]⟩
def jp.c5 {ρ:Type} (o0:Int) (o1:Int) (o2:List (Int)) (o3:Int) (o4:Int) (o5:List (Int)) (t3005:List ((Int)×((Int)×((List Int)×((Int)×((Int)×(List Int))))))) (t10001010:List (Int)) (k_:(List ((Int)×((Int)×((List Int)×((Int)×((Int)×(List Int)))))))×(List Int)→Option ρ):Option ρ:=
  bnd (W.jG (o0,o1,o2,o3,o4,o5)) fun y=>
  bnd (W.jq y.1 y.2.1 y.2.2.1 y.2.2.2.1 y.2.2.2.2.1 y.2.2.2.2.2.1 t10001010) fun y_1=>
  bnd (okIf (decide ((List.length t3005+(1:Nat))*(80:Nat)≤(140737488355328:Nat)) && decide (List.length t3005+(1:Nat)≤(140737488355328:Nat)))) fun y_2=>
  k_ ((t3005++[(y_1.1,y_1.2.1,y_1.2.2.2.2.2.1,y_1.2.2.1,y_1.2.2.2.1,y_1.2.2.2.2.1)]),y_1.2.2.2.2.2.2.1)
def jp.c5s:Shape:=⟨[(0,ct4),(1,ct45),(2,ct6),(4,ct23),(5,ct19),(7,ct24),(14,ct18),(15,ct2),(16,ct2)],[(2,ct8),(4,ct8),(5,ct26),(7,ct14),(3005,ct10),(1000100,ct56),(1000101,ct53)]⟩
def jp.c5x0:Shape:=jp.c5s
def jp.c5r:Ck:=Ck.of (T:=(List ((Int)×((Int)×((List Int)×((Int)×((Int)×(List Int)))))))×(List Int)) jp.c5s (fun ρ x_ k_=>jp.c5 x_.2.2.2.2.2.2.2.2.2.2.2.2.1 x_.2.2.2.2.2.2.2.2.2.2.2.2.2.1 x_.2.2.2.2.2.2.2.2.2.2.2.2.2.2.1 x_.2.2.2.2.2.2.2.2.2.2.2.2.2.2.2.1 x_.2.2.2.2.2.2.2.2.2.2.2.2.2.2.2.2.1 x_.2.2.2.2.2.2.2.2.2.2.2.2.2.2.2.2.2.1 x_.2.2.2.2.2.2.2.2.2.2.2.2.2.2.2.2.2.2.1 x_.2.2.2.2.2.2.2.2.2.2.2.2.2.2.2.2.2.2.2.1 k_) (fun ρ x_ r_ k_=>k_ 0 (Shape.inj jp.c5x0 (x_.1,x_.2.1,x_.2.2.1,x_.2.2.2.1,x_.2.2.2.2.1,x_.2.2.2.2.2.1,x_.2.2.2.2.2.2.1,x_.2.2.2.2.2.2.2.1,x_.2.2.2.2.2.2.2.2.1,x_.2.2.2.2.2.2.2.2.2.1,x_.2.2.2.2.2.2.2.2.2.2.1,x_.2.2.2.2.2.2.2.2.2.2.2.1,x_.2.2.2.2.2.2.2.2.2.2.2.2.1,x_.2.2.2.2.2.2.2.2.2.2.2.2.2.1,x_.2.2.2.2.2.2.2.2.2.2.2.2.2.2.1,x_.2.2.2.2.2.2.2.2.2.2.2.2.2.2.2.1,x_.2.2.2.2.2.2.2.2.2.2.2.2.2.2.2.2.1,x_.2.2.2.2.2.2.2.2.2.2.2.2.2.2.2.2.2.1,r_.1,r_.2,())))
def jp.c100003 {ρ:Type} (t14:List ((Int)×((Int)×((List Int)×((Int)×((Int)×(List Int))))))) (t15:Int) (t16:Int) (t3005:List ((Int)×((Int)×((List Int)×((Int)×((Int)×(List Int))))))) (t10001010:List (Int)) (k_:((Int)×(List ((Int)×((Int)×((List Int)×((Int)×((Int)×(List Int)))))))×(List Int))⊕((Int)×(List ((Int)×((Int)×((List Int)×((Int)×((Int)×(List Int)))))))×(List Int))→Option ρ):Option ρ:=
  br (decide (t16 < t15))
   (bnd (idx t14 t16) fun y=>
    bnd (W.jp.c5 y.1 y.2.1 y.2.2.1 y.2.2.2.1 y.2.2.2.2.1 y.2.2.2.2.2 t3005 t10001010 some) fun y_1=>
    k_ (.inl ((IntKind.i64.wrap (t16+(1:Int))),y_1.1,y_1.2)))
   (k_ (.inr (t16,t3005,t10001010)))
def jp.c100003s:Shape:=⟨[(0,ct4),(1,ct45),(2,ct6),(4,ct23),(5,ct19),(14,ct18),(15,ct2),(16,ct2)],[(2,ct8),(4,ct8),(5,ct26),(3005,ct10),(1000100,ct56),(1000101,ct53)]⟩
def jp.c100003x0:Shape:=jp.c100003s
def jp.c100003r:Ck:=Ck.ofLoop (S:=(Int)×(List ((Int)×((Int)×((List Int)×((Int)×((Int)×(List Int)))))))×(List Int)) (T:=(Int)×(List ((Int)×((Int)×((List Int)×((Int)×((Int)×(List Int)))))))×(List Int)) jp.c100003s (fun x_=>(x_.2.2.2.1,x_.2.2.2.2.2.2.2.2.2.2.2.2.1,x_.2.2.2.2.2.2.2.2.2.2.2.2.2.1)) (fun ρ x_ s_ k_=>jp.c100003 x_.2.1 x_.2.2.1 s_.1 s_.2.1 s_.2.2 k_) (fun ρ x_ r_ k_=>k_ 2 (Shape.inj jp.c100003x0 (x_.1,x_.2.1,x_.2.2.1,r_.1,x_.2.2.2.2.1,x_.2.2.2.2.2.1,x_.2.2.2.2.2.2.1,x_.2.2.2.2.2.2.2.1,x_.2.2.2.2.2.2.2.2.1,x_.2.2.2.2.2.2.2.2.2.1,x_.2.2.2.2.2.2.2.2.2.2.1,x_.2.2.2.2.2.2.2.2.2.2.2.1,r_.2.1,r_.2.2,())))
def jp (c:(Int)×((Int)×(List ((Int)×((Int)×((List Int)×((Int)×((Int)×(List Int))))))))) (t10001010:List (Int)):Option (((Int)×((Int)×(List ((Int)×((Int)×((List Int)×((Int)×((Int)×(List Int)))))))))×(List Int)×Unit):=
  bnd (iter (fun s↦W.jp.c100003 c.2.2 (↑(List.length c.2.2):Int) s.1 s.2.1 s.2.2 some) ((0:Int),[],t10001010)) fun y=>
  some ((c.1,c.2.1,y.2.1),y.2.2,())
def jp.mc:MCallee:=⟨46,jp.pre,jp.post,fun x_=>jp x_.1 x_.2.1⟩
def jp.G:Env:=⟨31,tab,[],[0,1,2,4,5,7,14,15,16,17],[2,5,12,24,2024,3002,3005],[(5,[⟨[],[],[22,23,24,25,26],[2024,1000101,26]⟩,⟨[0],[],[22,23,24,25,26],[2024,1000101,26]⟩,⟨[],[],[20,21,23,24],[2024]⟩,⟨[],[],[20,21,22],[]⟩,⟨[3],[2024],[20,21,22],[]⟩,⟨[2,4,3],[2024,1000101],[20,21],[]⟩,⟨[5,2,4,3],[2024,26],[20,21],[]⟩,⟨[1,0,6,5,2,4,3],[3005],[],[]⟩,⟨[0,1,2,3,4,5,6,7],[],[],[]⟩,⟨[8,0,1,2,3,4,5,6,7],[5],[],[]⟩])],[(100003,jp.c100003r),(5,jp.c5r)],[(45,jG.mc),(53,jq.mc)],Jc,[]⟩
theorem jp.eq (x_:densU jp.mc.pre.tys):denM jp.G Tryd.f46 jp.mc.pre jp.mc.post x_=jp.mc.F x_:=by kernel_rfl
theorem jp.p0:PcA jp.G Tryd.f46 0:=
  JD (s:=jp.c100003r) (by kernel_rfl) (by kernel_rfl) (Ju (sh:=jp.c100003s) (I:=fun x_ s_=>(x_.1,x_.2.1,x_.2.2.1,s_.1,x_.2.2.2.2.1,x_.2.2.2.2.2.1,x_.2.2.2.2.2.2.1,x_.2.2.2.2.2.2.2.1,x_.2.2.2.2.2.2.2.2.1,x_.2.2.2.2.2.2.2.2.2.1,x_.2.2.2.2.2.2.2.2.2.2.1,x_.2.2.2.2.2.2.2.2.2.2.2.1,s_.2.1,s_.2.2,())) (fun x_=>rfl) (fun ρ x_ s_ k_=>(jr (jf fun _=>(jf fun _=>ja)) ja)) (fun ρ x_ t k=>(by kernel_rfl)) (fun x_ s=>by kernel_rfl))
theorem jp.p1:PcA jp.G Tryd.f46 1:=
  jC (s:=jp.c5r) (by kernel_rfl) (by kernel_rfl) (jH (sh:=jp.c5s) (fun ρ x_ k_=>(jf fun _=>(jf fun _=>(jf fun _=>ja)))) (fun ρ x_ t k=>(by kernel_rfl)) (fun x_=>by kernel_rfl))
theorem jp.ok:MOk Tryd.prog 46 jp.mc:=kW (G:=jp.G) Jm mixed Tryd.func46 ⟨Je,(JG jG.ok (JG jq.ok jW)),jK,jV⟩ (m:=2) (by kernel_rfl) ⟨⟨trivial,jp.p0⟩,jp.p1⟩ (by kernel_rfl) jp.eq
abbrev ct57:SD:=.one (.ref 8 0)
def js.c3 {ρ:Type}  (k_:Unit→Option ρ):Option ρ:=
  k_ ()
def js.c3s:Shape:=⟨[(0,ct4),(1,ct0),(2,ct2),(3,ct7),(4,ct23),(6,ct42),(7,ct24),(8,ct57)],[(3,ct8),(4,ct53),(6,ct8),(7,ct17),(8,ct17)]⟩
def js.c3x0:Shape:=js.c3s
def js.c3r:Ck:=Ck.of (T:=Unit) js.c3s (fun ρ x_ k_=>js.c3  k_) (fun ρ x_ r_ k_=>k_ 0 (Shape.inj js.c3x0 (x_.1,x_.2.1,x_.2.2.1,x_.2.2.2.1,x_.2.2.2.2.1,x_.2.2.2.2.2.1,x_.2.2.2.2.2.2.1,(0:Int),(0:Int),[],x_.2.2.2.2.2.2.2.2.2.2.2.2.1,x_.2.2.2.2.2.2.2.2.2.2.2.2.2.1,x_.2.2.2.2.2.2.2.2.2.2.2.2)))
def js.c4 {ρ:Type} (qubits:Int) (k_:Bool→Option ρ):Option ρ:=
  br (decide (qubits < (1:Int)))
   (k_ true)
   (k_ (decide (qubits > (12:Int))))
def js.c4s:Shape:=js.c3s
def js.c4x0:Shape:=⟨[(0,ct4),(1,ct0),(2,ct2),(3,ct7),(4,ct23),(6,ct42),(7,ct24),(8,ct57),(24,ct11)],[(3,ct8),(4,ct53),(6,ct8),(7,ct17),(8,ct17)]⟩
def js.c4r:Ck:=Ck.of (T:=Bool) js.c4s (fun ρ x_ k_=>js.c4 x_.2.2.1 k_) (fun ρ x_ r_ k_=>k_ 0 (Shape.inj js.c4x0 (x_.1,x_.2.1,x_.2.2.1,r_,x_.2.2.2)))
def js.c11 {ρ:Type} (qubits:Int) (i:Int) (q:Int) (t40:List (Int)) (k_:Bool→Option ρ):Option ρ:=
  br (decide (q < (0:Int)))
   (k_ true)
   (br (decide (q≥qubits))
     (k_ true)
     (bnd (okIf (decide ((0:Int)≤i) && decide (i≤(↑(List.length t40):Int)))) fun y=>
      bnd (W.jU (List.take (Int.toNat i) t40) q) fun y_1=>
      k_ y_1))
def js.c11s:Shape:=⟨[(0,ct4),(1,ct0),(2,ct2),(3,ct7),(4,ct23),(6,ct42),(7,ct24),(8,ct57),(9,ct2),(10,ct2),(34,ct0),(35,ct2),(36,ct2)],[(3,ct8),(4,ct53),(6,ct8),(7,ct17),(8,ct17)]⟩
def js.c11x0:Shape:=⟨[(0,ct4),(1,ct0),(2,ct2),(3,ct7),(4,ct23),(6,ct42),(7,ct24),(8,ct57),(9,ct2),(10,ct2),(34,ct0),(35,ct2),(36,ct2),(54,ct11)],[(3,ct8),(4,ct53),(6,ct8),(7,ct17),(8,ct17)]⟩
def js.c11r:Ck:=Ck.of (T:=Bool) js.c11s (fun ρ x_ k_=>js.c11 x_.2.2.1 x_.2.2.2.1 x_.2.2.2.2.1 x_.2.2.2.2.2.2.2.2.2.2.2.1 k_) (fun ρ x_ r_ k_=>k_ 0 (Shape.inj js.c11x0 (x_.1,x_.2.1,x_.2.2.1,x_.2.2.2.1,x_.2.2.2.2.1,x_.2.2.2.2.2.1,x_.2.2.2.2.2.2.1,x_.2.2.2.2.2.2.2.1,r_,x_.2.2.2.2.2.2.2.2)))
def js.c100009 {ρ:Type} (qubits:Int) (t34:List (Int)) (t35:Int) (t36:Int) (t40:List (Int)) (k_:(Int)⊕(((Int)×(Int)×(Int))⊕(Int))→Option ρ):Option ρ:=
  br (decide (t36 < t35))
   (bnd (idx t34 t36) fun y=>
    bnd (W.js.c11 qubits t36 y t40 some) fun y_1=>
    br y_1
     (bnd (W.Ji (17:Int) t36) fun y_2=>
      k_ (.inr (.inl (t36,y_2.1,y_2.2))))
     (k_ (.inl (IntKind.i64.wrap (t36+(1:Int))))))
   (k_ (.inr (.inr t36)))
def js.c100009s:Shape:=⟨[(0,ct4),(1,ct0),(2,ct2),(3,ct7),(4,ct23),(6,ct42),(7,ct24),(8,ct57),(34,ct0),(35,ct2),(36,ct2)],[(3,ct8),(4,ct53),(6,ct8),(7,ct17),(8,ct17)]⟩
def js.c100009x0:Shape:=js.c100009s
def js.c100009x1:Shape:=js.c100009s
def js.c100009r:Ck:=Ck.ofLoop (S:=Int) (T:=((Int)×(Int)×(Int))⊕(Int)) js.c100009s (fun x_=>x_.2.2.2.2.2.1) (fun ρ x_ s_ k_=>js.c100009 x_.2.2.1 x_.2.2.2.1 x_.2.2.2.2.1 s_ x_.2.2.2.2.2.2.2.2.2.1 k_) (fun ρ x_ r_ k_=>sel r_ (fun r_=>k_ 1 (Shape.inj js.c100009x0 (x_.1,x_.2.1,x_.2.2.1,x_.2.2.2.1,x_.2.2.2.2.1,r_.1,x_.2.2.2.2.2.2.1,x_.2.2.2.2.2.2.2.1,x_.2.2.2.2.2.2.2.2.1,x_.2.2.2.2.2.2.2.2.2.1,(0:Int),(0:Int),[],r_.2.1,r_.2.2,x_.2.2.2.2.2.2.2.2.2.2.2.2.2.2.2))) (fun r_=>k_ 2 (Shape.inj js.c100009x1 (x_.1,x_.2.1,x_.2.2.1,x_.2.2.2.1,x_.2.2.2.2.1,r_,x_.2.2.2.2.2.2))))
def js (c:(Int)×((Int)×(List ((Int)×((Int)×((List Int)×((Int)×((Int)×(List Int))))))))) (t1:List (Int)) (qubits:Int):Option (((Int)×((Int)×(List ((Int)×((Int)×((List Int)×((Int)×((Int)×(List Int)))))))))×((Int)×(Int))):=
  bnd (W.jt (c.1,c.2.1,c.2.2)) fun y=>
  br (y.1 != (0:Int))
   (bnd (W.js.c3 some) fun y_1=>
    some (((0:Int),(0:Int),[]),y.1,y.2))
   (bnd (W.js.c4 qubits some) fun y_2=>
    br y_2
     (bnd (W.Ji (6:Int) (0:Int)) fun y_3=>
      some (((0:Int),(0:Int),[]),y_3.1,y_3.2))
     (br ((↑(List.length t1):Int) != c.1)
       (bnd (W.Ji (17:Int) (0:Int)) fun y_4=>
        some (((0:Int),(0:Int),[]),y_4.1,y_4.2))
       (bnd (iter (fun s↦W.js.c100009 qubits t1 (↑(List.length t1):Int) s t1 some) (0:Int)) fun y_5=>
        sel y_5
         (fun u=>some (((0:Int),(0:Int),[]),u.2.1,u.2.2))
         (fun v=>bnd (W.jp (c.1,c.2.1,c.2.2) t1) fun y_6=>
          some ((qubits,y_6.1.2.1,y_6.1.2.2),(0:Int),(0:Int))))))
def js.ce:Go.Ql.Callee:=⟨[(.st (.pair (.int .i64) (.pair (.int .i64) (.sl (.st (.pair (.int .i64) (.pair (.int .i64) (.pair (.sl (.int .i64)) (.pair (.int .i64) (.pair (.int .i64) (.sl (.int .i64)))))))))))),(.sl (.int .i64)),(.int .i64)],[(.st (.pair (.int .i64) (.pair (.int .i64) (.sl (.st (.pair (.int .i64) (.pair (.int .i64) (.pair (.sl (.int .i64)) (.pair (.int .i64) (.pair (.int .i64) (.sl (.int .i64)))))))))))),(.st (.pair (.int .i64) (.int .i64)))],fun x_=>js x_.1 x_.2.1 x_.2.2⟩
def js.G:Env:=⟨66,tab,[(14,jt.ce),(40,Ji.ce),(50,jU.ce)],[0,1,2,3,4,6,7,8,9,10,11,16,24,31,34,35,36,37,54],[],[(3,[⟨[],[],[18],[]⟩,⟨[],[],[17],[6]⟩,⟨[0],[6],[18],[]⟩,⟨[1,2,0],[7],[],[]⟩])],[(100009,js.c100009r),(11,js.c11r),(4,js.c4r),(3,js.c3r)],[(46,jp.mc)],Jc,[]⟩
theorem js.eq (x_:dens js.ce.params):den js.G Tryd.f27 js.ce.params js.ce.res x_=js.ce.F x_:=by kernel_rfl
theorem js.p0:PcA js.G Tryd.f27 0:=
  jC (s:=js.c3r) (by kernel_rfl) (by kernel_rfl) (jH (sh:=js.c3s) (fun ρ x_ k_=>ja) (fun ρ x_ t k=>(by kernel_rfl)) (fun x_=>by kernel_rfl))
theorem js.p1:PcA js.G Tryd.f27 1:=
  jC (s:=js.c4r) (by kernel_rfl) (by kernel_rfl) (jH (sh:=js.c4s) (fun ρ x_ k_=>(jr ja ja)) (fun ρ x_ t k=>(by kernel_rfl)) (fun x_=>by kernel_rfl))
theorem js.p2:PcA js.G Tryd.f27 2:=
  JD (s:=js.c100009r) (by kernel_rfl) (by kernel_rfl) (Ju (sh:=js.c100009s) (I:=fun x_ s_=>(x_.1,x_.2.1,x_.2.2.1,x_.2.2.2.1,x_.2.2.2.2.1,s_,x_.2.2.2.2.2.2)) (fun x_=>rfl) (fun ρ x_ s_ k_=>(jr (jf fun _=>(jf fun _=>(jr (jf fun _=>ja) ja))) ja)) (fun ρ x_ t k=>(ki (fun _=>(by kernel_rfl)) (fun _=>(by kernel_rfl)))) (fun x_ s=>by kernel_rfl))
theorem js.p3:PcA js.G Tryd.f27 3:=
  jC (s:=js.c11r) (by kernel_rfl) (by kernel_rfl) (jH (sh:=js.c11s) (fun ρ x_ k_=>(jr ja (jr ja (jf fun _=>(jf fun _=>ja))))) (fun ρ x_ t k=>(by kernel_rfl)) (fun x_=>by kernel_rfl))
theorem js.ok:CalleeOk Tryd.prog 27 js.ce:=fn_ok (G:=js.G) Jm mixed Tryd.func27 ⟨(jL jt.ok (jL Ji.ok (jL jU.ok Je))),(JG jp.ok jW),jK,jV⟩ (m:=4) (by kernel_rfl) ⟨⟨⟨⟨trivial,js.p0⟩,js.p1⟩,js.p2⟩,js.p3⟩ (by kernel_rfl) js.eq
abbrev ct58:SD:=.one (.own 2 0)
def jD.pre:Shape:=⟨[(0,ct0)],[]⟩
def jD.post:Shape:=⟨[(0,ct20)],[(0,ct3)]⟩
def jD.c100003 {ρ:Type} (l:List (Int)) (i:Int) (out:List (Int)) (k_:((Int)×(List Int))⊕((Int)×(List Int))→Option ρ):Option ρ:=
  br (decide (i < (↑(List.length l):Int)))
   (bnd (idx l i) fun y=>
    bnd (okIf (decide ((List.length out+(1:Nat))*(8:Nat)≤(140737488355328:Nat)) && decide (List.length out+(1:Nat)≤(140737488355328:Nat)))) fun y_1=>
    k_ (.inl ((IntKind.i64.wrap (i+(1:Int))),(out++[y]))))
   (k_ (.inr (i,out)))
def jD.c100003s:Shape:=⟨[(0,ct0),(2,ct58),(3,ct1),(4,ct2)],[(2,ct3),(3,ct3)]⟩
def jD.c100003x0:Shape:=jD.c100003s
def jD.c100003r:Ck:=Ck.ofLoop (S:=(Int)×(List Int)) (T:=(Int)×(List Int)) jD.c100003s (fun x_=>(x_.2.1,x_.2.2.2.1)) (fun ρ x_ s_ k_=>jD.c100003 x_.1 s_.1 s_.2 k_) (fun ρ x_ r_ k_=>k_ 2 (Shape.inj jD.c100003x0 (x_.1,r_.1,x_.2.2.1,r_.2,())))
def jD (l:List (Int)):Option ((List Int)×Unit):=
  bnd (iter (fun s↦W.jD.c100003 l s.1 s.2 some) ((0:Int),[])) fun y=>
  some (y.2,())
def jD.mc:MCallee:=⟨67,jD.pre,jD.post,fun x_=>jD x_.1⟩
def jD.G:Env:=⟨19,tab,[],[0,2,3,4,8],[2,3],[],[(100003,jD.c100003r)],[],Jc,[]⟩
theorem jD.eq (x_:densU jD.mc.pre.tys):denM jD.G Tryd.f67 jD.mc.pre jD.mc.post x_=jD.mc.F x_:=by kernel_rfl
theorem jD.p0:PcA jD.G Tryd.f67 0:=
  JD (s:=jD.c100003r) (by kernel_rfl) (by kernel_rfl) (Ju (sh:=jD.c100003s) (I:=fun x_ s_=>(x_.1,s_.1,x_.2.2.1,s_.2,())) (fun x_=>rfl) (fun ρ x_ s_ k_=>(jr (jf fun _=>(jf fun _=>ja)) ja)) (fun ρ x_ t k=>(by kernel_rfl)) (fun x_ s=>by kernel_rfl))
theorem jD.ok:MOk Tryd.prog 67 jD.mc:=kW (G:=jD.G) Jm mixed Tryd.func67 ⟨Je,jW,jK,jV⟩ (m:=1) (by kernel_rfl) ⟨trivial,jD.p0⟩ (by kernel_rfl) jD.eq
abbrev ct59:SD:=.agg [.val (.int .i64),.val (.int .i64),.own 2 0,.val (.int .i64),.val (.int .i64),.own 5 0]
def Jo.pre:Shape:=⟨[(0,ct12)],[]⟩
def Jo.post:Shape:=⟨[(0,ct59)],[(2,ct3),(5,ct3)]⟩
def Jo (o:(Int)×((Int)×((List Int)×((Int)×((Int)×(List Int)))))):Option ((Int)×(Int)×(Int)×(Int)×(List Int)×(List Int)×Unit):=
  bnd (W.jD o.2.2.1) fun y=>
  bnd (W.jD o.2.2.2.2.2) fun y_1=>
  some (o.1,o.2.1,o.2.2.2.1,o.2.2.2.2.1,y.1,y_1.1,())
def Jo.mc:MCallee:=⟨37,Jo.pre,Jo.post,fun x_=>Jo x_.1⟩
def Jo.G:Env:=⟨12,tab,[],[0,1,2],[1,2,5,9,3001,3002,6001,6002],[],[],[(67,jD.mc)],Jc,[]⟩
theorem Jo.eq (x_:densU Jo.mc.pre.tys):denM Jo.G Tryd.f37 Jo.mc.pre Jo.mc.post x_=Jo.mc.F x_:=by kernel_rfl
theorem Jo.ok:MOk Tryd.prog 37 Jo.mc:=kW (G:=Jo.G) Jm mixed Tryd.func37 ⟨Je,(JG jD.ok jW),jK,jV⟩ (m:=0) (by kernel_rfl) trivial (by kernel_rfl) Jo.eq
abbrev ct60:SD:=.agg [.val (.int .i64),.val (.int .i64),.down 2 0]
abbrev ct61:SO:=.deep 0 57 3 (.st (.pair (.int .i64) (.pair (.int .i64) (.pair (.sl (.int .i64)) (.pair (.int .i64) (.pair (.int .i64) (.sl (.int .i64))))))))
abbrev ct62:SO:=.box [.val (.int .i64),.val (.int .i64),.down 3002 0]
abbrev ct63:SO:=.box [.val (.int .i64),.val (.int .i64),.down 3003 0]
def jm.pre:Shape:=⟨[(0,ct4)],[]⟩
def jm.post:Shape:=⟨[(0,ct60)],[(2,ct61)]⟩
def jm.c5 {ρ:Type} (i:Int) (c2:List ((Int)×((Int)×((List Int)×((Int)×((Int)×(List Int))))))) (t3003:List ((Int)×((Int)×((List Int)×((Int)×((Int)×(List Int))))))) (k_:List ((Int)×((Int)×((List Int)×((Int)×((Int)×(List Int))))))→Option ρ):Option ρ:=
  bnd (idx c2 i) fun y=>
  bnd (W.Jo y) fun y_1=>
  bnd (okIf (decide ((List.length t3003+(1:Nat))*(80:Nat)≤(140737488355328:Nat)) && decide (List.length t3003+(1:Nat)≤(140737488355328:Nat)))) fun y_2=>
  k_ (t3003++[(y_1.1,y_1.2.1,y_1.2.2.2.2.1,y_1.2.2.1,y_1.2.2.2.1,y_1.2.2.2.2.2.1)])
def jm.c5s:Shape:=⟨[(0,ct4),(1,ct5),(2,ct6),(3,ct7),(4,ct2)],[(1,ct8),(2,ct62),(3,ct63),(3002,ct61),(3003,ct61)]⟩
def jm.c5x0:Shape:=⟨[(0,ct4),(1,ct5),(2,ct6),(3,ct7),(4,ct2)],[(1,ct8),(2,ct62),(3,ct63),(25,.gone),(2024,.gone),(3002,ct61),(3003,ct61),(5024,.gone)]⟩
def jm.c5r:Ck:=Ck.of (T:=List ((Int)×((Int)×((List Int)×((Int)×((Int)×(List Int))))))) jm.c5s (fun ρ x_ k_=>jm.c5 x_.2.1 x_.2.2.2.2.1 x_.2.2.2.2.2.2.2.2.2.2.1 k_) (fun ρ x_ r_ k_=>k_ 0 (Shape.inj jm.c5x0 (x_.1,x_.2.1,x_.2.2.1,x_.2.2.2.1,x_.2.2.2.2.1,x_.2.2.2.2.2.1,x_.2.2.2.2.2.2.1,x_.2.2.2.2.2.2.2.1,x_.2.2.2.2.2.2.2.2.1,x_.2.2.2.2.2.2.2.2.2.1,r_,())))
def jm.c100003 {ρ:Type} (i:Int) (c2:List ((Int)×((Int)×((List Int)×((Int)×((Int)×(List Int))))))) (t3003:List ((Int)×((Int)×((List Int)×((Int)×((Int)×(List Int))))))) (k_:((Int)×(List ((Int)×((Int)×((List Int)×((Int)×((Int)×(List Int))))))))⊕((Int)×(List ((Int)×((Int)×((List Int)×((Int)×((Int)×(List Int))))))))→Option ρ):Option ρ:=
  br (decide (i < (↑(List.length c2):Int)))
   (bnd (W.jm.c5 i c2 t3003 some) fun y=>
    k_ (.inl ((IntKind.i64.wrap (i+(1:Int))),y)))
   (k_ (.inr (i,t3003)))
def jm.c100003s:Shape:=jm.c5s
def jm.c100003x0:Shape:=jm.c5s
def jm.c100003r:Ck:=Ck.ofLoop (S:=(Int)×(List ((Int)×((Int)×((List Int)×((Int)×((Int)×(List Int)))))))) (T:=(Int)×(List ((Int)×((Int)×((List Int)×((Int)×((Int)×(List Int)))))))) jm.c100003s (fun x_=>(x_.2.1,x_.2.2.2.2.2.2.2.2.2.2.1)) (fun ρ x_ s_ k_=>jm.c100003 s_.1 x_.2.2.2.2.1 s_.2 k_) (fun ρ x_ r_ k_=>k_ 2 (Shape.inj jm.c100003x0 (x_.1,r_.1,x_.2.2.1,x_.2.2.2.1,x_.2.2.2.2.1,x_.2.2.2.2.2.1,x_.2.2.2.2.2.2.1,x_.2.2.2.2.2.2.2.1,x_.2.2.2.2.2.2.2.2.1,x_.2.2.2.2.2.2.2.2.2.1,r_.2,())))
def jm (c:(Int)×((Int)×(List ((Int)×((Int)×((List Int)×((Int)×((Int)×(List Int))))))))):Option ((Int)×(Int)×(List ((Int)×((Int)×((List Int)×((Int)×((Int)×(List Int)))))))×Unit):=
  bnd (iter (fun s↦W.jm.c100003 s.1 c.2.2 s.2 some) ((0:Int),[])) fun y=>
  some (c.1,c.2.1,y.2,())
def jm.mc:MCallee:=⟨11,jm.pre,jm.post,fun x_=>jm x_.1⟩
def jm.G:Env:=⟨29,tab,[],[0,1,2,3,4,14],[1,2,3,9,24,25,2024,3001,3002,3003,5024,30000025,30003002,30003003],[(5,[⟨[],[],[19,20,21,22,23,24,25],[2024,5024,25]⟩,⟨[0],[],[19,20,21,22,23,24,25],[2024,5024,25]⟩,⟨[],[],[17,18,21],[]⟩,⟨[2],[],[17,18,21],[]⟩,⟨[],[],[17,18,19,20],[]⟩,⟨[3,2,4],[],[17,18],[]⟩,⟨[5,3,2,4],[],[17,18],[]⟩,⟨[6,5,3,2,4],[2024,5024],[17,18],[]⟩,⟨[7,6,5,3,2,4],[2024,5024,25],[17,18],[]⟩,⟨[1,0,8,7,6,5,3,2,4],[3003,25],[],[]⟩,⟨[0,1,2,3,4,5,6,7,8,9],[],[],[]⟩,⟨[10,0,1,2,3,4,5,6,7,8,9],[3],[],[]⟩])],[(100003,jm.c100003r),(5,jm.c5r)],[(37,Jo.mc)],Jc,[]⟩
theorem jm.eq (x_:densU jm.mc.pre.tys):denM jm.G Tryd.f11 jm.mc.pre jm.mc.post x_=jm.mc.F x_:=by kernel_rfl
theorem jm.p0:PcA jm.G Tryd.f11 0:=
  JD (s:=jm.c100003r) (by kernel_rfl) (by kernel_rfl) (Ju (sh:=jm.c100003s) (I:=fun x_ s_=>(x_.1,s_.1,x_.2.2.1,x_.2.2.2.1,x_.2.2.2.2.1,x_.2.2.2.2.2.1,x_.2.2.2.2.2.2.1,x_.2.2.2.2.2.2.2.1,x_.2.2.2.2.2.2.2.2.1,x_.2.2.2.2.2.2.2.2.2.1,s_.2,())) (fun x_=>rfl) (fun ρ x_ s_ k_=>(jr (jf fun _=>ja) ja)) (fun ρ x_ t k=>(by kernel_rfl)) (fun x_ s=>by kernel_rfl))
theorem jm.p1:PcA jm.G Tryd.f11 1:=
  jC (s:=jm.c5r) (by kernel_rfl) (by kernel_rfl) (jH (sh:=jm.c5s) (fun ρ x_ k_=>(jf fun _=>(jf fun _=>(jf fun _=>ja)))) (fun ρ x_ t k=>(by kernel_rfl)) (fun x_=>by kernel_rfl))
theorem jm.ok:MOk Tryd.prog 11 jm.mc:=kW (G:=jm.G) Jm mixed Tryd.func11 ⟨Je,(JG Jo.ok jW),jK,jV⟩ (m:=2) (by kernel_rfl) ⟨⟨trivial,jm.p0⟩,jm.p1⟩ (by kernel_rfl) jm.eq
abbrev ct64:SD:=.one (.ref 10 0)
abbrev ct65:SO:=.box [.val (.int .i64),.val (.int .i64),.down 2080 0]
def jb.c2 {ρ:Type} (qubits:Int) (f0:Int) (k_:Bool→Option ρ):Option ρ:=
  br (f0 == (0:Int))
   (br (decide (qubits < (1:Int)))
     (k_ true)
     (k_ (decide (qubits > (12:Int)))))
   (k_ false)
def jb.c2s:Shape:=⟨[(0,ct4),(1,ct0),(2,ct2),(3,ct7),(6,ct42),(7,ct24),(8,ct57)],[(3,ct8),(6,ct8),(7,ct17),(8,ct17)]⟩
def jb.c2x0:Shape:=⟨[(0,ct4),(1,ct0),(2,ct2),(3,ct7),(6,ct42),(7,ct24),(8,ct57),(25,ct11)],[(3,ct8),(6,ct8),(7,ct17),(8,ct17)]⟩
def jb.c2r:Ck:=Ck.of (T:=Bool) jb.c2s (fun ρ x_ k_=>jb.c2 x_.2.2.1 x_.2.2.2.2.2.2.2.2.2.2.2.1 k_) (fun ρ x_ r_ k_=>k_ 0 (Shape.inj jb.c2x0 (x_.1,x_.2.1,x_.2.2.1,r_,x_.2.2.2)))
def jb.c208197 {ρ:Type} (qubits:Int) (f0:Int) (f1:Int) (k_:(Int)×(Int)→Option ρ):Option ρ:=
  bnd (W.jb.c2 qubits f0 some) fun y=>
  br y
   (bnd (W.Jt (6:Int) (0:Int)) fun y_1=>
    k_ (y_1.1,y_1.2))
   (k_ (f0,f1))
def jb.c208197s:Shape:=jb.c2s
def jb.c208197x0:Shape:=jb.c2s
def jb.c208197r:Ck:=Ck.of (T:=(Int)×(Int)) jb.c208197s (fun ρ x_ k_=>jb.c208197 x_.2.2.1 x_.2.2.2.2.2.2.2.2.2.2.2.1 x_.2.2.2.2.2.2.2.2.2.2.2.2.1 k_) (fun ρ x_ r_ k_=>k_ 0 (Shape.inj jb.c208197x0 (x_.1,x_.2.1,x_.2.2.1,x_.2.2.2.1,x_.2.2.2.2.1,x_.2.2.2.2.2.1,x_.2.2.2.2.2.2.1,x_.2.2.2.2.2.2.2.1,x_.2.2.2.2.2.2.2.2.1,x_.2.2.2.2.2.2.2.2.2.1,x_.2.2.2.2.2.2.2.2.2.2.1,r_.1,r_.2,())))
def jb.c4 {ρ:Type} (t1:List (Int)) (c0:Int) (f0:Int) (k_:Bool→Option ρ):Option ρ:=
  br (f0 == (0:Int))
   (k_ ((↑(List.length t1):Int) != c0))
   (k_ false)
def jb.c4s:Shape:=jb.c2s
def jb.c4x0:Shape:=⟨[(0,ct4),(1,ct0),(2,ct2),(3,ct7),(6,ct42),(7,ct24),(8,ct57),(36,ct11)],[(3,ct8),(6,ct8),(7,ct17),(8,ct17)]⟩
def jb.c4r:Ck:=Ck.of (T:=Bool) jb.c4s (fun ρ x_ k_=>jb.c4 x_.2.1 x_.2.2.2.1 x_.2.2.2.2.2.2.2.2.2.2.2.1 k_) (fun ρ x_ r_ k_=>k_ 0 (Shape.inj jb.c4x0 (x_.1,x_.2.1,x_.2.2.1,r_,x_.2.2.2)))
def jb.c216389 {ρ:Type} (t1:List (Int)) (c0:Int) (f0:Int) (f1:Int) (k_:(Int)×(Int)→Option ρ):Option ρ:=
  bnd (W.jb.c4 t1 c0 f0 some) fun y=>
  br y
   (bnd (W.Jt (17:Int) (0:Int)) fun y_1=>
    k_ (y_1.1,y_1.2))
   (k_ (f0,f1))
def jb.c216389s:Shape:=jb.c2s
def jb.c216389x0:Shape:=jb.c2s
def jb.c216389r:Ck:=Ck.of (T:=(Int)×(Int)) jb.c216389s (fun ρ x_ k_=>jb.c216389 x_.2.1 x_.2.2.2.1 x_.2.2.2.2.2.2.2.2.2.2.2.1 x_.2.2.2.2.2.2.2.2.2.2.2.2.1 k_) (fun ρ x_ r_ k_=>k_ 0 (Shape.inj jb.c216389x0 (x_.1,x_.2.1,x_.2.2.1,x_.2.2.2.1,x_.2.2.2.2.1,x_.2.2.2.2.2.1,x_.2.2.2.2.2.2.1,x_.2.2.2.2.2.2.2.1,x_.2.2.2.2.2.2.2.2.1,x_.2.2.2.2.2.2.2.2.2.1,x_.2.2.2.2.2.2.2.2.2.2.1,r_.1,r_.2,())))
def jb.c7 {ρ:Type} (t1:List (Int)) (i:Int) (f0:Int) (k_:Bool→Option ρ):Option ρ:=
  br (decide (i < (↑(List.length t1):Int)))
   (k_ (f0 == (0:Int)))
   (k_ false)
def jb.c7s:Shape:=⟨[(0,ct4),(1,ct0),(2,ct2),(3,ct7),(6,ct42),(7,ct24),(8,ct57),(9,ct2)],[(3,ct8),(6,ct8),(7,ct17),(8,ct17)]⟩
def jb.c7x0:Shape:=⟨[(0,ct4),(1,ct0),(2,ct2),(3,ct7),(6,ct42),(7,ct24),(8,ct57),(9,ct2),(46,ct11)],[(3,ct8),(6,ct8),(7,ct17),(8,ct17)]⟩
def jb.c7r:Ck:=Ck.of (T:=Bool) jb.c7s (fun ρ x_ k_=>jb.c7 x_.2.1 x_.2.2.2.1 x_.2.2.2.2.2.2.2.2.2.2.2.2.1 k_) (fun ρ x_ r_ k_=>k_ 0 (Shape.inj jb.c7x0 (x_.1,x_.2.1,x_.2.2.1,x_.2.2.2.1,r_,x_.2.2.2.2)))
def jb.c9 {ρ:Type} (t1:List (Int)) (qubits:Int) (i:Int) (k_:Bool→Option ρ):Option ρ:=
  bnd (idx t1 i) fun y=>
  br (decide (y < (0:Int)))
   (k_ true)
   (bnd (idx t1 i) fun y_1=>
    br (decide (y_1≥qubits))
     (k_ true)
     (bnd (okIf (decide ((0:Int)≤i) && decide (i≤(↑(List.length t1):Int)))) fun y_2=>
      bnd (idx t1 i) fun y_3=>
      bnd (W.Jd (List.take (Int.toNat i) t1) y_3) fun y_4=>
      k_ y_4))
def jb.c9s:Shape:=jb.c7s
def jb.c9x0:Shape:=⟨[(0,ct4),(1,ct0),(2,ct2),(3,ct7),(6,ct42),(7,ct24),(8,ct57),(9,ct2),(71,ct11)],[(3,ct8),(6,ct8),(7,ct17),(8,ct17)]⟩
def jb.c9r:Ck:=Ck.of (T:=Bool) jb.c9s (fun ρ x_ k_=>jb.c9 x_.2.1 x_.2.2.1 x_.2.2.2.1 k_) (fun ρ x_ r_ k_=>k_ 0 (Shape.inj jb.c9x0 (x_.1,x_.2.1,x_.2.2.1,x_.2.2.2.1,r_,x_.2.2.2.2)))
def jb.c236870 {ρ:Type} (t1:List (Int)) (qubits:Int) (i:Int) (f0:Int) (f1:Int) (k_:(Int)×(Int)→Option ρ):Option ρ:=
  bnd (W.jb.c9 t1 qubits i some) fun y=>
  br y
   (bnd (W.Jt (17:Int) i) fun y_1=>
    k_ (y_1.1,y_1.2))
   (k_ (f0,f1))
def jb.c236870s:Shape:=jb.c7s
def jb.c236870x0:Shape:=jb.c7s
def jb.c236870r:Ck:=Ck.of (T:=(Int)×(Int)) jb.c236870s (fun ρ x_ k_=>jb.c236870 x_.2.1 x_.2.2.1 x_.2.2.2.1 x_.2.2.2.2.2.2.2.2.2.2.2.2.1 x_.2.2.2.2.2.2.2.2.2.2.2.2.2.1 k_) (fun ρ x_ r_ k_=>k_ 0 (Shape.inj jb.c236870x0 (x_.1,x_.2.1,x_.2.2.1,x_.2.2.2.1,x_.2.2.2.2.1,x_.2.2.2.2.2.1,x_.2.2.2.2.2.2.1,x_.2.2.2.2.2.2.2.1,x_.2.2.2.2.2.2.2.2.1,x_.2.2.2.2.2.2.2.2.2.1,x_.2.2.2.2.2.2.2.2.2.2.1,x_.2.2.2.2.2.2.2.2.2.2.2.1,r_.1,r_.2,())))
def jb.c100007 {ρ:Type} (t1:List (Int)) (qubits:Int) (i:Int) (f0:Int) (f1:Int) (k_:((Int)×(Int)×(Int))⊕((Int)×(Int)×(Int))→Option ρ):Option ρ:=
  bnd (W.jb.c7 t1 i f0 some) fun y=>
  br y
   (bnd (W.jb.c236870 t1 qubits i f0 f1 some) fun y_1=>
    k_ (.inl ((IntKind.i64.wrap (i+(1:Int))),y_1.1,y_1.2)))
   (k_ (.inr (i,f0,f1)))
def jb.c100007s:Shape:=jb.c7s
def jb.c100007x0:Shape:=jb.c7s
def jb.c100007r:Ck:=Ck.ofLoop (S:=(Int)×(Int)×(Int)) (T:=(Int)×(Int)×(Int)) jb.c100007s (fun x_=>(x_.2.2.2.1,x_.2.2.2.2.2.2.2.2.2.2.2.2.1,x_.2.2.2.2.2.2.2.2.2.2.2.2.2.1)) (fun ρ x_ s_ k_=>jb.c100007 x_.2.1 x_.2.2.1 s_.1 s_.2.1 s_.2.2 k_) (fun ρ x_ r_ k_=>k_ 2 (Shape.inj jb.c100007x0 (x_.1,x_.2.1,x_.2.2.1,r_.1,x_.2.2.2.2.1,x_.2.2.2.2.2.1,x_.2.2.2.2.2.2.1,x_.2.2.2.2.2.2.2.1,x_.2.2.2.2.2.2.2.2.1,x_.2.2.2.2.2.2.2.2.2.1,x_.2.2.2.2.2.2.2.2.2.2.1,x_.2.2.2.2.2.2.2.2.2.2.2.1,r_.2.1,r_.2.2,())))
def jb.c12 {ρ:Type}  (k_:Unit→Option ρ):Option ρ:=
  k_ ()
def jb.c12s:Shape:=jb.c7s
def jb.c12x0:Shape:=jb.c7s
def jb.c12r:Ck:=Ck.of (T:=Unit) jb.c12s (fun ρ x_ k_=>jb.c12  k_) (fun ρ x_ r_ k_=>k_ 0 (Shape.inj jb.c12x0 (x_.1,x_.2.1,x_.2.2.1,x_.2.2.2.1,x_.2.2.2.2.1,x_.2.2.2.2.2.1,x_.2.2.2.2.2.2.1,(0:Int),(0:Int),[],x_.2.2.2.2.2.2.2.2.2.2.2.2.1,x_.2.2.2.2.2.2.2.2.2.2.2.2.2.1,x_.2.2.2.2.2.2.2.2.2.2.2.2)))
def jb.c19 {ρ:Type} (t1:List (Int)) (i_1:Int) (t2080:List ((Int)×((Int)×((List Int)×((Int)×((Int)×(List Int))))))) (k_:List ((Int)×((Int)×((List Int)×((Int)×((Int)×(List Int))))))→Option ρ):Option ρ:=
  bnd (inR (List.length t2080) i_1) fun y=>
  bnd (idx t2080 i_1) fun y_1=>
  bnd (idx t1 y_1.2.2.2.1) fun y_2=>
  bnd (inR (List.length t2080) i_1) fun y_3=>
  bnd (idx t2080 i_1) fun y_4=>
  k_ (List.set t2080 (Int.toNat i_1) (y_4.1,y_4.2.1,y_4.2.2.1,y_2,y_4.2.2.2.2))
def jb.c19s:Shape:=⟨[(0,ct4),(1,ct0),(2,ct2),(3,ct7),(6,ct42),(7,ct24),(8,ct57),(9,ct2),(10,ct64),(11,ct2)],[(3,ct8),(6,ct8),(7,ct17),(8,ct17),(10,ct65),(2080,ct61),(3010,ct61)]⟩
def jb.c19x0:Shape:=jb.c19s
def jb.c19r:Ck:=Ck.of (T:=List ((Int)×((Int)×((List Int)×((Int)×((Int)×(List Int))))))) jb.c19s (fun ρ x_ k_=>jb.c19 x_.2.1 x_.2.2.2.2.1 x_.2.2.2.2.2.2.2.2.2.2.2.2.2.2.2.2.2.1 k_) (fun ρ x_ r_ k_=>k_ 0 (Shape.inj jb.c19x0 (x_.1,x_.2.1,x_.2.2.1,x_.2.2.2.1,x_.2.2.2.2.1,x_.2.2.2.2.2.1,x_.2.2.2.2.2.2.1,x_.2.2.2.2.2.2.2.1,x_.2.2.2.2.2.2.2.2.1,x_.2.2.2.2.2.2.2.2.2.1,x_.2.2.2.2.2.2.2.2.2.2.1,x_.2.2.2.2.2.2.2.2.2.2.2.1,x_.2.2.2.2.2.2.2.2.2.2.2.2.1,x_.2.2.2.2.2.2.2.2.2.2.2.2.2.1,x_.2.2.2.2.2.2.2.2.2.2.2.2.2.2.1,x_.2.2.2.2.2.2.2.2.2.2.2.2.2.2.2.1,x_.2.2.2.2.2.2.2.2.2.2.2.2.2.2.2.2.1,r_,x_.2.2.2.2.2.2.2.2.2.2.2.2.2.2.2.2.2.2)))
def jb.c273733 {ρ:Type} (t1:List (Int)) (i_1:Int) (t2080:List ((Int)×((Int)×((List Int)×((Int)×((Int)×(List Int))))))) (k_:List ((Int)×((Int)×((List Int)×((Int)×((Int)×(List Int))))))→Option ρ):Option ρ:=
  bnd (inR (List.length t2080) i_1) fun y=>
  bnd (idx t2080 i_1) fun y_1=>
  br (y_1.1 != (1:Int))
   (bnd (W.jb.c19 t1 i_1 t2080 some) fun y_2=>
    k_ y_2)
   (k_ t2080)
def jb.c273733s:Shape:=jb.c19s
def jb.c273733x0:Shape:=jb.c19s
def jb.c273733r:Ck:=Ck.of (T:=List ((Int)×((Int)×((List Int)×((Int)×((Int)×(List Int))))))) jb.c273733s (fun ρ x_ k_=>jb.c273733 x_.2.1 x_.2.2.2.2.1 x_.2.2.2.2.2.2.2.2.2.2.2.2.2.2.2.2.2.1 k_) (fun ρ x_ r_ k_=>k_ 0 (Shape.inj jb.c273733x0 (x_.1,x_.2.1,x_.2.2.1,x_.2.2.2.1,x_.2.2.2.2.1,x_.2.2.2.2.2.1,x_.2.2.2.2.2.2.1,x_.2.2.2.2.2.2.2.1,x_.2.2.2.2.2.2.2.2.1,x_.2.2.2.2.2.2.2.2.2.1,x_.2.2.2.2.2.2.2.2.2.2.1,x_.2.2.2.2.2.2.2.2.2.2.2.1,x_.2.2.2.2.2.2.2.2.2.2.2.2.1,x_.2.2.2.2.2.2.2.2.2.2.2.2.2.1,x_.2.2.2.2.2.2.2.2.2.2.2.2.2.2.1,x_.2.2.2.2.2.2.2.2.2.2.2.2.2.2.2.1,x_.2.2.2.2.2.2.2.2.2.2.2.2.2.2.2.2.1,r_,x_.2.2.2.2.2.2.2.2.2.2.2.2.2.2.2.2.2.2)))
def jb.c23 {ρ:Type} (t1:List (Int)) (i_1:Int) (j:Int) (t2080:List ((Int)×((Int)×((List Int)×((Int)×((Int)×(List Int))))))) (k_:List ((Int)×((Int)×((List Int)×((Int)×((Int)×(List Int))))))→Option ρ):Option ρ:=
  bnd (inR (List.length t2080) i_1) fun y=>
  bnd (idx t2080 i_1) fun y_1=>
  bnd (inR (List.length t2080) i_1) fun y_2=>
  bnd (idx t2080 i_1) fun y_3=>
  bnd (idx t2080 i_1) fun y_4=>
  bnd (inR (List.length y_4.2.2.1) j) fun y_5=>
  bnd (idx t2080 i_1) fun y_6=>
  bnd (idx y_6.2.2.1 j) fun y_7=>
  bnd (idx t1 y_7) fun y_8=>
  bnd (idx t2080 i_1) fun y_9=>
  bnd (inR (List.length y_9.2.2.1) j) fun y_10=>
  bnd (idx t2080 i_1) fun y_11=>
  bnd (idx y_11.2.2.1 j) fun y_12=>
  k_ (List.set t2080 (Int.toNat i_1) (y_11.1,y_11.2.1,List.set y_11.2.2.1 (Int.toNat j) y_8,y_11.2.2.2))
def jb.c23s:Shape:=⟨[(0,ct4),(1,ct0),(2,ct2),(3,ct7),(6,ct42),(7,ct24),(8,ct57),(9,ct2),(10,ct64),(11,ct2),(12,ct2)],[(3,ct8),(6,ct8),(7,ct17),(8,ct17),(10,ct65),(2080,ct61),(3010,ct61)]⟩
def jb.c23x0:Shape:=jb.c23s
def jb.c23r:Ck:=Ck.of (T:=List ((Int)×((Int)×((List Int)×((Int)×((Int)×(List Int))))))) jb.c23s (fun ρ x_ k_=>jb.c23 x_.2.1 x_.2.2.2.2.1 x_.2.2.2.2.2.1 x_.2.2.2.2.2.2.2.2.2.2.2.2.2.2.2.2.2.2.1 k_) (fun ρ x_ r_ k_=>k_ 0 (Shape.inj jb.c23x0 (x_.1,x_.2.1,x_.2.2.1,x_.2.2.2.1,x_.2.2.2.2.1,x_.2.2.2.2.2.1,x_.2.2.2.2.2.2.1,x_.2.2.2.2.2.2.2.1,x_.2.2.2.2.2.2.2.2.1,x_.2.2.2.2.2.2.2.2.2.1,x_.2.2.2.2.2.2.2.2.2.2.1,x_.2.2.2.2.2.2.2.2.2.2.2.1,x_.2.2.2.2.2.2.2.2.2.2.2.2.1,x_.2.2.2.2.2.2.2.2.2.2.2.2.2.1,x_.2.2.2.2.2.2.2.2.2.2.2.2.2.2.1,x_.2.2.2.2.2.2.2.2.2.2.2.2.2.2.2.1,x_.2.2.2.2.2.2.2.2.2.2.2.2.2.2.2.2.1,x_.2.2.2.2.2.2.2.2.2.2.2.2.2.2.2.2.2.1,r_,x_.2.2.2.2.2.2.2.2.2.2.2.2.2.2.2.2.2.2.2)))
def jb.c100021 {ρ:Type} (t1:List (Int)) (i_1:Int) (j:Int) (t2080:List ((Int)×((Int)×((List Int)×((Int)×((Int)×(List Int))))))) (k_:((Int)×(List ((Int)×((Int)×((List Int)×((Int)×((Int)×(List Int))))))))⊕((Int)×(List ((Int)×((Int)×((List Int)×((Int)×((Int)×(List Int))))))))→Option ρ):Option ρ:=
  bnd (inR (List.length t2080) i_1) fun y=>
  bnd (idx t2080 i_1) fun y_1=>
  bnd (idx t2080 i_1) fun y_2=>
  br (decide (j < (↑(List.length y_2.2.2.1):Int)))
   (bnd (W.jb.c23 t1 i_1 j t2080 some) fun y_3=>
    k_ (.inl ((IntKind.i64.wrap (j+(1:Int))),y_3)))
   (k_ (.inr (j,t2080)))
def jb.c100021s:Shape:=jb.c23s
def jb.c100021x0:Shape:=jb.c23s
def jb.c100021r:Ck:=Ck.ofLoop (S:=(Int)×(List ((Int)×((Int)×((List Int)×((Int)×((Int)×(List Int)))))))) (T:=(Int)×(List ((Int)×((Int)×((List Int)×((Int)×((Int)×(List Int)))))))) jb.c100021s (fun x_=>(x_.2.2.2.2.2.1,x_.2.2.2.2.2.2.2.2.2.2.2.2.2.2.2.2.2.2.1)) (fun ρ x_ s_ k_=>jb.c100021 x_.2.1 x_.2.2.2.2.1 s_.1 s_.2 k_) (fun ρ x_ r_ k_=>k_ 6 (Shape.inj jb.c100021x0 (x_.1,x_.2.1,x_.2.2.1,x_.2.2.2.1,x_.2.2.2.2.1,r_.1,x_.2.2.2.2.2.2.1,x_.2.2.2.2.2.2.2.1,x_.2.2.2.2.2.2.2.2.1,x_.2.2.2.2.2.2.2.2.2.1,x_.2.2.2.2.2.2.2.2.2.2.1,x_.2.2.2.2.2.2.2.2.2.2.2.1,x_.2.2.2.2.2.2.2.2.2.2.2.2.1,x_.2.2.2.2.2.2.2.2.2.2.2.2.2.1,x_.2.2.2.2.2.2.2.2.2.2.2.2.2.2.1,x_.2.2.2.2.2.2.2.2.2.2.2.2.2.2.2.1,x_.2.2.2.2.2.2.2.2.2.2.2.2.2.2.2.2.1,x_.2.2.2.2.2.2.2.2.2.2.2.2.2.2.2.2.2.1,r_.2,x_.2.2.2.2.2.2.2.2.2.2.2.2.2.2.2.2.2.2.2)))
def jb.c100016 {ρ:Type} (t1:List (Int)) (i_1:Int) (t2080:List ((Int)×((Int)×((List Int)×((Int)×((Int)×(List Int))))))) (k_:((Int)×(List ((Int)×((Int)×((List Int)×((Int)×((Int)×(List Int))))))))⊕((Int)×(List ((Int)×((Int)×((List Int)×((Int)×((Int)×(List Int))))))))→Option ρ):Option ρ:=
  br (decide (i_1 < (↑(List.length t2080):Int)))
   (bnd (W.jb.c273733 t1 i_1 t2080 some) fun y=>
    bnd (iter (fun s↦W.jb.c100021 t1 i_1 s.1 s.2 some) ((0:Int),y)) fun y_1=>
    k_ (.inl ((IntKind.i64.wrap (i_1+(1:Int))),y_1.2)))
   (k_ (.inr (i_1,t2080)))
def jb.c100016s:Shape:=jb.c19s
def jb.c100016x0:Shape:=jb.c19s
def jb.c100016r:Ck:=Ck.ofLoop (S:=(Int)×(List ((Int)×((Int)×((List Int)×((Int)×((Int)×(List Int)))))))) (T:=(Int)×(List ((Int)×((Int)×((List Int)×((Int)×((Int)×(List Int)))))))) jb.c100016s (fun x_=>(x_.2.2.2.2.1,x_.2.2.2.2.2.2.2.2.2.2.2.2.2.2.2.2.2.1)) (fun ρ x_ s_ k_=>jb.c100016 x_.2.1 s_.1 s_.2 k_) (fun ρ x_ r_ k_=>k_ 4 (Shape.inj jb.c100016x0 (x_.1,x_.2.1,x_.2.2.1,x_.2.2.2.1,r_.1,x_.2.2.2.2.2.1,x_.2.2.2.2.2.2.1,x_.2.2.2.2.2.2.2.1,x_.2.2.2.2.2.2.2.2.1,x_.2.2.2.2.2.2.2.2.2.1,x_.2.2.2.2.2.2.2.2.2.2.1,x_.2.2.2.2.2.2.2.2.2.2.2.1,x_.2.2.2.2.2.2.2.2.2.2.2.2.1,x_.2.2.2.2.2.2.2.2.2.2.2.2.2.1,x_.2.2.2.2.2.2.2.2.2.2.2.2.2.2.1,x_.2.2.2.2.2.2.2.2.2.2.2.2.2.2.2.1,x_.2.2.2.2.2.2.2.2.2.2.2.2.2.2.2.2.1,r_.2,x_.2.2.2.2.2.2.2.2.2.2.2.2.2.2.2.2.2.2)))
def jb.c24 {ρ:Type}  (k_:Unit→Option ρ):Option ρ:=
  k_ ()
def jb.c24s:Shape:=jb.c19s
def jb.c24x0:Shape:=⟨[(0,ct4),(1,ct0),(2,ct2),(3,ct7),(6,ct42),(7,ct24),(8,ct57),(9,ct2),(10,ct64),(11,ct2)],[(3,ct8),(6,ct65),(7,ct17),(8,ct17),(10,ct65),(2080,ct61),(3010,ct61)]⟩
def jb.c24r:Ck:=Ck.of (T:=Unit) jb.c24s (fun ρ x_ k_=>jb.c24  k_) (fun ρ x_ r_ k_=>k_ 0 (Shape.inj jb.c24x0 (x_.1,x_.2.1,x_.2.2.1,x_.2.2.2.1,x_.2.2.2.2.1,x_.2.2.2.2.2.1,x_.2.2.2.2.2.2.1,x_.2.2.2.2.2.2.2.1,x_.2.2.2.2.2.2.2.2.2.2.2.2.2.2.2.1,x_.2.2.2.2.2.2.2.2.2.2.2.2.2.2.2.2.1,x_.2.2.2.2.2.2.2.2.2.2.2.2.2.1,x_.2.2.2.2.2.2.2.2.2.2.2.2.2.2.1,x_.2.2.2.2.2.2.2.2.2.2.2.2.2)))
def jb (c:(Int)×((Int)×(List ((Int)×((Int)×((List Int)×((Int)×((Int)×(List Int))))))))) (t1:List (Int)) (qubits:Int):Option (((Int)×((Int)×(List ((Int)×((Int)×((List Int)×((Int)×((Int)×(List Int)))))))))×((Int)×(Int))):=
  bnd (W.jB (c.1,c.2.1,c.2.2)) fun y=>
  bnd (W.jb.c208197 qubits y.1 y.2 some) fun y_1=>
  bnd (W.jb.c216389 t1 c.1 y_1.1 y_1.2 some) fun y_2=>
  bnd (iter (fun s↦W.jb.c100007 t1 qubits s.1 s.2.1 s.2.2 some) ((0:Int),y_2.1,y_2.2)) fun y_3=>
  br (y_3.2.1 != (0:Int))
   (bnd (W.jb.c12 some) fun y_4=>
    some (((0:Int),(0:Int),[]),y_3.2.1,y_3.2.2))
   (bnd (W.jm (c.1,c.2.1,c.2.2)) fun y_5=>
    bnd (iter (fun s↦W.jb.c100016 t1 s.1 s.2 some) ((0:Int),y_5.2.2.1)) fun y_6=>
    bnd (W.jb.c24 some) fun y_7=>
    some ((qubits,y_5.2.1,y_6.2),y_3.2.1,y_3.2.2))
def jb.ce:Go.Ql.Callee:=⟨[(.st (.pair (.int .i64) (.pair (.int .i64) (.sl (.st (.pair (.int .i64) (.pair (.int .i64) (.pair (.sl (.int .i64)) (.pair (.int .i64) (.pair (.int .i64) (.sl (.int .i64)))))))))))),(.sl (.int .i64)),(.int .i64)],[(.st (.pair (.int .i64) (.pair (.int .i64) (.sl (.st (.pair (.int .i64) (.pair (.int .i64) (.pair (.sl (.int .i64)) (.pair (.int .i64) (.pair (.int .i64) (.sl (.int .i64)))))))))))),(.st (.pair (.int .i64) (.int .i64)))],fun x_=>jb x_.1 x_.2.1 x_.2.2⟩
def jb.G:Env:=⟨144,tab,[(15,jB.ce),(42,Jt.ce),(52,Jd.ce)],[0,1,2,3,6,7,8,9,10,11,12,25,36,46,71,76,87,96,119],[10,2080,3010,30003010],[(24,[⟨[],[],[143],[]⟩,⟨[],[],[142],[6]⟩,⟨[0],[6],[143],[]⟩,⟨[1,2,0],[7],[],[]⟩]),
  (23,[⟨[],[],[124,128,129,130,131,132,133,134,135,136,137,138,139,140],[]⟩,⟨[0],[],[124,128,129,130,131,132,133,134,135,136,137,138,139,140],[]⟩,⟨[],[],[122,123,128,129,130,131,132,133,134,135,136,137,138,139,140],[]⟩,⟨[1,0,2],[],[128,129,130,131,132,133,134,135,136,137,138,139,140],[]⟩,⟨[3,1,0,2],[],[128,129,130,131,132,133,134,135,136,137,138,139,140],[]⟩,⟨[4,3,1,0,2],[],[128,129,130,131,132,133,134,135,136,137,138,139,140],[]⟩,⟨[],[],[122,123,124,125,126,127,129,130,131,132,133,134,135,136,137,138,139,140],[]⟩,⟨[],[],[122,123,124,125,126,127,128,130,131,132,133,134,135,136,137,138],[]⟩,⟨[],[],[122,123,124,125,126,127,128,129,132,136],[]⟩,⟨[8],[],[122,123,124,125,126,127,128,129,132,136],[]⟩,⟨[],[],[122,123,124,125,126,127,128,129,130,131,136],[]⟩,⟨[9,8,10],[],[122,123,124,125,126,127,128,129,136],[]⟩,⟨[11,9,8,10],[],[122,123,124,125,126,127,128,129,136],[]⟩,⟨[12,11,9,8,10],[],[122,123,124,125,126,127,128,129,136],[]⟩,⟨[],[],[122,123,124,125,126,127,128,129,130,131,132,133,134,135],[]⟩,⟨[13,12,11,9,8,10,14],[],[122,123,124,125,126,127,128,129],[]⟩,⟨[15,13,12,11,9,8,10,14],[],[122,123,124,125,126,127,128,129],[]⟩,⟨[7,16,15,13,12,11,9,8,10,14],[],[122,123,124,125,126,127,128],[]⟩,⟨[17,7,16,15,13,12,11,9,8,10,14],[],[122,123,124,125,126,127,128],[]⟩,⟨[5,4,3,1,0,2,6,7,8,9,10,11,12,13,14,15,16,17,18],[],[],[]⟩,⟨[19,5,4,3,1,0,2,6,7,8,9,10,11,12,13,14,15,16,17,18],[2080],[],[]⟩]),
  (19,[⟨[],[],[99,100,101,102,103,104,105,106,107,108],[]⟩,⟨[0],[],[99,100,101,102,103,104,105,106,107,108],[]⟩,⟨[],[],[97,98,100,101,102,103,104,105,106,107,108],[]⟩,⟨[],[],[97,98,99,101,102,103,104,105,106],[]⟩,⟨[],[],[97,98,99,100,103],[]⟩,⟨[4],[],[97,98,99,100,103],[]⟩,⟨[],[],[97,98,99,100,101,102],[]⟩,⟨[5,4,6],[],[97,98,99,100],[]⟩,⟨[7,5,4,6],[],[97,98,99,100],[]⟩,⟨[8,7,5,4,6],[],[97,98,99,100],[]⟩,⟨[3,9,8,7,5,4,6],[],[97,98,99],[]⟩,⟨[10,3,9,8,7,5,4,6],[],[97,98,99],[]⟩,⟨[1,0,2,3,4,5,6,7,8,9,10,11],[],[],[]⟩,⟨[12,1,0,2,3,4,5,6,7,8,9,10,11],[],[],[]⟩,⟨[13,12,1,0,2,3,4,5,6,7,8,9,10,11],[2080],[],[]⟩]),
  (12,[⟨[],[],[78],[]⟩,⟨[],[],[77],[6]⟩,⟨[0],[6],[78],[]⟩,⟨[1,2,0],[7],[],[]⟩]),
  (9,[⟨[],[],[50],[]⟩,⟨[],[],[49],[]⟩,⟨[0,1],[],[],[]⟩,⟨[2,0,1],[],[],[]⟩,⟨[3,2,0,1],[],[],[]⟩,⟨[4,3,2,0,1],[],[],[]⟩,⟨[5,4,3,2,0,1],[],[56,59],[]⟩,⟨[5,4,3,2,0,1],[],[55,59],[]⟩,⟨[6,5,4,3,2,0,1,7],[],[59],[]⟩,⟨[8,6,5,4,3,2,0,1,7],[],[59],[]⟩,⟨[5,4,3,2,0,1],[],[55,56,57,58],[]⟩,⟨[9,8,6,5,4,3,2,0,1,7,10],[],[],[]⟩,⟨[5,4,3,2,0,1,11,9,8,6,7,10],[],[],[]⟩,⟨[12,5,4,3,2,0,1,11,9,8,6,7,10],[],[],[]⟩,⟨[13,12,5,4,3,2,0,1,11,9,8,6,7,10],[],[64,66,67,68,69],[]⟩,⟨[13,12,5,4,3,2,0,1,11,9,8,6,7,10],[],[63,66,67,68,69],[]⟩,⟨[14,13,12,5,4,3,2,0,1,11,9,8,6,7,10,15],[],[66,67,68,69],[]⟩,⟨[13,12,5,4,3,2,0,1,11,9,8,6,7,10],[],[63,64,65,67],[]⟩,⟨[13,12,5,4,3,2,0,1,11,9,8,6,7,10],[],[63,64,65,66],[]⟩,⟨[17,13,12,5,4,3,2,0,1,11,9,8,6,7,10,18],[],[63,64,65],[]⟩,⟨[19,17,13,12,5,4,3,2,0,1,11,9,8,6,7,10,18],[],[63,64,65],[]⟩,⟨[16,14,13,12,5,4,3,2,0,1,11,9,8,6,7,10,15,20,19,17,18],[],[],[]⟩,⟨[13,12,5,4,3,2,0,1,11,9,8,6,7,10,21,16,14,15,20,19,17,18],[],[],[]⟩])],[(24,jb.c24r),(100016,jb.c100016r),(100021,jb.c100021r),(23,jb.c23r),(273733,jb.c273733r),(19,jb.c19r),(12,jb.c12r),(100007,jb.c100007r),(236870,jb.c236870r),(9,jb.c9r),(7,jb.c7r),(216389,jb.c216389r),(4,jb.c4r),(208197,jb.c208197r),(2,jb.c2r)],[(11,jm.mc)],Jc,[]⟩
theorem jb.eq (x_:dens jb.ce.params):den jb.G Tryd.f28 jb.ce.params jb.ce.res x_=jb.ce.F x_:=by kernel_rfl
theorem jb.p0:PcA jb.G Tryd.f28 0:=
  kG (s:=jb.c208197r) (by kernel_rfl) (by kernel_rfl) (jH (sh:=jb.c208197s) (fun ρ x_ k_=>(jf fun _=>(jr (jf fun _=>ja) ja))) (fun ρ x_ t k=>(by kernel_rfl)) (fun x_=>by kernel_rfl))
theorem jb.p1:PcA jb.G Tryd.f28 1:=
  jC (s:=jb.c2r) (by kernel_rfl) (by kernel_rfl) (jH (sh:=jb.c2s) (fun ρ x_ k_=>(jr (jr ja ja) ja)) (fun ρ x_ t k=>(by kernel_rfl)) (fun x_=>by kernel_rfl))
theorem jb.p2:PcA jb.G Tryd.f28 2:=
  kG (s:=jb.c216389r) (by kernel_rfl) (by kernel_rfl) (jH (sh:=jb.c216389s) (fun ρ x_ k_=>(jf fun _=>(jr (jf fun _=>ja) ja))) (fun ρ x_ t k=>(by kernel_rfl)) (fun x_=>by kernel_rfl))
theorem jb.p3:PcA jb.G Tryd.f28 3:=
  jC (s:=jb.c4r) (by kernel_rfl) (by kernel_rfl) (jH (sh:=jb.c4s) (fun ρ x_ k_=>(jr ja ja)) (fun ρ x_ t k=>(by kernel_rfl)) (fun x_=>by kernel_rfl))
theorem jb.p4:PcA jb.G Tryd.f28 4:=
  JD (s:=jb.c100007r) (by kernel_rfl) (by kernel_rfl) (Ju (sh:=jb.c100007s) (I:=fun x_ s_=>(x_.1,x_.2.1,x_.2.2.1,s_.1,x_.2.2.2.2.1,x_.2.2.2.2.2.1,x_.2.2.2.2.2.2.1,x_.2.2.2.2.2.2.2.1,x_.2.2.2.2.2.2.2.2.1,x_.2.2.2.2.2.2.2.2.2.1,x_.2.2.2.2.2.2.2.2.2.2.1,x_.2.2.2.2.2.2.2.2.2.2.2.1,s_.2.1,s_.2.2,())) (fun x_=>rfl) (fun ρ x_ s_ k_=>(jf fun _=>(jr (jf fun _=>ja) ja))) (fun ρ x_ t k=>(by kernel_rfl)) (fun x_ s=>by kernel_rfl))
theorem jb.p5:PcA jb.G Tryd.f28 5:=
  jC (s:=jb.c7r) (by kernel_rfl) (by kernel_rfl) (jH (sh:=jb.c7s) (fun ρ x_ k_=>(jr ja ja)) (fun ρ x_ t k=>(by kernel_rfl)) (fun x_=>by kernel_rfl))
theorem jb.p6:PcA jb.G Tryd.f28 6:=
  kG (s:=jb.c236870r) (by kernel_rfl) (by kernel_rfl) (jH (sh:=jb.c236870s) (fun ρ x_ k_=>(jf fun _=>(jr (jf fun _=>ja) ja))) (fun ρ x_ t k=>(by kernel_rfl)) (fun x_=>by kernel_rfl))
theorem jb.p7:PcA jb.G Tryd.f28 7:=
  jC (s:=jb.c9r) (by kernel_rfl) (by kernel_rfl) (jH (sh:=jb.c9s) (fun ρ x_ k_=>(jf fun _=>(jr ja (jf fun _=>(jr ja (jf fun _=>(jf fun _=>(jf fun _=>ja)))))))) (fun ρ x_ t k=>(by kernel_rfl)) (fun x_=>by kernel_rfl))
theorem jb.p8:PcA jb.G Tryd.f28 8:=
  jC (s:=jb.c12r) (by kernel_rfl) (by kernel_rfl) (jH (sh:=jb.c12s) (fun ρ x_ k_=>ja) (fun ρ x_ t k=>(by kernel_rfl)) (fun x_=>by kernel_rfl))
theorem jb.p9:PcA jb.G Tryd.f28 9:=
  JD (s:=jb.c100016r) (by kernel_rfl) (by kernel_rfl) (Ju (sh:=jb.c100016s) (I:=fun x_ s_=>(x_.1,x_.2.1,x_.2.2.1,x_.2.2.2.1,s_.1,x_.2.2.2.2.2.1,x_.2.2.2.2.2.2.1,x_.2.2.2.2.2.2.2.1,x_.2.2.2.2.2.2.2.2.1,x_.2.2.2.2.2.2.2.2.2.1,x_.2.2.2.2.2.2.2.2.2.2.1,x_.2.2.2.2.2.2.2.2.2.2.2.1,x_.2.2.2.2.2.2.2.2.2.2.2.2.1,x_.2.2.2.2.2.2.2.2.2.2.2.2.2.1,x_.2.2.2.2.2.2.2.2.2.2.2.2.2.2.1,x_.2.2.2.2.2.2.2.2.2.2.2.2.2.2.2.1,x_.2.2.2.2.2.2.2.2.2.2.2.2.2.2.2.2.1,s_.2,x_.2.2.2.2.2.2.2.2.2.2.2.2.2.2.2.2.2.2)) (fun x_=>rfl) (fun ρ x_ s_ k_=>(jr (jf fun _=>(jf fun _=>ja)) ja)) (fun ρ x_ t k=>(by kernel_rfl)) (fun x_ s=>by kernel_rfl))
theorem jb.p10:PcA jb.G Tryd.f28 10:=
  kG (s:=jb.c273733r) (by kernel_rfl) (by kernel_rfl) (jH (sh:=jb.c273733s) (fun ρ x_ k_=>(jf fun _=>(jf fun _=>(jr (jf fun _=>ja) ja)))) (fun ρ x_ t k=>(by kernel_rfl)) (fun x_=>by kernel_rfl))
theorem jb.p11:PcA jb.G Tryd.f28 11:=
  jC (s:=jb.c19r) (by kernel_rfl) (by kernel_rfl) (jH (sh:=jb.c19s) (fun ρ x_ k_=>(jf fun _=>(jf fun _=>(jf fun _=>(jf fun _=>(jf fun _=>ja)))))) (fun ρ x_ t k=>(by kernel_rfl)) (fun x_=>by kernel_rfl))
theorem jb.p12:PcA jb.G Tryd.f28 12:=
  JD (s:=jb.c100021r) (by kernel_rfl) (by kernel_rfl) (Ju (sh:=jb.c100021s) (I:=fun x_ s_=>(x_.1,x_.2.1,x_.2.2.1,x_.2.2.2.1,x_.2.2.2.2.1,s_.1,x_.2.2.2.2.2.2.1,x_.2.2.2.2.2.2.2.1,x_.2.2.2.2.2.2.2.2.1,x_.2.2.2.2.2.2.2.2.2.1,x_.2.2.2.2.2.2.2.2.2.2.1,x_.2.2.2.2.2.2.2.2.2.2.2.1,x_.2.2.2.2.2.2.2.2.2.2.2.2.1,x_.2.2.2.2.2.2.2.2.2.2.2.2.2.1,x_.2.2.2.2.2.2.2.2.2.2.2.2.2.2.1,x_.2.2.2.2.2.2.2.2.2.2.2.2.2.2.2.1,x_.2.2.2.2.2.2.2.2.2.2.2.2.2.2.2.2.1,x_.2.2.2.2.2.2.2.2.2.2.2.2.2.2.2.2.2.1,s_.2,x_.2.2.2.2.2.2.2.2.2.2.2.2.2.2.2.2.2.2.2)) (fun x_=>rfl) (fun ρ x_ s_ k_=>(jf fun _=>(jf fun _=>(jf fun _=>(jr (jf fun _=>ja) ja))))) (fun ρ x_ t k=>(by kernel_rfl)) (fun x_ s=>by kernel_rfl))
theorem jb.p13:PcA jb.G Tryd.f28 13:=
  jC (s:=jb.c23r) (by kernel_rfl) (by kernel_rfl) (jH (sh:=jb.c23s) (fun ρ x_ k_=>(jf fun _=>(jf fun _=>(jf fun _=>(jf fun _=>(jf fun _=>(jf fun _=>(jf fun _=>(jf fun _=>(jf fun _=>(jf fun _=>(jf fun _=>(jf fun _=>(jf fun _=>ja)))))))))))))) (fun ρ x_ t k=>(by kernel_rfl)) (fun x_=>by kernel_rfl))
theorem jb.p14:PcA jb.G Tryd.f28 14:=
  jC (s:=jb.c24r) (by kernel_rfl) (by kernel_rfl) (jH (sh:=jb.c24s) (fun ρ x_ k_=>ja) (fun ρ x_ t k=>(by kernel_rfl)) (fun x_=>by kernel_rfl))
theorem jb.ok:CalleeOk Tryd.prog 28 jb.ce:=fn_ok (G:=jb.G) Jm mixed Tryd.func28 ⟨(jL jB.ok (jL Jt.ok (jL Jd.ok Je))),(JG jm.ok jW),jK,jV⟩ (m:=15) (by kernel_rfl) ⟨⟨⟨⟨⟨⟨⟨⟨⟨⟨⟨⟨⟨⟨⟨trivial,jb.p0⟩,jb.p1⟩,jb.p2⟩,jb.p3⟩,jb.p4⟩,jb.p5⟩,jb.p6⟩,jb.p7⟩,jb.p8⟩,jb.p9⟩,jb.p10⟩,jb.p11⟩,jb.p12⟩,jb.p13⟩,jb.p14⟩ (by kernel_rfl) jb.eq
abbrev ct66:SD:=.one (.ref 11 0)
abbrev ct67:SD:=.one (.ref 12 0)
abbrev ct68:SD:=.one (.ref 13 0)
abbrev ct69:SD:=.one (.ref 14 0)
def jA.c5 {ρ:Type} (x0:Int) (x1:Int) (x2:List ((Int)×((Int)×((List Int)×((Int)×((Int)×(List Int))))))) (f0:Int) (f1:Int) (y0:Int) (y1:Int) (y2:List ((Int)×((Int)×((List Int)×((Int)×((Int)×(List Int))))))) (g0:Int) (g1:Int) (k_:Bool→Option ρ):Option ρ:=
  bnd W.jO fun y=>
  br (!y)
   (k_ true)
   (bnd (W.jP (x0,x1,x2) (f0,f1) (y0,y1,y2) (g0,g1)) fun y_1=>
    k_ (!y_1))
def jA.c5s:Shape:=⟨[(0,ct4),(1,ct2),(2,ct0),(3,ct2),(4,ct23),(8,ct11),(9,ct47),(10,ct0),(11,ct66),(12,ct67),(13,ct68),(14,ct69)],[(4,ct8),(9,ct8),(11,ct8),(12,ct17),(13,ct8),(14,ct17)]⟩
def jA.c5x0:Shape:=⟨[(0,ct4),(1,ct2),(2,ct0),(3,ct2),(4,ct23),(8,ct11),(9,ct47),(10,ct0),(11,ct66),(12,ct67),(13,ct68),(14,ct69),(38,ct11)],[(4,ct8),(9,ct8),(11,ct8),(12,ct17),(13,ct8),(14,ct17)]⟩
def jA.c5r:Ck:=Ck.of (T:=Bool) jA.c5s (fun ρ x_ k_=>jA.c5 x_.2.2.2.2.2.2.2.2.2.2.2.2.1 x_.2.2.2.2.2.2.2.2.2.2.2.2.2.1 x_.2.2.2.2.2.2.2.2.2.2.2.2.2.2.1 x_.2.2.2.2.2.2.2.2.2.2.2.2.2.2.2.1 x_.2.2.2.2.2.2.2.2.2.2.2.2.2.2.2.2.1 x_.2.2.2.2.2.2.2.2.2.2.2.2.2.2.2.2.2.1 x_.2.2.2.2.2.2.2.2.2.2.2.2.2.2.2.2.2.2.1 x_.2.2.2.2.2.2.2.2.2.2.2.2.2.2.2.2.2.2.2.1 x_.2.2.2.2.2.2.2.2.2.2.2.2.2.2.2.2.2.2.2.2.1 x_.2.2.2.2.2.2.2.2.2.2.2.2.2.2.2.2.2.2.2.2.2.1 k_) (fun ρ x_ r_ k_=>k_ 0 (Shape.inj jA.c5x0 (x_.1,x_.2.1,x_.2.2.1,x_.2.2.2.1,x_.2.2.2.2.1,x_.2.2.2.2.2.1,r_,x_.2.2.2.2.2.2)))
def jA.c13 {ρ:Type} (t2:List (Int)) (list:List (Int)) (c0:Int) (c1:Int) (c2:List ((Int)×((Int)×((List Int)×((Int)×((Int)×(List Int))))))) (given0:Int) (given1:Int) (given2:List ((Int)×((Int)×((List Int)×((Int)×((Int)×(List Int))))))) (x0:Int) (x1:Int) (x2:List ((Int)×((Int)×((List Int)×((Int)×((Int)×(List Int))))))) (f0:Int) (f1:Int) (y0:Int) (y1:Int) (y2:List ((Int)×((Int)×((List Int)×((Int)×((Int)×(List Int))))))) (g0:Int) (g1:Int) (k_:Bool→Option ρ):Option ρ:=
  bnd (W.jP (x0,x1,x2) (f0,f1) (y0,y1,y2) (g0,g1)) fun y=>
  br y
   (bnd (W.jn (given0,given1,given2) (c0,c1,c2)) fun y_1=>
    br y_1
     (bnd (W.jF list t2) fun y_2=>
      k_ y_2)
     (k_ false))
   (k_ false)
def jA.c13s:Shape:=jA.c5s
def jA.c13x0:Shape:=jA.c5s
def jA.c13r:Ck:=Ck.of (T:=Bool) jA.c13s (fun ρ x_ k_=>uP x_ fun c x_=>uP x_ fun q x_=>uP x_ fun t2 x_=>uP x_ fun n x_=>uP x_ fun t8 x_=>uP x_ fun list x_=>uP x_ fun c0 x_=>uP x_ fun c1 x_=>uP x_ fun c2 x_=>uP x_ fun given0 x_=>uP x_ fun given1 x_=>uP x_ fun given2 x_=>uP x_ fun x0 x_=>uP x_ fun x1 x_=>uP x_ fun x2 x_=>uP x_ fun f0 x_=>uP x_ fun f1 x_=>uP x_ fun y0 x_=>uP x_ fun y1 x_=>uP x_ fun y2 x_=>uP x_ fun g0 x_=>uP x_ fun g1 x_=>jA.c13 t2 list c0 c1 c2 given0 given1 given2 x0 x1 x2 f0 f1 y0 y1 y2 g0 g1 k_) (fun ρ x_ r_ k_=>k_ 0 (Shape.inj jA.c13x0 (x_.1,x_.2.1,x_.2.2.1,x_.2.2.2.1,r_,x_.2.2.2.2.2)))
def jA (c:(Int)×((Int)×(List ((Int)×((Int)×((List Int)×((Int)×((Int)×(List Int))))))))) (q:Int) (t2:List (Int)) (n:Int):Option Bool:=
  bnd (W.jx (c.1,c.2.1,c.2.2)) fun y=>
  bnd (okIf (decide (((0:Nat)+List.length t2)*(8:Nat)≤(140737488355328:Nat)) && decide ((0:Nat)+List.length t2≤(140737488355328:Nat)))) fun y_1=>
  bnd (W.jS (y.1,y.2.1,y.2.2)) fun y_2=>
  bnd (W.jw (c.1,c.2.1,c.2.2)) fun y_3=>
  bnd (W.jA.c5 y_2.1.1 y_2.1.2.1 y_2.1.2.2 y_2.2.1 y_2.2.2 y_3.1.1 y_3.1.2.1 y_3.1.2.2 y_3.2.1 y_3.2.2 some) fun y_4=>
  br y_4
   (some false)
   (bnd (W.ji (y.1,y.2.1,y.2.2) q) fun y_5=>
    bnd (W.jg (c.1,c.2.1,c.2.2) q) fun y_6=>
    bnd (W.jP (y_5.1.1,y_5.1.2.1,y_5.1.2.2) (y_5.2.1,y_5.2.2) (y_6.1.1,y_6.1.2.1,y_6.1.2.2) (y_6.2.1,y_6.2.2)) fun y_7=>
    br (!y_7)
     (some false)
     (bnd (W.js (y.1,y.2.1,y.2.2) t2 n) fun y_8=>
      bnd (W.jb (c.1,c.2.1,c.2.2) t2 n) fun y_9=>
      bnd (W.jA.c13 t2 t2 c.1 c.2.1 c.2.2 y.1 y.2.1 y.2.2 y_8.1.1 y_8.1.2.1 y_8.1.2.2 y_8.2.1 y_8.2.2 y_9.1.1 y_9.1.2.1 y_9.1.2.2 y_9.2.1 y_9.2.2 some) fun y_10=>
      some y_10))
def jA.ce:Go.Ql.Callee:=⟨[(.st (.pair (.int .i64) (.pair (.int .i64) (.sl (.st (.pair (.int .i64) (.pair (.int .i64) (.pair (.sl (.int .i64)) (.pair (.int .i64) (.pair (.int .i64) (.sl (.int .i64)))))))))))),(.int .i64),(.sl (.int .i64)),(.int .i64)],[.bool],fun x_=>jA x_.1 x_.2.1 x_.2.2.1 x_.2.2.2⟩
def jA.G:Env:=⟨86,tab,[(11,jx.ce),(23,jS.ce),(24,jw.ce),(13,jO.ce),(20,jP.ce),(25,ji.ce),(26,jg.ce),(27,js.ce),(28,jb.ce),(29,jn.ce),(30,jF.ce)],[0,1,2,3,4,8,9,10,11,12,13,14,38,56],[],[],[(13,jA.c13r),(5,jA.c5r)],[],Jc,[]⟩
theorem jA.eq (x_:dens jA.ce.params):den jA.G Tryd.f5 jA.ce.params jA.ce.res x_=jA.ce.F x_:=by kernel_rfl
theorem jA.p0:PcA jA.G Tryd.f5 0:=
  jC (s:=jA.c5r) (by kernel_rfl) (by kernel_rfl) (jH (sh:=jA.c5s) (fun ρ x_ k_=>(jf fun _=>(jr ja (jf fun _=>ja)))) (fun ρ x_ t k=>(by kernel_rfl)) (fun x_=>by kernel_rfl))
theorem jA.p1:PcA jA.G Tryd.f5 1:=
  jC (s:=jA.c13r) (by kernel_rfl) (by kernel_rfl) (jH (sh:=jA.c13s) (fun ρ x_ k_=>(jf fun _=>(jr (jf fun _=>(jr (jf fun _=>ja) ja)) ja))) (fun ρ x_ t k=>(by kernel_rfl)) (fun x_=>by kernel_rfl))
theorem jA.ok:CalleeOk Tryd.prog 5 jA.ce:=fn_ok (G:=jA.G) Jm mixed Tryd.func5 ⟨(jL jx.ok (jL jS.ok (jL jw.ok (jL jO.ok (jL jP.ok (jL ji.ok (jL jg.ok (jL js.ok (jL jb.ok (jL jn.ok (jL jF.ok Je))))))))))),jW,jK,jV⟩ (m:=2) (by kernel_rfl) ⟨⟨trivial,jA.p0⟩,jA.p1⟩ (by kernel_rfl) jA.eq
end
end W
end
