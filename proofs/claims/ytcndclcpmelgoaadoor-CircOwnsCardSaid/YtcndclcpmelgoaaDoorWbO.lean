/- Lifted functions, part 2: each with its contract. -/
import Derived.Test.YtcndclcpmelgoaaDoorWaO
import Derived.Test.YtcndclcpmelgoaaDoorProg
set_option linter.all false
section
set_option maxHeartbeats 4000000
set_option maxRecDepth 100000
set_option linter.unusedVariables false
namespace W
open Go Go.Ql Go.Proofs
noncomputable section
abbrev ct58:SD:=.one (.own 2 0)
def jM.pre:Shape:=⟨[(0,ct0)],[]⟩
def jM.post:Shape:=⟨[(0,ct20)],[(0,ct3)]⟩
def jM.c100003 {ρ:Type} (l:List (Int)) (i:Int) (out:List (Int)) (k_:((Int)×(List Int))⊕((Int)×(List Int))→Option ρ):Option ρ:=
  br (decide (i < (↑(List.length l):Int)))
   (bnd (idx l i) fun y=>
    bnd (okIf (decide ((List.length out+(1:Nat))*(8:Nat)≤(140737488355328:Nat)) && decide (List.length out+(1:Nat)≤(140737488355328:Nat)))) fun y_1=>
    k_ (.inl ((IntKind.i64.wrap (i+(1:Int))),(out++[y]))))
   (k_ (.inr (i,out)))
def jM.c100003s:Shape:=⟨[(0,ct0),(2,ct58),(3,ct1),(4,ct2)],[(2,ct3),(3,ct3)]⟩
def jM.c100003x0:Shape:=jM.c100003s
def jM.c100003r:Ck:=Ck.ofLoop (S:=(Int)×(List Int)) (T:=(Int)×(List Int)) jM.c100003s (fun x_=>(x_.2.1,x_.2.2.2.1)) (fun ρ x_ s_ k_=>jM.c100003 x_.1 s_.1 s_.2 k_) (fun ρ x_ r_ k_=>k_ 2 (Shape.inj jM.c100003x0 (x_.1,r_.1,x_.2.2.1,r_.2,())))
def jM (l:List (Int)):Option ((List Int)×Unit):=
  bnd (iter (fun s↦W.jM.c100003 l s.1 s.2 some) ((0:Int),[])) fun y=>
  some (y.2,())
def jM.mc:MCallee:=⟨67,jM.pre,jM.post,fun x_=>jM x_.1⟩
def jM.G:Env:=⟨19,tab,[],[0,2,3,4,8],[2,3],[],[(100003,jM.c100003r)],[],Jf,[]⟩
theorem jM.eq (x_:densU jM.mc.pre.tys):denM jM.G Tryd.f67 jM.mc.pre jM.mc.post x_=jM.mc.F x_:=by kernel_rfl
theorem jM.p0:PcA jM.G Tryd.f67 0:=
  JA (s:=jM.c100003r) (by kernel_rfl) (by kernel_rfl) (Jt (sh:=jM.c100003s) (I:=fun x_ s_=>(x_.1,s_.1,x_.2.2.1,s_.2,())) (fun x_=>rfl) (fun ρ x_ s_ k_=>(jw (je fun _=>(je fun _=>jc)) jc)) (fun ρ x_ t k=>(by kernel_rfl)) (fun x_ s=>by kernel_rfl))
theorem jM.ok:MOk Tryd.prog 67 jM.mc:=kb (G:=jM.G) Js mixed Tryd.func67 ⟨Je,jU,jO,jT⟩ (m:=1) (by kernel_rfl) ⟨trivial,jM.p0⟩ (by kernel_rfl) jM.eq
abbrev ct59:SD:=.agg [.val (.int .i64),.val (.int .i64),.own 2 0,.val (.int .i64),.val (.int .i64),.own 5 0]
def Jg.pre:Shape:=⟨[(0,ct12)],[]⟩
def Jg.post:Shape:=⟨[(0,ct59)],[(2,ct3),(5,ct3)]⟩
def Jg (o:(Int)×((Int)×((List Int)×((Int)×((Int)×(List Int)))))):Option ((Int)×(Int)×(Int)×(Int)×(List Int)×(List Int)×Unit):=
  bnd (W.jM o.2.2.1) fun y=>
  bnd (W.jM o.2.2.2.2.2) fun y_1=>
  some (o.1,o.2.1,o.2.2.2.1,o.2.2.2.2.1,y.1,y_1.1,())
def Jg.mc:MCallee:=⟨37,Jg.pre,Jg.post,fun x_=>Jg x_.1⟩
def Jg.G:Env:=⟨12,tab,[],[0,1,2],[1,2,5,9,3001,3002,6001,6002],[],[],[(67,jM.mc)],Jf,[]⟩
theorem Jg.eq (x_:densU Jg.mc.pre.tys):denM Jg.G Tryd.f37 Jg.mc.pre Jg.mc.post x_=Jg.mc.F x_:=by kernel_rfl
theorem Jg.ok:MOk Tryd.prog 37 Jg.mc:=kb (G:=Jg.G) Js mixed Tryd.func37 ⟨Je,(Jj jM.ok jU),jO,jT⟩ (m:=0) (by kernel_rfl) trivial (by kernel_rfl) Jg.eq
abbrev ct60:SD:=.agg [.val (.int .i64),.val (.int .i64),.down 2 0]
abbrev ct61:SO:=.deep 0 57 3 (.st (.pair (.int .i64) (.pair (.int .i64) (.pair (.sl (.int .i64)) (.pair (.int .i64) (.pair (.int .i64) (.sl (.int .i64))))))))
abbrev ct62:SO:=.box [.val (.int .i64),.val (.int .i64),.down 3002 0]
abbrev ct63:SO:=.box [.val (.int .i64),.val (.int .i64),.down 3003 0]
def js.pre:Shape:=⟨[(0,ct4)],[]⟩
def js.post:Shape:=⟨[(0,ct60)],[(2,ct61)]⟩
def js.c5 {ρ:Type} (i:Int) (c2:List ((Int)×((Int)×((List Int)×((Int)×((Int)×(List Int))))))) (t3003:List ((Int)×((Int)×((List Int)×((Int)×((Int)×(List Int))))))) (k_:List ((Int)×((Int)×((List Int)×((Int)×((Int)×(List Int))))))→Option ρ):Option ρ:=
  bnd (idx c2 i) fun y=>
  bnd (W.Jg y) fun y_1=>
  bnd (okIf (decide ((List.length t3003+(1:Nat))*(80:Nat)≤(140737488355328:Nat)) && decide (List.length t3003+(1:Nat)≤(140737488355328:Nat)))) fun y_2=>
  k_ (t3003++[(y_1.1,y_1.2.1,y_1.2.2.2.2.1,y_1.2.2.1,y_1.2.2.2.1,y_1.2.2.2.2.2.1)])
def js.c5s:Shape:=⟨[(0,ct4),(1,ct5),(2,ct6),(3,ct7),(4,ct2)],[(1,ct8),(2,ct62),(3,ct63),(3002,ct61),(3003,ct61)]⟩
def js.c5x0:Shape:=⟨[(0,ct4),(1,ct5),(2,ct6),(3,ct7),(4,ct2)],[(1,ct8),(2,ct62),(3,ct63),(25,.gone),(2024,.gone),(3002,ct61),(3003,ct61),(5024,.gone)]⟩
def js.c5r:Ck:=Ck.of (T:=List ((Int)×((Int)×((List Int)×((Int)×((Int)×(List Int))))))) js.c5s (fun ρ x_ k_=>js.c5 x_.2.1 x_.2.2.2.2.1 x_.2.2.2.2.2.2.2.2.2.2.1 k_) (fun ρ x_ r_ k_=>k_ 0 (Shape.inj js.c5x0 (x_.1,x_.2.1,x_.2.2.1,x_.2.2.2.1,x_.2.2.2.2.1,x_.2.2.2.2.2.1,x_.2.2.2.2.2.2.1,x_.2.2.2.2.2.2.2.1,x_.2.2.2.2.2.2.2.2.1,x_.2.2.2.2.2.2.2.2.2.1,r_,())))
def js.c100003 {ρ:Type} (i:Int) (c2:List ((Int)×((Int)×((List Int)×((Int)×((Int)×(List Int))))))) (t3003:List ((Int)×((Int)×((List Int)×((Int)×((Int)×(List Int))))))) (k_:((Int)×(List ((Int)×((Int)×((List Int)×((Int)×((Int)×(List Int))))))))⊕((Int)×(List ((Int)×((Int)×((List Int)×((Int)×((Int)×(List Int))))))))→Option ρ):Option ρ:=
  br (decide (i < (↑(List.length c2):Int)))
   (bnd (W.js.c5 i c2 t3003 some) fun y=>
    k_ (.inl ((IntKind.i64.wrap (i+(1:Int))),y)))
   (k_ (.inr (i,t3003)))
def js.c100003s:Shape:=js.c5s
def js.c100003x0:Shape:=js.c5s
def js.c100003r:Ck:=Ck.ofLoop (S:=(Int)×(List ((Int)×((Int)×((List Int)×((Int)×((Int)×(List Int)))))))) (T:=(Int)×(List ((Int)×((Int)×((List Int)×((Int)×((Int)×(List Int)))))))) js.c100003s (fun x_=>(x_.2.1,x_.2.2.2.2.2.2.2.2.2.2.1)) (fun ρ x_ s_ k_=>js.c100003 s_.1 x_.2.2.2.2.1 s_.2 k_) (fun ρ x_ r_ k_=>k_ 2 (Shape.inj js.c100003x0 (x_.1,r_.1,x_.2.2.1,x_.2.2.2.1,x_.2.2.2.2.1,x_.2.2.2.2.2.1,x_.2.2.2.2.2.2.1,x_.2.2.2.2.2.2.2.1,x_.2.2.2.2.2.2.2.2.1,x_.2.2.2.2.2.2.2.2.2.1,r_.2,())))
def js (c:(Int)×((Int)×(List ((Int)×((Int)×((List Int)×((Int)×((Int)×(List Int))))))))):Option ((Int)×(Int)×(List ((Int)×((Int)×((List Int)×((Int)×((Int)×(List Int)))))))×Unit):=
  bnd (iter (fun s↦W.js.c100003 s.1 c.2.2 s.2 some) ((0:Int),[])) fun y=>
  some (c.1,c.2.1,y.2,())
def js.mc:MCallee:=⟨11,js.pre,js.post,fun x_=>js x_.1⟩
def js.G:Env:=⟨29,tab,[],[0,1,2,3,4,14],[1,2,3,9,24,25,2024,3001,3002,3003,5024,30000025,30003002,30003003],[(5,[⟨[],[],[19,20,21,22,23,24,25],[2024,5024,25]⟩,⟨[0],[],[19,20,21,22,23,24,25],[2024,5024,25]⟩,⟨[],[],[17,18,21],[]⟩,⟨[2],[],[17,18,21],[]⟩,⟨[],[],[17,18,19,20],[]⟩,⟨[3,2,4],[],[17,18],[]⟩,⟨[5,3,2,4],[],[17,18],[]⟩,⟨[6,5,3,2,4],[2024,5024],[17,18],[]⟩,⟨[7,6,5,3,2,4],[2024,5024,25],[17,18],[]⟩,⟨[1,0,8,7,6,5,3,2,4],[3003,25],[],[]⟩,⟨[0,1,2,3,4,5,6,7,8,9],[],[],[]⟩,⟨[10,0,1,2,3,4,5,6,7,8,9],[3],[],[]⟩])],[(100003,js.c100003r),(5,js.c5r)],[(37,Jg.mc)],Jf,[]⟩
theorem js.eq (x_:densU js.mc.pre.tys):denM js.G Tryd.f11 js.mc.pre js.mc.post x_=js.mc.F x_:=by kernel_rfl
theorem js.p0:PcA js.G Tryd.f11 0:=
  JA (s:=js.c100003r) (by kernel_rfl) (by kernel_rfl) (Jt (sh:=js.c100003s) (I:=fun x_ s_=>(x_.1,s_.1,x_.2.2.1,x_.2.2.2.1,x_.2.2.2.2.1,x_.2.2.2.2.2.1,x_.2.2.2.2.2.2.1,x_.2.2.2.2.2.2.2.1,x_.2.2.2.2.2.2.2.2.1,x_.2.2.2.2.2.2.2.2.2.1,s_.2,())) (fun x_=>rfl) (fun ρ x_ s_ k_=>(jw (je fun _=>jc) jc)) (fun ρ x_ t k=>(by kernel_rfl)) (fun x_ s=>by kernel_rfl))
theorem js.p1:PcA js.G Tryd.f11 1:=
  jG (s:=js.c5r) (by kernel_rfl) (by kernel_rfl) (jF (sh:=js.c5s) (fun ρ x_ k_=>(je fun _=>(je fun _=>(je fun _=>jc)))) (fun ρ x_ t k=>(by kernel_rfl)) (fun x_=>by kernel_rfl))
theorem js.ok:MOk Tryd.prog 11 js.mc:=kb (G:=js.G) Js mixed Tryd.func11 ⟨Je,(Jj Jg.ok jU),jO,jT⟩ (m:=2) (by kernel_rfl) ⟨⟨trivial,js.p0⟩,js.p1⟩ (by kernel_rfl) js.eq
end
end W
end
