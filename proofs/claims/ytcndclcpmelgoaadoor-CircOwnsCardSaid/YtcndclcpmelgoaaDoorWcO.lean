/- Lifted functions, part 3: each with its contract. -/
import Derived.Test.YtcndclcpmelgoaaDoorWbO
import Derived.Test.YtcndclcpmelgoaaDoorCaO
import Derived.Test.YtcndclcpmelgoaaDoorProg
set_option linter.all false
section
set_option maxHeartbeats 4000000
set_option maxRecDepth 100000
set_option linter.unusedVariables false
namespace W
open Go Go.Ql Go.Proofs
noncomputable section
abbrev co0:SD:=.one (.val (.st (.pair (.int .i64) (.pair (.int .i64) (.pair (.sl (.int .i64)) (.pair (.int .i64) (.pair (.int .i64) (.sl (.int .i64)))))))))
abbrev co1:SD:=.agg [.val (.int .i64),.val (.int .i64),.own 2 0,.val (.int .i64),.val (.int .i64),.own 5 0]
abbrev co2:SO:=.arr 0 false 3 (.int .i64)
abbrev co3:SD:=.one (.ref 1 0)
abbrev co4:SD:=.one (.ref 2 0)
abbrev co5:SO:=.box [.val (.int .i64),.val (.int .i64),.val (.sl (.int .i64)),.val (.int .i64),.val (.int .i64),.val (.sl (.int .i64))]
abbrev co6:SO:=.box [.val (.int .i64),.val (.int .i64),.own 3002 0,.val (.int .i64),.val (.int .i64),.own 6002 0]
abbrev co7:SO:=.box [.val (.int .i64),.val (.int .i64),.own 5 0,.val (.int .i64),.val (.int .i64),.own 8 0]
def jA.pre:Shape:=⟨[(0,co0)],[]⟩
def jA.post:Shape:=⟨[(0,co1)],[(2,co2),(5,co2)]⟩
def jA.c1 {ρ:Type} (o2:List (Int)) (o5:List (Int)) (k_:(List Int)×(List Int)→Option ρ):Option ρ:=
  bnd (W.jX o2) fun y=>
  bnd (W.jX o5) fun y_1=>
  k_ (y.1,y_1.1)
def jA.c1s:Shape:=⟨[(0,co0),(1,co3),(2,co4)],[(1,co5),(2,co6),(3002,co2),(6002,co2)]⟩
def jA.c1x0:Shape:=⟨[(0,co0),(1,co3),(2,co4)],[(1,co7),(2,co6),(5,co2),(8,co2),(3002,co2),(6002,co2)]⟩
def jA.c1r:Ck:=Ck.of (T:=(List Int)×(List Int)) jA.c1s (fun ρ x_ k_=>jA.c1 x_.2.2.2.1 x_.2.2.2.2.2.2.1 k_) (fun ρ x_ r_ k_=>k_ 0 (Shape.inj jA.c1x0 (x_.1,x_.2.1,x_.2.2.1,x_.2.2.2.2.1,x_.2.2.2.2.2.1,x_.2.2.2.2.2.2.2.1,x_.2.2.2.2.2.2.2.2.1,x_.2.2.2.2.2.2.2.2.2.1,x_.2.2.2.2.2.2.2.2.2.2.1,r_.1,r_.2,x_.2.2.2.2.2.2.2.2.2.2.2)))
def jA (o:(Int)×((Int)×((List Int)×((Int)×((Int)×(List Int)))))):Option ((Int)×(Int)×(Int)×(Int)×(List Int)×(List Int)×Unit):=
  bnd (W.jA.c1 o.2.2.1 o.2.2.2.2.2 some) fun y=>
  some (o.1,o.2.1,o.2.2.2.1,o.2.2.2.2.1,y.1,y.2,())
def jA.mc:MCallee:=⟨45,jA.pre,jA.post,fun x_=>jA x_.1⟩
def jA.G:Env:=⟨12,tab,[],[0,1,2],[1,2,5,8,3001,3002,6001,6002],[(1,[⟨[],[],[6,7],[]⟩,⟨[0],[],[6,7],[]⟩,⟨[1,0],[5],[6,7],[]⟩,⟨[],[],[3,4,5],[5]⟩,⟨[3],[],[3,4,5],[5]⟩,⟨[4,3,2,1,0],[8],[9],[]⟩,⟨[0,1,2,3,4],[],[8],[8]⟩,⟨[6,0,1,2,3,4,5],[1],[],[]⟩,⟨[0,1,2,3,4,5,6,7],[],[],[]⟩,⟨[8,0,1,2,3,4,5,6,7],[1],[],[]⟩])],[(1,jA.c1r)],[(70,jX.mc)],Jf,[]⟩
theorem jA.eq (x_:densU jA.mc.pre.tys):denM jA.G Tryd.f45 jA.mc.pre jA.mc.post x_=jA.mc.F x_:=by kernel_rfl
theorem jA.p0:PcA jA.G Tryd.f45 0:=
  jG (s:=jA.c1r) (by kernel_rfl) (by kernel_rfl) (jF (sh:=jA.c1s) (fun ρ x_ k_=>(je fun _=>(je fun _=>jc))) (fun ρ x_ t k=>(by kernel_rfl)) (fun x_=>by kernel_rfl))
theorem jA.ok:MOk Tryd.prog 45 jA.mc:=kb (G:=jA.G) Js mixed Tryd.func45 ⟨Je,(Jj jX.ok jU),jO,jT⟩ (m:=1) (by kernel_rfl) ⟨trivial,jA.p0⟩ (by kernel_rfl) jA.eq
abbrev co8:SD:=.agg [.val (.int .i64),.val (.int .i64),.own 1000003 0,.val (.int .i64),.val (.int .i64),.own 1000006 0]
def jV.pre:Shape:=⟨[(0,co8)],[(1000003,co2),(1000006,co2)]⟩
def jV.post:Shape:=jV.pre
def jV (o0:Int) (o1:Int) (o3:Int) (o4:Int) (t1000003:List (Int)) (t1000006:List (Int)):Option ((Int)×(Int)×(Int)×(Int)×(List Int)×(List Int)×Unit):=
  some (o0,Int.tmod (IntKind.i64.wrap ((16:Int) - o1)) (16:Int),o3,o4,t1000003,t1000006,())
def jV.mc:MCallee:=⟨48,jV.pre,jV.post,fun x_=>jV x_.1 x_.2.1 x_.2.2.1 x_.2.2.2.1 x_.2.2.2.2.1 x_.2.2.2.2.2.1⟩
def jV.G:Env:=⟨9,tab,[],[0,1,2],[1,2,3001,3002,6001,6002,1000003,1000006],[],[],[],Jf,[]⟩
theorem jV.eq (x_:densU jV.mc.pre.tys):denM jV.G Tryd.f48 jV.mc.pre jV.mc.post x_=jV.mc.F x_:=by kernel_rfl
theorem jV.ok:MOk Tryd.prog 48 jV.mc:=kb (G:=jV.G) Js mixed Tryd.func48 ⟨Je,jU,jO,jT⟩ (m:=0) (by kernel_rfl) trivial (by kernel_rfl) jV.eq
abbrev co9:SD:=.one (.val (.st (.pair (.int .i64) (.pair (.int .i64) (.sl (.st (.pair (.int .i64) (.pair (.int .i64) (.pair (.sl (.int .i64)) (.pair (.int .i64) (.pair (.int .i64) (.sl (.int .i64)))))))))))))
abbrev co10:SD:=.one (.fn 48)
abbrev co11:SD:=.agg [.val (.int .i64),.val (.int .i64),.down 2 0]
abbrev co12:SO:=.deep 0 57 3 (.st (.pair (.int .i64) (.pair (.int .i64) (.pair (.sl (.int .i64)) (.pair (.int .i64) (.pair (.int .i64) (.sl (.int .i64))))))))
abbrev co13:SD:=.one (.ref 4 0)
abbrev co14:SD:=.one (.ref 5 0)
abbrev co15:SD:=.one (.ref 7 0)
abbrev co16:SD:=.one (.val (.sl (.st (.pair (.int .i64) (.pair (.int .i64) (.pair (.sl (.int .i64)) (.pair (.int .i64) (.pair (.int .i64) (.sl (.int .i64))))))))))
abbrev co17:SD:=.one (.val (.int .i64))
abbrev co18:SO:=.box [.val (.int .i64),.val (.int .i64),.val (.sl (.st (.pair (.int .i64) (.pair (.int .i64) (.pair (.sl (.int .i64)) (.pair (.int .i64) (.pair (.int .i64) (.sl (.int .i64)))))))))]
abbrev co19:SO:=.box [.val (.int .i64),.val (.int .i64),.down 3004 0]
abbrev co20:SO:=.box [.val (.int .i64),.val (.int .i64),.down 3005 0]
def jB.pre:Shape:=⟨[(0,co9),(1,co10)],[]⟩
def jB.post:Shape:=⟨[(0,co11)],[(2,co12)]⟩
def jB.c5 {ρ:Type} (o0:Int) (o1:Int) (o2:List (Int)) (o3:Int) (o4:Int) (o5:List (Int)) (t3005:List ((Int)×((Int)×((List Int)×((Int)×((Int)×(List Int))))))) (k_:List ((Int)×((Int)×((List Int)×((Int)×((Int)×(List Int))))))→Option ρ):Option ρ:=
  bnd (W.jA (o0,o1,o2,o3,o4,o5)) fun y=>
  bnd (W.jV y.1 y.2.1 y.2.2.1 y.2.2.2.1 y.2.2.2.2.1 y.2.2.2.2.2.1) fun y_1=>
  bnd (okIf (decide ((List.length t3005+(1:Nat))*(80:Nat)≤(140737488355328:Nat)) && decide (List.length t3005+(1:Nat)≤(140737488355328:Nat)))) fun y_2=>
  k_ (t3005++[(y_1.1,y_1.2.1,y_1.2.2.2.2.1,y_1.2.2.1,y_1.2.2.2.1,y_1.2.2.2.2.2.1)])
def jB.c5s:Shape:=⟨[(0,co9),(1,co10),(2,co4),(4,co13),(5,co14),(7,co15),(14,co16),(15,co17),(16,co17)],[(2,co18),(4,co19),(5,co20),(7,co5),(3004,co12),(3005,co12)]⟩
def jB.c5x0:Shape:=⟨[(0,co9),(1,co10),(2,co4),(4,co13),(5,co14),(7,co15),(14,co16),(15,co17),(16,co17)],[(2,co18),(4,co19),(5,co20),(7,co5),(26,.gone),(2024,.gone),(3004,co12),(3005,co12),(5024,.gone)]⟩
def jB.c5r:Ck:=Ck.of (T:=List ((Int)×((Int)×((List Int)×((Int)×((Int)×(List Int))))))) jB.c5s (fun ρ x_ k_=>jB.c5 x_.2.2.2.2.2.2.2.2.2.2.2.1 x_.2.2.2.2.2.2.2.2.2.2.2.2.1 x_.2.2.2.2.2.2.2.2.2.2.2.2.2.1 x_.2.2.2.2.2.2.2.2.2.2.2.2.2.2.1 x_.2.2.2.2.2.2.2.2.2.2.2.2.2.2.2.1 x_.2.2.2.2.2.2.2.2.2.2.2.2.2.2.2.2.1 x_.2.2.2.2.2.2.2.2.2.2.2.2.2.2.2.2.2.2.1 k_) (fun ρ x_ r_ k_=>k_ 0 (Shape.inj jB.c5x0 (x_.1,x_.2.1,x_.2.2.1,x_.2.2.2.1,x_.2.2.2.2.1,x_.2.2.2.2.2.1,x_.2.2.2.2.2.2.1,x_.2.2.2.2.2.2.2.1,x_.2.2.2.2.2.2.2.2.1,x_.2.2.2.2.2.2.2.2.2.1,x_.2.2.2.2.2.2.2.2.2.2.1,x_.2.2.2.2.2.2.2.2.2.2.2.1,x_.2.2.2.2.2.2.2.2.2.2.2.2.1,x_.2.2.2.2.2.2.2.2.2.2.2.2.2.1,x_.2.2.2.2.2.2.2.2.2.2.2.2.2.2.1,x_.2.2.2.2.2.2.2.2.2.2.2.2.2.2.2.1,x_.2.2.2.2.2.2.2.2.2.2.2.2.2.2.2.2.1,x_.2.2.2.2.2.2.2.2.2.2.2.2.2.2.2.2.2.1,r_,())))
def jB.c100003 {ρ:Type} (t14:List ((Int)×((Int)×((List Int)×((Int)×((Int)×(List Int))))))) (t15:Int) (t16:Int) (t3005:List ((Int)×((Int)×((List Int)×((Int)×((Int)×(List Int))))))) (k_:((Int)×(List ((Int)×((Int)×((List Int)×((Int)×((Int)×(List Int))))))))⊕((Int)×(List ((Int)×((Int)×((List Int)×((Int)×((Int)×(List Int))))))))→Option ρ):Option ρ:=
  br (decide (t16 < t15))
   (bnd (idx t14 t16) fun y=>
    bnd (W.jB.c5 y.1 y.2.1 y.2.2.1 y.2.2.2.1 y.2.2.2.2.1 y.2.2.2.2.2 t3005 some) fun y_1=>
    k_ (.inl ((IntKind.i64.wrap (t16+(1:Int))),y_1)))
   (k_ (.inr (t16,t3005)))
def jB.c100003s:Shape:=⟨[(0,co9),(1,co10),(2,co4),(4,co13),(5,co14),(14,co16),(15,co17),(16,co17)],[(2,co18),(4,co19),(5,co20),(3004,co12),(3005,co12)]⟩
def jB.c100003x0:Shape:=jB.c100003s
def jB.c100003r:Ck:=Ck.ofLoop (S:=(Int)×(List ((Int)×((Int)×((List Int)×((Int)×((Int)×(List Int)))))))) (T:=(Int)×(List ((Int)×((Int)×((List Int)×((Int)×((Int)×(List Int)))))))) jB.c100003s (fun x_=>(x_.2.2.2.1,x_.2.2.2.2.2.2.2.2.2.2.2.2.1)) (fun ρ x_ s_ k_=>jB.c100003 x_.2.1 x_.2.2.1 s_.1 s_.2 k_) (fun ρ x_ r_ k_=>k_ 2 (Shape.inj jB.c100003x0 (x_.1,x_.2.1,x_.2.2.1,r_.1,x_.2.2.2.2.1,x_.2.2.2.2.2.1,x_.2.2.2.2.2.2.1,x_.2.2.2.2.2.2.2.1,x_.2.2.2.2.2.2.2.2.1,x_.2.2.2.2.2.2.2.2.2.1,x_.2.2.2.2.2.2.2.2.2.2.1,x_.2.2.2.2.2.2.2.2.2.2.2.1,r_.2,())))
def jB (c:(Int)×((Int)×(List ((Int)×((Int)×((List Int)×((Int)×((Int)×(List Int))))))))):Option ((Int)×(Int)×(List ((Int)×((Int)×((List Int)×((Int)×((Int)×(List Int)))))))×Unit):=
  bnd (iter (fun s↦W.jB.c100003 c.2.2 (↑(List.length c.2.2):Int) s.1 s.2 some) ((0:Int),[])) fun y=>
  some (c.1,c.2.1,y.2,())
def jB.mc:MCallee:=⟨46,jB.pre,jB.post,fun x_=>jB x_.1⟩
def jB.G:Env:=⟨31,tab,[],[0,1,2,4,5,7,14,15,16,17],[2,4,5,12,24,26,2024,3002,3004,3005,5024,30000026,30003004,30003005],[(5,[⟨[],[],[22,23,24,25,26],[2024,5024,26]⟩,⟨[0],[],[22,23,24,25,26],[2024,5024,26]⟩,⟨[],[],[20,21,23,24],[2024,5024]⟩,⟨[],[],[20,21,22],[]⟩,⟨[3],[2024,5024],[20,21,22],[]⟩,⟨[2,4,3],[2024,5024],[20,21],[]⟩,⟨[5,2,4,3],[2024,5024,26],[20,21],[]⟩,⟨[1,0,6,5,2,4,3],[3005,26],[],[]⟩,⟨[0,1,2,3,4,5,6,7],[],[],[]⟩,⟨[8,0,1,2,3,4,5,6,7],[5],[],[]⟩])],[(100003,jB.c100003r),(5,jB.c5r)],[(45,jA.mc),(48,jV.mc)],Jf,[]⟩
theorem jB.eq (x_:densU jB.mc.pre.tys):denM jB.G Tryd.f46 jB.mc.pre jB.mc.post x_=jB.mc.F x_:=by kernel_rfl
theorem jB.p0:PcA jB.G Tryd.f46 0:=
  JA (s:=jB.c100003r) (by kernel_rfl) (by kernel_rfl) (Jt (sh:=jB.c100003s) (I:=fun x_ s_=>(x_.1,x_.2.1,x_.2.2.1,s_.1,x_.2.2.2.2.1,x_.2.2.2.2.2.1,x_.2.2.2.2.2.2.1,x_.2.2.2.2.2.2.2.1,x_.2.2.2.2.2.2.2.2.1,x_.2.2.2.2.2.2.2.2.2.1,x_.2.2.2.2.2.2.2.2.2.2.1,x_.2.2.2.2.2.2.2.2.2.2.2.1,s_.2,())) (fun x_=>rfl) (fun ρ x_ s_ k_=>(jw (je fun _=>(je fun _=>jc)) jc)) (fun ρ x_ t k=>(by kernel_rfl)) (fun x_ s=>by kernel_rfl))
theorem jB.p1:PcA jB.G Tryd.f46 1:=
  jG (s:=jB.c5r) (by kernel_rfl) (by kernel_rfl) (jF (sh:=jB.c5s) (fun ρ x_ k_=>(je fun _=>(je fun _=>(je fun _=>jc)))) (fun ρ x_ t k=>(by kernel_rfl)) (fun x_=>by kernel_rfl))
theorem jB.ok:MOk Tryd.prog 46 jB.mc:=kb (G:=jB.G) Js mixed Tryd.func46 ⟨Je,(Jj jA.ok (Jj jV.ok jU)),jO,jT⟩ (m:=2) (by kernel_rfl) ⟨⟨trivial,jB.p0⟩,jB.p1⟩ (by kernel_rfl) jB.eq
abbrev co21:SD:=.one (.val (.st (.pair (.int .i64) (.int .i64))))
abbrev co22:SD:=.one (.ref 3 0)
abbrev co23:SO:=.box [.val (.int .i64),.val (.int .i64),.down 3002 0]
abbrev co24:SO:=.box [.val (.int .i64),.val (.int .i64)]
def jI.pre:Shape:=⟨[(0,co9)],[]⟩
def jI.post:Shape:=⟨[(0,co11),(1,co21)],[(2,co12)]⟩
def jI.c3 {ρ:Type}  (k_:Unit→Option ρ):Option ρ:=
  k_ ()
def jI.c3s:Shape:=⟨[(0,co9),(1,co3),(2,co4),(3,co22),(4,co13)],[(1,co18),(2,co23),(3,co24),(4,co24),(3002,co12)]⟩
def jI.c3x0:Shape:=jI.c3s
def jI.c3r:Ck:=Ck.of (T:=Unit) jI.c3s (fun ρ x_ k_=>jI.c3  k_) (fun ρ x_ r_ k_=>k_ 0 (Shape.inj jI.c3x0 (x_.1,x_.2.1,x_.2.2.1,x_.2.2.2.1,(0:Int),(0:Int),x_.2.2.2.2.2.2.2.2.1,x_.2.2.2.2.2.2.2.2.2.1,x_.2.2.2.2.2.2.2.2.1,x_.2.2.2.2.2.2.2.2.2.1,[],())))
def jI (c:(Int)×((Int)×(List ((Int)×((Int)×((List Int)×((Int)×((Int)×(List Int))))))))):Option ((Int)×(Int)×((Int)×(Int))×(List ((Int)×((Int)×((List Int)×((Int)×((Int)×(List Int)))))))×Unit):=
  bnd (W.jR (c.1,c.2.1,c.2.2)) fun y=>
  br (y.1 != (0:Int))
   (bnd (W.jI.c3 some) fun y_1=>
    some ((0:Int),(0:Int),(y.1,y.2),[],()))
   (bnd (W.jB (c.1,c.2.1,c.2.2)) fun y_2=>
    bnd (W.Jw y_2.2.2.1) fun y_3=>
    some (y_2.1,y_2.2.1,((0:Int),(0:Int)),y_3.1,()))
def jI.mc:MCallee:=⟨23,jI.pre,jI.post,fun x_=>jI x_.1⟩
def jI.G:Env:=⟨20,tab,[(44,jR.ce)],[0,1,2,3,4,5,10],[2,5,11,2014,3002,3005,30003002,30003005],[(3,[⟨[],[],[12],[]⟩,⟨[],[],[11],[3002,2]⟩,⟨[0],[3002,2],[12],[]⟩,⟨[1,2,0],[3],[],[]⟩])],[(3,jI.c3r)],[(46,jB.mc),(49,Jw.mc)],Jf,[]⟩
theorem jI.eq (x_:densU jI.mc.pre.tys):denM jI.G Tryd.f23 jI.mc.pre jI.mc.post x_=jI.mc.F x_:=by kernel_rfl
theorem jI.p0:PcA jI.G Tryd.f23 0:=
  jG (s:=jI.c3r) (by kernel_rfl) (by kernel_rfl) (jF (sh:=jI.c3s) (fun ρ x_ k_=>jc) (fun ρ x_ t k=>(by kernel_rfl)) (fun x_=>by kernel_rfl))
theorem jI.ok:MOk Tryd.prog 23 jI.mc:=kb (G:=jI.G) Js mixed Tryd.func23 ⟨(Ja jR.ok Je),(Jj jB.ok (Jj Jw.ok jU)),jO,jT⟩ (m:=1) (by kernel_rfl) ⟨trivial,jI.p0⟩ (by kernel_rfl) jI.eq
abbrev co25:SO:=.box [.val (.int .i64),.val (.int .i64),.own 2033 0,.val (.int .i64),.val (.int .i64),.own 5033 0]
def jo.pre:Shape:=⟨[(0,co9)],[]⟩
def jo.post:Shape:=⟨[(0,co11),(1,co21)],[(2,co12)]⟩
def jo.c3 {ρ:Type}  (k_:Unit→Option ρ):Option ρ:=
  k_ ()
def jo.c3s:Shape:=⟨[(0,co9),(1,co3),(2,co4),(3,co22),(4,co13)],[(1,co18),(2,co23),(3,co24),(4,co24),(3002,co12)]⟩
def jo.c3x0:Shape:=jo.c3s
def jo.c3r:Ck:=Ck.of (T:=Unit) jo.c3s (fun ρ x_ k_=>jo.c3  k_) (fun ρ x_ r_ k_=>k_ 0 (Shape.inj jo.c3x0 (x_.1,x_.2.1,x_.2.2.1,x_.2.2.2.1,(0:Int),(0:Int),x_.2.2.2.2.2.2.2.2.1,x_.2.2.2.2.2.2.2.2.2.1,x_.2.2.2.2.2.2.2.2.1,x_.2.2.2.2.2.2.2.2.2.1,[],())))
def jo.c236869 {ρ:Type} (o1:Int) (k_:Int→Option ρ):Option ρ:=
  br (decide (o1 > (0:Int)))
   (k_ (IntKind.i64.wrap ((16:Int) - o1)))
   (k_ o1)
def jo.c236869s:Shape:=⟨[(0,co9),(1,co3),(2,co4),(3,co22),(4,co13),(5,co14),(6,co17),(7,co15)],[(1,co18),(2,co23),(3,co24),(4,co24),(5,co20),(7,co25),(2033,co2),(3002,co12),(3005,co12),(3007,co2),(5033,co2),(6007,co2)]⟩
def jo.c236869x0:Shape:=jo.c236869s
def jo.c236869r:Ck:=Ck.of (T:=Int) jo.c236869s (fun ρ x_ k_=>jo.c236869 x_.2.2.2.2.2.2.2.2.2.2.2.2.2.2.1 k_) (fun ρ x_ r_ k_=>k_ 0 (Shape.inj jo.c236869x0 (x_.1,x_.2.1,x_.2.2.1,x_.2.2.2.1,x_.2.2.2.2.1,x_.2.2.2.2.2.1,x_.2.2.2.2.2.2.1,x_.2.2.2.2.2.2.2.1,x_.2.2.2.2.2.2.2.2.1,x_.2.2.2.2.2.2.2.2.2.1,x_.2.2.2.2.2.2.2.2.2.2.1,x_.2.2.2.2.2.2.2.2.2.2.2.1,x_.2.2.2.2.2.2.2.2.2.2.2.2.1,x_.2.2.2.2.2.2.2.2.2.2.2.2.2.1,r_,x_.2.2.2.2.2.2.2.2.2.2.2.2.2.2.2)))
def jo.c100006 {ρ:Type} (i:Int) (c2:List ((Int)×((Int)×((List Int)×((Int)×((Int)×(List Int))))))) (t3005:List ((Int)×((Int)×((List Int)×((Int)×((Int)×(List Int))))))) (k_:((Int)×(List ((Int)×((Int)×((List Int)×((Int)×((Int)×(List Int))))))))⊕((Int)×(List ((Int)×((Int)×((List Int)×((Int)×((Int)×(List Int))))))))→Option ρ):Option ρ:=
  br (decide (i≥(0:Int)))
   (bnd (idx c2 i) fun y=>
    bnd (W.Jg y) fun y_1=>
    bnd (W.jo.c236869 y_1.2.1 some) fun y_2=>
    bnd (okIf (decide ((List.length t3005+(1:Nat))*(80:Nat)≤(140737488355328:Nat)) && decide (List.length t3005+(1:Nat)≤(140737488355328:Nat)))) fun y_3=>
    k_ (.inl ((IntKind.i64.wrap (i - (1:Int))),(t3005++[(y_1.1,y_2,y_1.2.2.2.2.1,y_1.2.2.1,y_1.2.2.2.1,y_1.2.2.2.2.2.1)]))))
   (k_ (.inr (i,t3005)))
def jo.c100006s:Shape:=⟨[(0,co9),(1,co3),(2,co4),(3,co22),(4,co13),(5,co14),(6,co17)],[(1,co18),(2,co23),(3,co24),(4,co24),(5,co20),(3002,co12),(3005,co12)]⟩
def jo.c100006x0:Shape:=jo.c100006s
def jo.c100006r:Ck:=Ck.ofLoop (S:=(Int)×(List ((Int)×((Int)×((List Int)×((Int)×((Int)×(List Int)))))))) (T:=(Int)×(List ((Int)×((Int)×((List Int)×((Int)×((Int)×(List Int)))))))) jo.c100006s (fun x_=>(x_.2.1,x_.2.2.2.2.2.2.2.2.2.2.2.2.2.2.1)) (fun ρ x_ s_ k_=>jo.c100006 s_.1 x_.2.2.2.2.1 s_.2 k_) (fun ρ x_ r_ k_=>k_ 2 (Shape.inj jo.c100006x0 (x_.1,r_.1,x_.2.2.1,x_.2.2.2.1,x_.2.2.2.2.1,x_.2.2.2.2.2.1,x_.2.2.2.2.2.2.1,x_.2.2.2.2.2.2.2.1,x_.2.2.2.2.2.2.2.2.1,x_.2.2.2.2.2.2.2.2.2.1,x_.2.2.2.2.2.2.2.2.2.2.1,x_.2.2.2.2.2.2.2.2.2.2.2.1,x_.2.2.2.2.2.2.2.2.2.2.2.2.1,x_.2.2.2.2.2.2.2.2.2.2.2.2.2.1,r_.2,())))
def jo.c12 {ρ:Type}  (k_:Unit→Option ρ):Option ρ:=
  k_ ()
def jo.c12s:Shape:=jo.c100006s
def jo.c12x0:Shape:=⟨[(0,co9),(1,co3),(2,co4),(3,co22),(4,co13),(5,co14),(6,co17)],[(1,co18),(2,co20),(3,co24),(4,co24),(5,co20),(3002,co12),(3005,co12)]⟩
def jo.c12r:Ck:=Ck.of (T:=Unit) jo.c12s (fun ρ x_ k_=>jo.c12  k_) (fun ρ x_ r_ k_=>k_ 0 (Shape.inj jo.c12x0 (x_.1,x_.2.1,x_.2.2.1,x_.2.2.2.1,x_.2.2.2.2.1,x_.2.2.2.2.2.2.2.2.2.2.2.1,x_.2.2.2.2.2.2.2.2.2.2.2.2.1,x_.2.2.2.2.2.2.2.2.2.1,x_.2.2.2.2.2.2.2.2.2.2.1,x_.2.2.2.2.2.2.2.2.2)))
def jo (c:(Int)×((Int)×(List ((Int)×((Int)×((List Int)×((Int)×((Int)×(List Int))))))))):Option ((Int)×(Int)×((Int)×(Int))×(List ((Int)×((Int)×((List Int)×((Int)×((Int)×(List Int)))))))×Unit):=
  bnd (W.Jo (c.1,c.2.1,c.2.2)) fun y=>
  br (y.1 != (0:Int))
   (bnd (W.jo.c3 some) fun y_1=>
    some ((0:Int),(0:Int),(y.1,y.2),[],()))
   (bnd (iter (fun s↦W.jo.c100006 s.1 c.2.2 s.2 some) (IntKind.i64.wrap ((↑(List.length c.2.2):Int) - (1:Int)),[])) fun y_2=>
    bnd (W.jo.c12 some) fun y_3=>
    some (c.1,c.2.1,(y.1,y.2),y_2.2,()))
def jo.mc:MCallee:=⟨24,jo.pre,jo.post,fun x_=>jo x_.1⟩
def jo.G:Env:=⟨49,tab,[(17,Jo.ce)],[0,1,2,3,4,5,6,7,12,25,36],[1,2,5,7,13,19,33,44,2033,3001,3002,3005,3007,5033,6007,30000044,30003002,30003005],[(12,[⟨[],[],[48],[]⟩,⟨[],[],[47],[2]⟩,⟨[0],[2],[48],[]⟩,⟨[1,2,0],[3],[],[]⟩]),
  (3,[⟨[],[],[14],[]⟩,⟨[],[],[13],[3002,2]⟩,⟨[0],[3002,2],[14],[]⟩,⟨[1,2,0],[3],[],[]⟩])],[(12,jo.c12r),(100006,jo.c100006r),(236869,jo.c236869r),(3,jo.c3r)],[(37,Jg.mc)],Jf,[]⟩
theorem jo.eq (x_:densU jo.mc.pre.tys):denM jo.G Tryd.f24 jo.mc.pre jo.mc.post x_=jo.mc.F x_:=by kernel_rfl
theorem jo.p0:PcA jo.G Tryd.f24 0:=
  jG (s:=jo.c3r) (by kernel_rfl) (by kernel_rfl) (jF (sh:=jo.c3s) (fun ρ x_ k_=>jc) (fun ρ x_ t k=>(by kernel_rfl)) (fun x_=>by kernel_rfl))
theorem jo.p1:PcA jo.G Tryd.f24 1:=
  JA (s:=jo.c100006r) (by kernel_rfl) (by kernel_rfl) (Jt (sh:=jo.c100006s) (I:=fun x_ s_=>(x_.1,s_.1,x_.2.2.1,x_.2.2.2.1,x_.2.2.2.2.1,x_.2.2.2.2.2.1,x_.2.2.2.2.2.2.1,x_.2.2.2.2.2.2.2.1,x_.2.2.2.2.2.2.2.2.1,x_.2.2.2.2.2.2.2.2.2.1,x_.2.2.2.2.2.2.2.2.2.2.1,x_.2.2.2.2.2.2.2.2.2.2.2.1,x_.2.2.2.2.2.2.2.2.2.2.2.2.1,x_.2.2.2.2.2.2.2.2.2.2.2.2.2.1,s_.2,())) (fun x_=>rfl) (fun ρ x_ s_ k_=>(jw (je fun _=>(je fun _=>(je fun _=>(je fun _=>jc)))) jc)) (fun ρ x_ t k=>(by kernel_rfl)) (fun x_ s=>by kernel_rfl))
theorem jo.p2:PcA jo.G Tryd.f24 2:=
  kn (s:=jo.c236869r) (by kernel_rfl) (by kernel_rfl) (jF (sh:=jo.c236869s) (fun ρ x_ k_=>(jw jc jc)) (fun ρ x_ t k=>(by kernel_rfl)) (fun x_=>by kernel_rfl))
theorem jo.p3:PcA jo.G Tryd.f24 3:=
  jG (s:=jo.c12r) (by kernel_rfl) (by kernel_rfl) (jF (sh:=jo.c12s) (fun ρ x_ k_=>jc) (fun ρ x_ t k=>(by kernel_rfl)) (fun x_=>by kernel_rfl))
theorem jo.ok:MOk Tryd.prog 24 jo.mc:=kb (G:=jo.G) Js mixed Tryd.func24 ⟨(Ja Jo.ok Je),(Jj Jg.ok jU),jO,jT⟩ (m:=4) (by kernel_rfl) ⟨⟨⟨⟨trivial,jo.p0⟩,jo.p1⟩,jo.p2⟩,jo.p3⟩ (by kernel_rfl) jo.eq
abbrev co26:SD:=.one (.ref 6 0)
abbrev co27:SD:=.one (.val .bool)
abbrev co28:SD:=.one (.ref 9 0)
abbrev co29:SD:=.one (.ref 11 0)
abbrev co30:SO:=.box [.val (.int .i64),.val (.int .i64),.down 3009 0]
def jb.pre:Shape:=⟨[(0,co9),(1,co17)],[]⟩
def jb.post:Shape:=⟨[(0,co11),(1,co21)],[(2,co12)]⟩
def jb.c1 {ρ:Type} (c0:Int) (c1:Int) (c2:List ((Int)×((Int)×((List Int)×((Int)×((Int)×(List Int))))))) (k_:(Int)×(Int)→Option ρ):Option ρ:=
  bnd (W.jR (c0,c1,c2)) fun y=>
  k_ (y.1,y.2)
def jb.c1s:Shape:=⟨[(0,co9),(1,co17),(2,co4),(4,co13),(5,co14)],[(2,co18),(4,co19),(5,co24),(3004,co12)]⟩
def jb.c1x0:Shape:=⟨[(0,co9),(1,co17),(2,co4),(4,co13),(5,co14),(6,co26),(7,co15)],[(2,co18),(4,co19),(5,co24),(6,co18),(7,co24),(3004,co12)]⟩
def jb.c1r:Ck:=Ck.of (T:=(Int)×(Int)) jb.c1s (fun ρ x_ k_=>jb.c1 x_.2.2.1 x_.2.2.2.1 x_.2.2.2.2.1 k_) (fun ρ x_ r_ k_=>k_ 0 (Shape.inj jb.c1x0 (x_.1,x_.2.1,x_.2.2.1,x_.2.2.2.1,x_.2.2.2.2.1,x_.2.2.2.2.2.1,x_.2.2.2.2.2.2.1,x_.2.2.2.2.2.2.2.1,x_.2.2.2.2.2.2.2.2.1,x_.2.2.1,x_.2.2.2.1,x_.2.2.2.2.1,r_.1,r_.2,x_.2.2.2.2.2.2.2.2.2)))
def jb.c208197 {ρ:Type} (n:Int) (c0:Int) (c1:Int) (c2:List ((Int)×((Int)×((List Int)×((Int)×((Int)×(List Int))))))) (base0:Int) (base1:Int) (base2:List ((Int)×((Int)×((List Int)×((Int)×((Int)×(List Int))))))) (f0:Int) (f1:Int) (k_:(Int)×(Int)×(List ((Int)×((Int)×((List Int)×((Int)×((Int)×(List Int)))))))×(Int)×(Int)→Option ρ):Option ρ:=
  br (decide (n < (0:Int)))
   (bnd (W.Jd (c0,c1,c2)) fun y=>
    k_ (y.1.1,y.1.2.1,y.1.2.2,y.2.1,y.2.2))
   (k_ (base0,base1,base2,f0,f1))
def jb.c208197s:Shape:=jb.c1x0
def jb.c208197x0:Shape:=jb.c1x0
def jb.c208197r:Ck:=Ck.of (T:=(Int)×(Int)×(List ((Int)×((Int)×((List Int)×((Int)×((Int)×(List Int)))))))×(Int)×(Int)) jb.c208197s (fun ρ x_ k_=>jb.c208197 x_.2.1 x_.2.2.1 x_.2.2.2.1 x_.2.2.2.2.1 x_.2.2.2.2.2.2.2.2.2.1 x_.2.2.2.2.2.2.2.2.2.2.1 x_.2.2.2.2.2.2.2.2.2.2.2.1 x_.2.2.2.2.2.2.2.2.2.2.2.2.1 x_.2.2.2.2.2.2.2.2.2.2.2.2.2.1 k_) (fun ρ x_ r_ k_=>k_ 0 (Shape.inj jb.c208197x0 (x_.1,x_.2.1,x_.2.2.1,x_.2.2.2.1,x_.2.2.2.2.1,x_.2.2.2.2.2.1,x_.2.2.2.2.2.2.1,x_.2.2.2.2.2.2.2.1,x_.2.2.2.2.2.2.2.2.1,r_.1,r_.2.1,r_.2.2.1,r_.2.2.2.1,r_.2.2.2.2,x_.2.2.2.2.2.2.2.2.2.2.2.2.2.2)))
def jb.c5 {ρ:Type}  (k_:Unit→Option ρ):Option ρ:=
  k_ ()
def jb.c5s:Shape:=jb.c1x0
def jb.c5x0:Shape:=jb.c1x0
def jb.c5r:Ck:=Ck.of (T:=Unit) jb.c5s (fun ρ x_ k_=>jb.c5  k_) (fun ρ x_ r_ k_=>k_ 0 (Shape.inj jb.c5x0 (x_.1,x_.2.1,x_.2.2.1,x_.2.2.2.1,x_.2.2.2.2.1,(0:Int),(0:Int),x_.2.2.2.2.2.2.2.2.2.2.2.2.1,x_.2.2.2.2.2.2.2.2.2.2.2.2.2.1,x_.2.2.2.2.2.2.2.2.2.1,x_.2.2.2.2.2.2.2.2.2.2.1,x_.2.2.2.2.2.2.2.2.2.2.2.1,x_.2.2.2.2.2.2.2.2.2.2.2.2.1,x_.2.2.2.2.2.2.2.2.2.2.2.2.2.1,[],())))
def jb.c228677 {ρ:Type} (n:Int) (size:Int) (k_:Int→Option ρ):Option ρ:=
  br (decide (n < (0:Int)))
   (k_ (IntKind.i64.wrap ((0:Int) - n)))
   (k_ size)
def jb.c228677s:Shape:=⟨[(0,co9),(1,co17),(2,co4),(4,co13),(5,co14),(6,co26),(7,co15),(8,co17)],[(2,co18),(4,co19),(5,co24),(6,co18),(7,co24),(3004,co12)]⟩
def jb.c228677x0:Shape:=jb.c228677s
def jb.c228677r:Ck:=Ck.of (T:=Int) jb.c228677s (fun ρ x_ k_=>jb.c228677 x_.2.1 x_.2.2.1 k_) (fun ρ x_ r_ k_=>k_ 0 (Shape.inj jb.c228677x0 (x_.1,x_.2.1,r_,x_.2.2.2)))
def jb.c9 {ρ:Type} (size:Int) (c2:List ((Int)×((Int)×((List Int)×((Int)×((Int)×(List Int))))))) (k_:Bool→Option ρ):Option ρ:=
  br (decide ((↑(List.length c2):Int) > (0:Int)))
   (br (decide (size < (0:Int)))
     (k_ true)
     (bnd (okIf ((↑(List.length c2):Int) != (0:Int))) fun y=>
      k_ (decide (size > IntKind.i64.wrap (Int.tdiv (4096:Int) (↑(List.length c2):Int))))))
   (k_ false)
def jb.c9s:Shape:=jb.c228677s
def jb.c9x0:Shape:=⟨[(0,co9),(1,co17),(2,co4),(4,co13),(5,co14),(6,co26),(7,co15),(8,co17),(47,co27)],[(2,co18),(4,co19),(5,co24),(6,co18),(7,co24),(3004,co12)]⟩
def jb.c9r:Ck:=Ck.of (T:=Bool) jb.c9s (fun ρ x_ k_=>jb.c9 x_.2.2.1 x_.2.2.2.2.2.1 k_) (fun ρ x_ r_ k_=>k_ 0 (Shape.inj jb.c9x0 (x_.1,x_.2.1,x_.2.2.1,r_,x_.2.2.2)))
def jb.c16 {ρ:Type} (o0:Int) (o1:Int) (o2:List (Int)) (o3:Int) (o4:Int) (o5:List (Int)) (t3009:List ((Int)×((Int)×((List Int)×((Int)×((Int)×(List Int))))))) (k_:List ((Int)×((Int)×((List Int)×((Int)×((Int)×(List Int))))))→Option ρ):Option ρ:=
  bnd (W.jA (o0,o1,o2,o3,o4,o5)) fun y=>
  bnd (okIf (decide ((List.length t3009+(1:Nat))*(80:Nat)≤(140737488355328:Nat)) && decide (List.length t3009+(1:Nat)≤(140737488355328:Nat)))) fun y_1=>
  k_ (t3009++[(y.1,y.2.1,y.2.2.2.2.1,y.2.2.1,y.2.2.2.1,y.2.2.2.2.2.1)])
def jb.c16s:Shape:=⟨[(0,co9),(1,co17),(2,co4),(4,co13),(5,co14),(6,co26),(7,co15),(8,co17),(9,co28),(11,co29),(65,co16),(66,co17),(67,co17)],[(2,co18),(4,co19),(5,co24),(6,co18),(7,co24),(9,co30),(11,co5),(3004,co12),(3009,co12)]⟩
def jb.c16x0:Shape:=⟨[(0,co9),(1,co17),(2,co4),(4,co13),(5,co14),(6,co26),(7,co15),(8,co17),(9,co28),(11,co29),(65,co16),(66,co17),(67,co17)],[(2,co18),(4,co19),(5,co24),(6,co18),(7,co24),(9,co30),(11,co5),(75,.gone),(2074,.gone),(3004,co12),(3009,co12),(5074,.gone)]⟩
def jb.c16r:Ck:=Ck.of (T:=List ((Int)×((Int)×((List Int)×((Int)×((Int)×(List Int))))))) jb.c16s (fun ρ x_ k_=>jb.c16 x_.2.2.2.2.2.2.2.2.2.2.2.2.2.2.2.2.2.2.2.2.1 x_.2.2.2.2.2.2.2.2.2.2.2.2.2.2.2.2.2.2.2.2.2.1 x_.2.2.2.2.2.2.2.2.2.2.2.2.2.2.2.2.2.2.2.2.2.2.1 x_.2.2.2.2.2.2.2.2.2.2.2.2.2.2.2.2.2.2.2.2.2.2.2.1 x_.2.2.2.2.2.2.2.2.2.2.2.2.2.2.2.2.2.2.2.2.2.2.2.2.1 x_.2.2.2.2.2.2.2.2.2.2.2.2.2.2.2.2.2.2.2.2.2.2.2.2.2.1 x_.2.2.2.2.2.2.2.2.2.2.2.2.2.2.2.2.2.2.2.2.2.2.2.2.2.2.2.1 k_) (fun ρ x_ r_ k_=>uP x_ fun c x_=>uP x_ fun n x_=>uP x_ fun size x_=>uP x_ fun t65 x_=>uP x_ fun t66 x_=>uP x_ fun t67 x_=>uP x_ fun c0 x_=>uP x_ fun c1 x_=>uP x_ fun c2 x_=>uP x_ fun t40 x_=>uP x_ fun t41 x_=>uP x_ fun t50 x_=>uP x_ fun t51 x_=>uP x_ fun base0 x_=>uP x_ fun base1 x_=>uP x_ fun base2 x_=>uP x_ fun f0 x_=>uP x_ fun f1 x_=>uP x_ fun out0 x_=>uP x_ fun out1 x_=>uP x_ fun o0 x_=>uP x_ fun o1 x_=>uP x_ fun o2 x_=>uP x_ fun o3 x_=>uP x_ fun o4 x_=>uP x_ fun o5 x_=>uP x_ fun t3004 x_=>uP x_ fun t3009 x_=>k_ 0 (Shape.inj jb.c16x0 (c,n,size,t65,t66,t67,c0,c1,c2,t40,t41,t50,t51,base0,base1,base2,f0,f1,out0,out1,o0,o1,o2,o3,o4,o5,t3004,r_,())))
def jb.c100014 {ρ:Type} (t65:List ((Int)×((Int)×((List Int)×((Int)×((Int)×(List Int))))))) (t66:Int) (t67:Int) (t3009:List ((Int)×((Int)×((List Int)×((Int)×((Int)×(List Int))))))) (k_:((Int)×(List ((Int)×((Int)×((List Int)×((Int)×((Int)×(List Int))))))))⊕((Int)×(List ((Int)×((Int)×((List Int)×((Int)×((Int)×(List Int))))))))→Option ρ):Option ρ:=
  br (decide (t67 < t66))
   (bnd (idx t65 t67) fun y=>
    bnd (W.jb.c16 y.1 y.2.1 y.2.2.1 y.2.2.2.1 y.2.2.2.2.1 y.2.2.2.2.2 t3009 some) fun y_1=>
    k_ (.inl ((IntKind.i64.wrap (t67+(1:Int))),y_1)))
   (k_ (.inr (t67,t3009)))
def jb.c100014s:Shape:=⟨[(0,co9),(1,co17),(2,co4),(4,co13),(5,co14),(6,co26),(7,co15),(8,co17),(9,co28),(65,co16),(66,co17),(67,co17)],[(2,co18),(4,co19),(5,co24),(6,co18),(7,co24),(9,co30),(3004,co12),(3009,co12)]⟩
def jb.c100014x0:Shape:=jb.c100014s
def jb.c100014r:Ck:=Ck.ofLoop (S:=(Int)×(List ((Int)×((Int)×((List Int)×((Int)×((Int)×(List Int)))))))) (T:=(Int)×(List ((Int)×((Int)×((List Int)×((Int)×((Int)×(List Int)))))))) jb.c100014s (fun x_=>(x_.2.2.2.2.2.1,x_.2.2.2.2.2.2.2.2.2.2.2.2.2.2.2.2.2.2.2.2.2.1)) (fun ρ x_ s_ k_=>jb.c100014 x_.2.2.2.1 x_.2.2.2.2.1 s_.1 s_.2 k_) (fun ρ x_ r_ k_=>k_ 4 (Shape.inj jb.c100014x0 (x_.1,x_.2.1,x_.2.2.1,x_.2.2.2.1,x_.2.2.2.2.1,r_.1,x_.2.2.2.2.2.2.1,x_.2.2.2.2.2.2.2.1,x_.2.2.2.2.2.2.2.2.1,x_.2.2.2.2.2.2.2.2.2.1,x_.2.2.2.2.2.2.2.2.2.2.1,x_.2.2.2.2.2.2.2.2.2.2.2.1,x_.2.2.2.2.2.2.2.2.2.2.2.2.1,x_.2.2.2.2.2.2.2.2.2.2.2.2.2.1,x_.2.2.2.2.2.2.2.2.2.2.2.2.2.2.1,x_.2.2.2.2.2.2.2.2.2.2.2.2.2.2.2.1,x_.2.2.2.2.2.2.2.2.2.2.2.2.2.2.2.2.1,x_.2.2.2.2.2.2.2.2.2.2.2.2.2.2.2.2.2.1,x_.2.2.2.2.2.2.2.2.2.2.2.2.2.2.2.2.2.2.1,x_.2.2.2.2.2.2.2.2.2.2.2.2.2.2.2.2.2.2.2.1,x_.2.2.2.2.2.2.2.2.2.2.2.2.2.2.2.2.2.2.2.2.1,r_.2,())))
def jb.c100012 {ρ:Type} (size:Int) (base2:List ((Int)×((Int)×((List Int)×((Int)×((Int)×(List Int))))))) (t3009:List ((Int)×((Int)×((List Int)×((Int)×((Int)×(List Int))))))) (k_:(List ((Int)×((Int)×((List Int)×((Int)×((Int)×(List Int)))))))⊕(List ((Int)×((Int)×((List Int)×((Int)×((Int)×(List Int)))))))→Option ρ):Option ρ:=
  br (decide ((↑(List.length t3009):Int) < IntKind.i64.wrap (size*(↑(List.length base2):Int))))
   (bnd (iter (fun s↦W.jb.c100014 base2 (↑(List.length base2):Int) s.1 s.2 some) ((0:Int),t3009)) fun y=>
    k_ (.inl y.2))
   (k_ (.inr t3009))
def jb.c100012s:Shape:=⟨[(0,co9),(1,co17),(2,co4),(4,co13),(5,co14),(6,co26),(7,co15),(8,co17),(9,co28)],[(2,co18),(4,co19),(5,co24),(6,co18),(7,co24),(9,co30),(3004,co12),(3009,co12)]⟩
def jb.c100012x0:Shape:=jb.c100012s
def jb.c100012r:Ck:=Ck.ofLoop (S:=List ((Int)×((Int)×((List Int)×((Int)×((Int)×(List Int))))))) (T:=List ((Int)×((Int)×((List Int)×((Int)×((Int)×(List Int))))))) jb.c100012s (fun x_=>x_.2.2.2.2.2.2.2.2.2.2.2.2.2.2.2.2.2.2.1) (fun ρ x_ s_ k_=>jb.c100012 x_.2.2.1 x_.2.2.2.2.2.2.2.2.2.2.2.2.1 s_ k_) (fun ρ x_ r_ k_=>k_ 2 (Shape.inj jb.c100012x0 (x_.1,x_.2.1,x_.2.2.1,x_.2.2.2.1,x_.2.2.2.2.1,x_.2.2.2.2.2.1,x_.2.2.2.2.2.2.1,x_.2.2.2.2.2.2.2.1,x_.2.2.2.2.2.2.2.2.1,x_.2.2.2.2.2.2.2.2.2.1,x_.2.2.2.2.2.2.2.2.2.2.1,x_.2.2.2.2.2.2.2.2.2.2.2.1,x_.2.2.2.2.2.2.2.2.2.2.2.2.1,x_.2.2.2.2.2.2.2.2.2.2.2.2.2.1,x_.2.2.2.2.2.2.2.2.2.2.2.2.2.2.1,x_.2.2.2.2.2.2.2.2.2.2.2.2.2.2.2.1,x_.2.2.2.2.2.2.2.2.2.2.2.2.2.2.2.2.1,x_.2.2.2.2.2.2.2.2.2.2.2.2.2.2.2.2.2.1,r_,())))
def jb (c:(Int)×((Int)×(List ((Int)×((Int)×((List Int)×((Int)×((Int)×(List Int))))))))) (n:Int):Option ((Int)×(Int)×((Int)×(Int))×(List ((Int)×((Int)×((List Int)×((Int)×((Int)×(List Int)))))))×Unit):=
  bnd (W.jb.c1 c.1 c.2.1 c.2.2 some) fun y=>
  bnd (W.jb.c208197 n c.1 c.2.1 c.2.2 c.1 c.2.1 c.2.2 y.1 y.2 some) fun y_1=>
  br (y_1.2.2.2.1 != (0:Int))
   (bnd (W.jb.c5 some) fun y_2=>
    some ((0:Int),(0:Int),(y_1.2.2.2.1,y_1.2.2.2.2),[],()))
   (bnd (W.jb.c228677 n n some) fun y_3=>
    bnd (W.jb.c9 y_3 c.2.2 some) fun y_4=>
    br y_4
     (bnd (W.Jr (2:Int) (0:Int)) fun y_5=>
      some ((0:Int),(0:Int),(y_5.1,y_5.2),[],()))
     (bnd (iter (fun s↦W.jb.c100012 y_3 y_1.2.2.1 s some) []) fun y_6=>
      some (c.1,c.2.1,((0:Int),(0:Int)),y_6,())))
def jb.mc:MCallee:=⟨18,jb.pre,jb.post,fun x_=>jb x_.1 x_.2.1⟩
def jb.G:Env:=⟨81,tab,[(44,jR.ce),(23,Jd.ce),(40,Jr.ce)],[0,1,2,4,5,6,7,8,9,11,16,24,29,47,63,65,66,67,68],[2,4,9,25,48,54,74,75,2074,3002,3004,3009,5074,30000075,30003004,30003009],[(16,[⟨[],[],[73,74,75],[2074,5074,75]⟩,⟨[0],[],[73,74,75],[2074,5074,75]⟩,⟨[],[],[71,72],[]⟩,⟨[2],[2074,5074],[71,72],[]⟩,⟨[3,2],[2074,5074,75],[71,72],[]⟩,⟨[1,0,4,3,2],[3009,75],[],[]⟩,⟨[0,1,2,3,4,5],[],[],[]⟩,⟨[6,0,1,2,3,4,5],[9],[],[]⟩]),
  (5,[⟨[],[],[26],[]⟩,⟨[],[],[25],[3004,4]⟩,⟨[0],[3004,4],[26],[]⟩,⟨[1,2,0],[5],[],[]⟩]),
  (1,[⟨[],[],[13,14,6,7],[6,7]⟩,⟨[],[],[12,6,7],[6,7]⟩,⟨[1],[],[12,6,7],[6,7]⟩,⟨[],[6],[12,13,14,7],[7]⟩,⟨[],[7],[12,13,14,6],[6]⟩,⟨[3,0,2,1,4],[6],[],[]⟩,⟨[4,2,1,5,3,0],[7],[],[]⟩])],[(100012,jb.c100012r),(100014,jb.c100014r),(16,jb.c16r),(9,jb.c9r),(228677,jb.c228677r),(5,jb.c5r),(208197,jb.c208197r),(1,jb.c1r)],[(45,jA.mc)],Jf,[]⟩
theorem jb.eq (x_:densU jb.mc.pre.tys):denM jb.G Tryd.f18 jb.mc.pre jb.mc.post x_=jb.mc.F x_:=by kernel_rfl
theorem jb.p0:PcA jb.G Tryd.f18 0:=
  jG (s:=jb.c1r) (by kernel_rfl) (by kernel_rfl) (jF (sh:=jb.c1s) (fun ρ x_ k_=>(je fun _=>jc)) (fun ρ x_ t k=>(by kernel_rfl)) (fun x_=>by kernel_rfl))
theorem jb.p1:PcA jb.G Tryd.f18 1:=
  kn (s:=jb.c208197r) (by kernel_rfl) (by kernel_rfl) (jF (sh:=jb.c208197s) (fun ρ x_ k_=>(jw (je fun _=>jc) jc)) (fun ρ x_ t k=>(by kernel_rfl)) (fun x_=>by kernel_rfl))
theorem jb.p2:PcA jb.G Tryd.f18 2:=
  jG (s:=jb.c5r) (by kernel_rfl) (by kernel_rfl) (jF (sh:=jb.c5s) (fun ρ x_ k_=>jc) (fun ρ x_ t k=>(by kernel_rfl)) (fun x_=>by kernel_rfl))
theorem jb.p3:PcA jb.G Tryd.f18 3:=
  kn (s:=jb.c228677r) (by kernel_rfl) (by kernel_rfl) (jF (sh:=jb.c228677s) (fun ρ x_ k_=>(jw jc jc)) (fun ρ x_ t k=>(by kernel_rfl)) (fun x_=>by kernel_rfl))
theorem jb.p4:PcA jb.G Tryd.f18 4:=
  jG (s:=jb.c9r) (by kernel_rfl) (by kernel_rfl) (jF (sh:=jb.c9s) (fun ρ x_ k_=>(jw (jw jc (je fun _=>jc)) jc)) (fun ρ x_ t k=>(by kernel_rfl)) (fun x_=>by kernel_rfl))
theorem jb.p5:PcA jb.G Tryd.f18 5:=
  JA (s:=jb.c100012r) (by kernel_rfl) (by kernel_rfl) (Jt (sh:=jb.c100012s) (I:=fun x_ s_=>(x_.1,x_.2.1,x_.2.2.1,x_.2.2.2.1,x_.2.2.2.2.1,x_.2.2.2.2.2.1,x_.2.2.2.2.2.2.1,x_.2.2.2.2.2.2.2.1,x_.2.2.2.2.2.2.2.2.1,x_.2.2.2.2.2.2.2.2.2.1,x_.2.2.2.2.2.2.2.2.2.2.1,x_.2.2.2.2.2.2.2.2.2.2.2.1,x_.2.2.2.2.2.2.2.2.2.2.2.2.1,x_.2.2.2.2.2.2.2.2.2.2.2.2.2.1,x_.2.2.2.2.2.2.2.2.2.2.2.2.2.2.1,x_.2.2.2.2.2.2.2.2.2.2.2.2.2.2.2.1,x_.2.2.2.2.2.2.2.2.2.2.2.2.2.2.2.2.1,x_.2.2.2.2.2.2.2.2.2.2.2.2.2.2.2.2.2.1,s_,())) (fun x_=>rfl) (fun ρ x_ s_ k_=>(jw (je fun _=>jc) jc)) (fun ρ x_ t k=>(by kernel_rfl)) (fun x_ s=>by kernel_rfl))
theorem jb.p6:PcA jb.G Tryd.f18 6:=
  JA (s:=jb.c100014r) (by kernel_rfl) (by kernel_rfl) (Jt (sh:=jb.c100014s) (I:=fun x_ s_=>(x_.1,x_.2.1,x_.2.2.1,x_.2.2.2.1,x_.2.2.2.2.1,s_.1,x_.2.2.2.2.2.2.1,x_.2.2.2.2.2.2.2.1,x_.2.2.2.2.2.2.2.2.1,x_.2.2.2.2.2.2.2.2.2.1,x_.2.2.2.2.2.2.2.2.2.2.1,x_.2.2.2.2.2.2.2.2.2.2.2.1,x_.2.2.2.2.2.2.2.2.2.2.2.2.1,x_.2.2.2.2.2.2.2.2.2.2.2.2.2.1,x_.2.2.2.2.2.2.2.2.2.2.2.2.2.2.1,x_.2.2.2.2.2.2.2.2.2.2.2.2.2.2.2.1,x_.2.2.2.2.2.2.2.2.2.2.2.2.2.2.2.2.1,x_.2.2.2.2.2.2.2.2.2.2.2.2.2.2.2.2.2.1,x_.2.2.2.2.2.2.2.2.2.2.2.2.2.2.2.2.2.2.1,x_.2.2.2.2.2.2.2.2.2.2.2.2.2.2.2.2.2.2.2.1,x_.2.2.2.2.2.2.2.2.2.2.2.2.2.2.2.2.2.2.2.2.1,s_.2,())) (fun x_=>rfl) (fun ρ x_ s_ k_=>(jw (je fun _=>(je fun _=>jc)) jc)) (fun ρ x_ t k=>(by kernel_rfl)) (fun x_ s=>by kernel_rfl))
theorem jb.p7:PcA jb.G Tryd.f18 7:=
  jG (s:=jb.c16r) (by kernel_rfl) (by kernel_rfl) (jF (sh:=jb.c16s) (fun ρ x_ k_=>(je fun _=>(je fun _=>jc))) (fun ρ x_ t k=>(by kernel_rfl)) (fun x_=>by kernel_rfl))
theorem jb.ok:MOk Tryd.prog 18 jb.mc:=kb (G:=jb.G) Js mixed Tryd.func18 ⟨(Ja jR.ok (Ja Jd.ok (Ja Jr.ok Je))),(Jj jA.ok jU),jO,jT⟩ (m:=8) (by kernel_rfl) ⟨⟨⟨⟨⟨⟨⟨⟨trivial,jb.p0⟩,jb.p1⟩,jb.p2⟩,jb.p3⟩,jb.p4⟩,jb.p5⟩,jb.p6⟩,jb.p7⟩ (by kernel_rfl) jb.eq
abbrev co31:SD:=.one (.ref 8 0)
abbrev co32:SO:=.box [.val (.int .i64),.val (.int .i64),.down 3007 0]
def jf.pre:Shape:=⟨[(0,co9),(1,co17)],[]⟩
def jf.post:Shape:=⟨[(0,co11),(1,co21)],[(2,co12)]⟩
def jf.c3 {ρ:Type}  (k_:Unit→Option ρ):Option ρ:=
  k_ ()
def jf.c3s:Shape:=⟨[(0,co9),(1,co17),(2,co4),(4,co13),(5,co14),(6,co26)],[(2,co18),(4,co19),(5,co24),(6,co24),(3004,co12)]⟩
def jf.c3x0:Shape:=jf.c3s
def jf.c3r:Ck:=Ck.of (T:=Unit) jf.c3s (fun ρ x_ k_=>jf.c3  k_) (fun ρ x_ r_ k_=>k_ 0 (Shape.inj jf.c3x0 (x_.1,x_.2.1,x_.2.2.1,x_.2.2.2.1,x_.2.2.2.2.1,(0:Int),(0:Int),x_.2.2.2.2.2.2.2.2.2.1,x_.2.2.2.2.2.2.2.2.2.2.1,x_.2.2.2.2.2.2.2.2.2.1,x_.2.2.2.2.2.2.2.2.2.2.1,[],())))
def jf.c224581 {ρ:Type} (n:Int) (c0:Int) (c1:Int) (c2:List ((Int)×((Int)×((List Int)×((Int)×((Int)×(List Int))))))) (base0:Int) (base1:Int) (base2:List ((Int)×((Int)×((List Int)×((Int)×((Int)×(List Int))))))) (k_:(Int)×(Int)×(List ((Int)×((Int)×((List Int)×((Int)×((Int)×(List Int)))))))→Option ρ):Option ρ:=
  br (decide (n < (0:Int)))
   (bnd (W.jE (c0,c1,c2)) fun y=>
    k_ (y.1.1,y.1.2.1,y.1.2.2))
   (k_ (base0,base1,base2))
def jf.c224581s:Shape:=⟨[(0,co9),(1,co17),(2,co4),(4,co13),(5,co14),(6,co26),(7,co15),(8,co31)],[(2,co18),(4,co19),(5,co24),(6,co24),(7,co32),(8,co18),(3004,co12),(3007,co12)]⟩
def jf.c224581x0:Shape:=jf.c224581s
def jf.c224581r:Ck:=Ck.of (T:=(Int)×(Int)×(List ((Int)×((Int)×((List Int)×((Int)×((Int)×(List Int)))))))) jf.c224581s (fun ρ x_ k_=>jf.c224581 x_.2.1 x_.2.2.1 x_.2.2.2.1 x_.2.2.2.2.1 x_.2.2.2.2.2.2.2.2.2.2.2.2.2.1 x_.2.2.2.2.2.2.2.2.2.2.2.2.2.2.1 x_.2.2.2.2.2.2.2.2.2.2.2.2.2.2.2.1 k_) (fun ρ x_ r_ k_=>k_ 0 (Shape.inj jf.c224581x0 (x_.1,x_.2.1,x_.2.2.1,x_.2.2.2.1,x_.2.2.2.2.1,x_.2.2.2.2.2.1,x_.2.2.2.2.2.2.1,x_.2.2.2.2.2.2.2.1,x_.2.2.2.2.2.2.2.2.1,x_.2.2.2.2.2.2.2.2.2.1,x_.2.2.2.2.2.2.2.2.2.2.1,x_.2.2.2.2.2.2.2.2.2.2.2.1,x_.2.2.2.2.2.2.2.2.2.2.2.2.1,r_.1,r_.2.1,r_.2.2,x_.2.2.2.2.2.2.2.2.2.2.2.2.2.2.2.2)))
def jf.c9 {ρ:Type}  (k_:Unit→Option ρ):Option ρ:=
  k_ ()
def jf.c9s:Shape:=jf.c224581s
def jf.c9x0:Shape:=⟨[(0,co9),(1,co17),(2,co4),(4,co13),(5,co14),(6,co26),(7,co15),(8,co31)],[(2,co18),(4,co32),(5,co24),(6,co24),(7,co32),(8,co18),(3004,co12),(3007,co12)]⟩
def jf.c9r:Ck:=Ck.of (T:=Unit) jf.c9s (fun ρ x_ k_=>jf.c9  k_) (fun ρ x_ r_ k_=>k_ 0 (Shape.inj jf.c9x0 (x_.1,x_.2.1,x_.2.2.1,x_.2.2.2.1,x_.2.2.2.2.1,x_.2.2.2.2.2.2.2.2.2.2.2.1,x_.2.2.2.2.2.2.2.2.2.2.2.2.1,x_.2.2.2.2.2.2.2.2.2.1,x_.2.2.2.2.2.2.2.2.2.2.1,x_.2.2.2.2.2.2.2.2.2)))
def jf.c16 {ρ:Type} (i:Int) (base2:List ((Int)×((Int)×((List Int)×((Int)×((Int)×(List Int))))))) (t3007:List ((Int)×((Int)×((List Int)×((Int)×((Int)×(List Int))))))) (k_:List ((Int)×((Int)×((List Int)×((Int)×((Int)×(List Int))))))→Option ρ):Option ρ:=
  bnd (idx base2 i) fun y=>
  bnd (W.Jg y) fun y_1=>
  bnd (okIf (decide ((List.length t3007+(1:Nat))*(80:Nat)≤(140737488355328:Nat)) && decide (List.length t3007+(1:Nat)≤(140737488355328:Nat)))) fun y_2=>
  k_ (t3007++[(y_1.1,y_1.2.1,y_1.2.2.2.2.1,y_1.2.2.1,y_1.2.2.2.1,y_1.2.2.2.2.2.1)])
def jf.c16s:Shape:=⟨[(0,co9),(1,co17),(2,co4),(4,co13),(5,co14),(6,co26),(7,co15),(8,co31),(9,co17)],[(2,co18),(4,co19),(5,co24),(6,co24),(7,co32),(8,co18),(3004,co12),(3007,co12)]⟩
def jf.c16x0:Shape:=⟨[(0,co9),(1,co17),(2,co4),(4,co13),(5,co14),(6,co26),(7,co15),(8,co31),(9,co17)],[(2,co18),(4,co19),(5,co24),(6,co24),(7,co32),(8,co18),(63,.gone),(2062,.gone),(3004,co12),(3007,co12),(5062,.gone)]⟩
def jf.c16r:Ck:=Ck.of (T:=List ((Int)×((Int)×((List Int)×((Int)×((Int)×(List Int))))))) jf.c16s (fun ρ x_ k_=>jf.c16 x_.2.2.1 x_.2.2.2.2.2.2.2.2.2.2.2.2.2.2.2.2.1 x_.2.2.2.2.2.2.2.2.2.2.2.2.2.2.2.2.2.2.1 k_) (fun ρ x_ r_ k_=>k_ 0 (Shape.inj jf.c16x0 (x_.1,x_.2.1,x_.2.2.1,x_.2.2.2.1,x_.2.2.2.2.1,x_.2.2.2.2.2.1,x_.2.2.2.2.2.2.1,x_.2.2.2.2.2.2.2.1,x_.2.2.2.2.2.2.2.2.1,x_.2.2.2.2.2.2.2.2.2.1,x_.2.2.2.2.2.2.2.2.2.2.1,x_.2.2.2.2.2.2.2.2.2.2.2.1,x_.2.2.2.2.2.2.2.2.2.2.2.2.1,x_.2.2.2.2.2.2.2.2.2.2.2.2.2.1,x_.2.2.2.2.2.2.2.2.2.2.2.2.2.2.1,x_.2.2.2.2.2.2.2.2.2.2.2.2.2.2.2.1,x_.2.2.2.2.2.2.2.2.2.2.2.2.2.2.2.2.1,x_.2.2.2.2.2.2.2.2.2.2.2.2.2.2.2.2.2.1,r_,())))
def jf.c100014 {ρ:Type} (i:Int) (base2:List ((Int)×((Int)×((List Int)×((Int)×((Int)×(List Int))))))) (t3007:List ((Int)×((Int)×((List Int)×((Int)×((Int)×(List Int))))))) (k_:((Int)×(List ((Int)×((Int)×((List Int)×((Int)×((Int)×(List Int))))))))⊕((Int)×(List ((Int)×((Int)×((List Int)×((Int)×((Int)×(List Int))))))))→Option ρ):Option ρ:=
  br (decide (i < (↑(List.length base2):Int)))
   (bnd (W.jf.c16 i base2 t3007 some) fun y=>
    k_ (.inl ((IntKind.i64.wrap (i+(1:Int))),y)))
   (k_ (.inr (i,t3007)))
def jf.c100014s:Shape:=jf.c16s
def jf.c100014x0:Shape:=jf.c16s
def jf.c100014r:Ck:=Ck.ofLoop (S:=(Int)×(List ((Int)×((Int)×((List Int)×((Int)×((Int)×(List Int)))))))) (T:=(Int)×(List ((Int)×((Int)×((List Int)×((Int)×((Int)×(List Int)))))))) jf.c100014s (fun x_=>(x_.2.2.1,x_.2.2.2.2.2.2.2.2.2.2.2.2.2.2.2.2.2.2.1)) (fun ρ x_ s_ k_=>jf.c100014 s_.1 x_.2.2.2.2.2.2.2.2.2.2.2.2.2.2.2.2.1 s_.2 k_) (fun ρ x_ r_ k_=>k_ 4 (Shape.inj jf.c100014x0 (x_.1,x_.2.1,r_.1,x_.2.2.2.1,x_.2.2.2.2.1,x_.2.2.2.2.2.1,x_.2.2.2.2.2.2.1,x_.2.2.2.2.2.2.2.1,x_.2.2.2.2.2.2.2.2.1,x_.2.2.2.2.2.2.2.2.2.1,x_.2.2.2.2.2.2.2.2.2.2.1,x_.2.2.2.2.2.2.2.2.2.2.2.1,x_.2.2.2.2.2.2.2.2.2.2.2.2.1,x_.2.2.2.2.2.2.2.2.2.2.2.2.2.1,x_.2.2.2.2.2.2.2.2.2.2.2.2.2.2.1,x_.2.2.2.2.2.2.2.2.2.2.2.2.2.2.2.1,x_.2.2.2.2.2.2.2.2.2.2.2.2.2.2.2.2.1,x_.2.2.2.2.2.2.2.2.2.2.2.2.2.2.2.2.2.1,r_.2,())))
def jf.c100010 {ρ:Type} (n:Int) (base2:List ((Int)×((Int)×((List Int)×((Int)×((Int)×(List Int))))))) (t3007:List ((Int)×((Int)×((List Int)×((Int)×((Int)×(List Int))))))) (k_:((Int)×(List ((Int)×((Int)×((List Int)×((Int)×((Int)×(List Int))))))))⊕(((Int)×(Int)×(Int)×(List ((Int)×((Int)×((List Int)×((Int)×((Int)×(List Int))))))))⊕((Int)×(List ((Int)×((Int)×((List Int)×((Int)×((Int)×(List Int)))))))))→Option ρ):Option ρ:=
  br (n != (0:Int))
   (br (decide (IntKind.i64.wrap ((↑(List.length t3007):Int)+(↑(List.length base2):Int)) > (4096:Int)))
     (bnd (W.JE (2:Int) (0:Int)) fun y=>
      k_ (.inr (.inl (n,y.1,y.2,t3007))))
     (bnd (iter (fun s↦W.jf.c100014 s.1 base2 s.2 some) ((0:Int),t3007)) fun y_1=>
      br (decide (n > (0:Int)))
       (k_ (.inl ((IntKind.i64.wrap (n - (1:Int))),y_1.2)))
       (k_ (.inl ((IntKind.i64.wrap (n+(1:Int))),y_1.2)))))
   (k_ (.inr (.inr (n,t3007))))
def jf.c100010s:Shape:=jf.c224581s
def jf.c100010x0:Shape:=jf.c224581s
def jf.c100010x1:Shape:=jf.c224581s
def jf.c100010r:Ck:=Ck.ofLoop (S:=(Int)×(List ((Int)×((Int)×((List Int)×((Int)×((Int)×(List Int)))))))) (T:=((Int)×(Int)×(Int)×(List ((Int)×((Int)×((List Int)×((Int)×((Int)×(List Int))))))))⊕((Int)×(List ((Int)×((Int)×((List Int)×((Int)×((Int)×(List Int))))))))) jf.c100010s (fun x_=>(x_.2.1,x_.2.2.2.2.2.2.2.2.2.2.2.2.2.2.2.2.2.1)) (fun ρ x_ s_ k_=>jf.c100010 s_.1 x_.2.2.2.2.2.2.2.2.2.2.2.2.2.2.2.1 s_.2 k_) (fun ρ x_ r_ k_=>uP x_ fun c x_=>uP x_ fun n x_=>uP x_ fun c0 x_=>uP x_ fun c1 x_=>uP x_ fun c2 x_=>uP x_ fun t40 x_=>uP x_ fun t41 x_=>uP x_ fun t50 x_=>uP x_ fun t51 x_=>uP x_ fun f0 x_=>uP x_ fun f1 x_=>uP x_ fun out0 x_=>uP x_ fun out1 x_=>uP x_ fun base0 x_=>uP x_ fun base1 x_=>uP x_ fun base2 x_=>uP x_ fun t3004 x_=>uP x_ fun t3007 x_=>sel r_ (fun r_=>k_ 1 (Shape.inj jf.c100010x0 (c,r_.1,c0,c1,c2,(0:Int),(0:Int),r_.2.1,r_.2.2.1,f0,f1,out0,out1,base0,base1,base2,[],r_.2.2.2,()))) (fun r_=>k_ 2 (Shape.inj jf.c100010x1 (c,r_.1,c0,c1,c2,t40,t41,t50,t51,f0,f1,out0,out1,base0,base1,base2,t3004,r_.2,()))))
def jf.c20 {ρ:Type}  (k_:Unit→Option ρ):Option ρ:=
  k_ ()
def jf.c20s:Shape:=jf.c224581s
def jf.c20x0:Shape:=jf.c9x0
def jf.c20r:Ck:=Ck.of (T:=Unit) jf.c20s (fun ρ x_ k_=>jf.c20  k_) (fun ρ x_ r_ k_=>k_ 0 (Shape.inj jf.c20x0 (x_.1,x_.2.1,x_.2.2.1,x_.2.2.2.1,x_.2.2.2.2.1,x_.2.2.2.2.2.2.2.2.2.2.2.1,x_.2.2.2.2.2.2.2.2.2.2.2.2.1,x_.2.2.2.2.2.2.2.2.2.1,x_.2.2.2.2.2.2.2.2.2.2.1,x_.2.2.2.2.2.2.2.2.2)))
def jf (c:(Int)×((Int)×(List ((Int)×((Int)×((List Int)×((Int)×((Int)×(List Int))))))))) (n:Int):Option ((Int)×(Int)×((Int)×(Int))×(List ((Int)×((Int)×((List Int)×((Int)×((Int)×(List Int)))))))×Unit):=
  bnd (W.Jo (c.1,c.2.1,c.2.2)) fun y=>
  br (y.1 != (0:Int))
   (bnd (W.jf.c3 some) fun y_1=>
    some ((0:Int),(0:Int),(y.1,y.2),[],()))
   (bnd (W.jf.c224581 n c.1 c.2.1 c.2.2 c.1 c.2.1 c.2.2 some) fun y_2=>
    br ((↑(List.length c.2.2):Int) == (0:Int))
     (bnd (W.jf.c9 some) fun y_3=>
      some (c.1,c.2.1,(y.1,y.2),[],()))
     (bnd (iter (fun s↦W.jf.c100010 s.1 y_2.2.2 s.2 some) (n,[])) fun y_4=>
      sel y_4
       (fun u=>some ((0:Int),(0:Int),(u.2.1,u.2.2.1),[],()))
       (fun v=>bnd (W.jf.c20 some) fun y_5=>
        some (c.1,c.2.1,(y.1,y.2),v.2,()))))
def jf.mc:MCallee:=⟨19,jf.pre,jf.post,fun x_=>jf x_.1 x_.2.1⟩
def jf.G:Env:=⟨74,tab,[(17,Jo.ce),(24,jE.ce),(42,JE.ce)],[0,1,2,4,5,6,7,8,9,14,24,33,37,45,52,67],[2,4,7,15,21,46,62,63,2062,3002,3004,3007,5062,30000063,30003004,30003007],[(20,[⟨[],[],[73],[]⟩,⟨[],[],[72],[4]⟩,⟨[0],[4],[73],[]⟩,⟨[1,2,0],[5],[],[]⟩]),
  (16,[⟨[],[],[57,58,59,60,61,62,63],[2062,5062,63]⟩,⟨[0],[],[57,58,59,60,61,62,63],[2062,5062,63]⟩,⟨[],[],[55,56,59],[]⟩,⟨[2],[],[55,56,59],[]⟩,⟨[],[],[55,56,57,58],[]⟩,⟨[3,2,4],[],[55,56],[]⟩,⟨[5,3,2,4],[],[55,56],[]⟩,⟨[6,5,3,2,4],[2062,5062],[55,56],[]⟩,⟨[7,6,5,3,2,4],[2062,5062,63],[55,56],[]⟩,⟨[1,0,8,7,6,5,3,2,4],[3007,63],[],[]⟩,⟨[0,1,2,3,4,5,6,7,8,9],[],[],[]⟩,⟨[10,0,1,2,3,4,5,6,7,8,9],[7],[],[]⟩]),
  (9,[⟨[],[],[35],[]⟩,⟨[],[],[34],[4]⟩,⟨[0],[4],[35],[]⟩,⟨[1,2,0],[5],[],[]⟩]),
  (3,[⟨[],[],[16],[]⟩,⟨[],[],[15],[3004,4]⟩,⟨[0],[3004,4],[16],[]⟩,⟨[1,2,0],[5],[],[]⟩])],[(20,jf.c20r),(100010,jf.c100010r),(100014,jf.c100014r),(16,jf.c16r),(9,jf.c9r),(224581,jf.c224581r),(3,jf.c3r)],[(37,Jg.mc)],Jf,[]⟩
theorem jf.eq (x_:densU jf.mc.pre.tys):denM jf.G Tryd.f19 jf.mc.pre jf.mc.post x_=jf.mc.F x_:=by kernel_rfl
theorem jf.p0:PcA jf.G Tryd.f19 0:=
  jG (s:=jf.c3r) (by kernel_rfl) (by kernel_rfl) (jF (sh:=jf.c3s) (fun ρ x_ k_=>jc) (fun ρ x_ t k=>(by kernel_rfl)) (fun x_=>by kernel_rfl))
theorem jf.p1:PcA jf.G Tryd.f19 1:=
  kn (s:=jf.c224581r) (by kernel_rfl) (by kernel_rfl) (jF (sh:=jf.c224581s) (fun ρ x_ k_=>(jw (je fun _=>jc) jc)) (fun ρ x_ t k=>(by kernel_rfl)) (fun x_=>by kernel_rfl))
theorem jf.p2:PcA jf.G Tryd.f19 2:=
  jG (s:=jf.c9r) (by kernel_rfl) (by kernel_rfl) (jF (sh:=jf.c9s) (fun ρ x_ k_=>jc) (fun ρ x_ t k=>(by kernel_rfl)) (fun x_=>by kernel_rfl))
theorem jf.p3:PcA jf.G Tryd.f19 3:=
  JA (s:=jf.c100010r) (by kernel_rfl) (by kernel_rfl) (Jt (sh:=jf.c100010s) (I:=fun x_ s_=>(x_.1,s_.1,x_.2.2.1,x_.2.2.2.1,x_.2.2.2.2.1,x_.2.2.2.2.2.1,x_.2.2.2.2.2.2.1,x_.2.2.2.2.2.2.2.1,x_.2.2.2.2.2.2.2.2.1,x_.2.2.2.2.2.2.2.2.2.1,x_.2.2.2.2.2.2.2.2.2.2.1,x_.2.2.2.2.2.2.2.2.2.2.2.1,x_.2.2.2.2.2.2.2.2.2.2.2.2.1,x_.2.2.2.2.2.2.2.2.2.2.2.2.2.1,x_.2.2.2.2.2.2.2.2.2.2.2.2.2.2.1,x_.2.2.2.2.2.2.2.2.2.2.2.2.2.2.2.1,x_.2.2.2.2.2.2.2.2.2.2.2.2.2.2.2.2.1,s_.2,())) (fun x_=>rfl) (fun ρ x_ s_ k_=>(jw (jw (je fun _=>jc) (je fun _=>(jw jc jc))) jc)) (fun ρ x_ t k=>(kB (fun _=>(by kernel_rfl)) (fun _=>(by kernel_rfl)))) (fun x_ s=>by kernel_rfl))
theorem jf.p4:PcA jf.G Tryd.f19 4:=
  JA (s:=jf.c100014r) (by kernel_rfl) (by kernel_rfl) (Jt (sh:=jf.c100014s) (I:=fun x_ s_=>(x_.1,x_.2.1,s_.1,x_.2.2.2.1,x_.2.2.2.2.1,x_.2.2.2.2.2.1,x_.2.2.2.2.2.2.1,x_.2.2.2.2.2.2.2.1,x_.2.2.2.2.2.2.2.2.1,x_.2.2.2.2.2.2.2.2.2.1,x_.2.2.2.2.2.2.2.2.2.2.1,x_.2.2.2.2.2.2.2.2.2.2.2.1,x_.2.2.2.2.2.2.2.2.2.2.2.2.1,x_.2.2.2.2.2.2.2.2.2.2.2.2.2.1,x_.2.2.2.2.2.2.2.2.2.2.2.2.2.2.1,x_.2.2.2.2.2.2.2.2.2.2.2.2.2.2.2.1,x_.2.2.2.2.2.2.2.2.2.2.2.2.2.2.2.2.1,x_.2.2.2.2.2.2.2.2.2.2.2.2.2.2.2.2.2.1,s_.2,())) (fun x_=>rfl) (fun ρ x_ s_ k_=>(jw (je fun _=>jc) jc)) (fun ρ x_ t k=>(by kernel_rfl)) (fun x_ s=>by kernel_rfl))
theorem jf.p5:PcA jf.G Tryd.f19 5:=
  jG (s:=jf.c16r) (by kernel_rfl) (by kernel_rfl) (jF (sh:=jf.c16s) (fun ρ x_ k_=>(je fun _=>(je fun _=>(je fun _=>jc)))) (fun ρ x_ t k=>(by kernel_rfl)) (fun x_=>by kernel_rfl))
theorem jf.p6:PcA jf.G Tryd.f19 6:=
  jG (s:=jf.c20r) (by kernel_rfl) (by kernel_rfl) (jF (sh:=jf.c20s) (fun ρ x_ k_=>jc) (fun ρ x_ t k=>(by kernel_rfl)) (fun x_=>by kernel_rfl))
theorem jf.ok:MOk Tryd.prog 19 jf.mc:=kb (G:=jf.G) Js mixed Tryd.func19 ⟨(Ja Jo.ok (Ja jE.ok (Ja JE.ok Je))),(Jj Jg.ok jU),jO,jT⟩ (m:=7) (by kernel_rfl) ⟨⟨⟨⟨⟨⟨⟨trivial,jf.p0⟩,jf.p1⟩,jf.p2⟩,jf.p3⟩,jf.p4⟩,jf.p5⟩,jf.p6⟩ (by kernel_rfl) jf.eq
def Jp.pre:Shape:=⟨[(0,co8)],[(1000003,co2),(1000006,co2)]⟩
def Jp.post:Shape:=Jp.pre
def Jp (o0:Int) (o1:Int) (o3:Int) (o4:Int) (t1000003:List (Int)) (t1000006:List (Int)):Option ((Int)×(Int)×(Int)×(Int)×(List Int)×(List Int)×Unit):=
  some (o0,o1,o3,o4,t1000003,t1000006,())
def Jp.mc:MCallee:=⟨47,Jp.pre,Jp.post,fun x_=>Jp x_.1 x_.2.1 x_.2.2.1 x_.2.2.2.1 x_.2.2.2.2.1 x_.2.2.2.2.2.1⟩
def Jp.G:Env:=⟨4,tab,[],[0,1,2],[1,2,3001,3002,6001,6002,1000003,1000006],[],[],[],Jf,[]⟩
theorem Jp.eq (x_:densU Jp.mc.pre.tys):denM Jp.G Tryd.f47 Jp.mc.pre Jp.mc.post x_=Jp.mc.F x_:=by kernel_rfl
theorem Jp.ok:MOk Tryd.prog 47 Jp.mc:=kb (G:=Jp.G) Js mixed Tryd.func47 ⟨Je,jU,jO,jT⟩ (m:=0) (by kernel_rfl) trivial (by kernel_rfl) Jp.eq
abbrev co33:SD:=.one (.fn 47)
def jy.pre:Shape:=⟨[(0,co9),(1,co33)],[]⟩
def jy.post:Shape:=⟨[(0,co11)],[(2,co12)]⟩
def jy.c5 {ρ:Type} (o0:Int) (o1:Int) (o2:List (Int)) (o3:Int) (o4:Int) (o5:List (Int)) (t3005:List ((Int)×((Int)×((List Int)×((Int)×((Int)×(List Int))))))) (k_:List ((Int)×((Int)×((List Int)×((Int)×((Int)×(List Int))))))→Option ρ):Option ρ:=
  bnd (W.jA (o0,o1,o2,o3,o4,o5)) fun y=>
  bnd (W.Jp y.1 y.2.1 y.2.2.1 y.2.2.2.1 y.2.2.2.2.1 y.2.2.2.2.2.1) fun y_1=>
  bnd (okIf (decide ((List.length t3005+(1:Nat))*(80:Nat)≤(140737488355328:Nat)) && decide (List.length t3005+(1:Nat)≤(140737488355328:Nat)))) fun y_2=>
  k_ (t3005++[(y_1.1,y_1.2.1,y_1.2.2.2.2.1,y_1.2.2.1,y_1.2.2.2.1,y_1.2.2.2.2.2.1)])
def jy.c5s:Shape:=⟨[(0,co9),(1,co33),(2,co4),(4,co13),(5,co14),(7,co15),(14,co16),(15,co17),(16,co17)],[(2,co18),(4,co19),(5,co20),(7,co5),(3004,co12),(3005,co12)]⟩
def jy.c5x0:Shape:=⟨[(0,co9),(1,co33),(2,co4),(4,co13),(5,co14),(7,co15),(14,co16),(15,co17),(16,co17)],[(2,co18),(4,co19),(5,co20),(7,co5),(26,.gone),(2024,.gone),(3004,co12),(3005,co12),(5024,.gone)]⟩
def jy.c5r:Ck:=Ck.of (T:=List ((Int)×((Int)×((List Int)×((Int)×((Int)×(List Int))))))) jy.c5s (fun ρ x_ k_=>jy.c5 x_.2.2.2.2.2.2.2.2.2.2.2.1 x_.2.2.2.2.2.2.2.2.2.2.2.2.1 x_.2.2.2.2.2.2.2.2.2.2.2.2.2.1 x_.2.2.2.2.2.2.2.2.2.2.2.2.2.2.1 x_.2.2.2.2.2.2.2.2.2.2.2.2.2.2.2.1 x_.2.2.2.2.2.2.2.2.2.2.2.2.2.2.2.2.1 x_.2.2.2.2.2.2.2.2.2.2.2.2.2.2.2.2.2.2.1 k_) (fun ρ x_ r_ k_=>k_ 0 (Shape.inj jy.c5x0 (x_.1,x_.2.1,x_.2.2.1,x_.2.2.2.1,x_.2.2.2.2.1,x_.2.2.2.2.2.1,x_.2.2.2.2.2.2.1,x_.2.2.2.2.2.2.2.1,x_.2.2.2.2.2.2.2.2.1,x_.2.2.2.2.2.2.2.2.2.1,x_.2.2.2.2.2.2.2.2.2.2.1,x_.2.2.2.2.2.2.2.2.2.2.2.1,x_.2.2.2.2.2.2.2.2.2.2.2.2.1,x_.2.2.2.2.2.2.2.2.2.2.2.2.2.1,x_.2.2.2.2.2.2.2.2.2.2.2.2.2.2.1,x_.2.2.2.2.2.2.2.2.2.2.2.2.2.2.2.1,x_.2.2.2.2.2.2.2.2.2.2.2.2.2.2.2.2.1,x_.2.2.2.2.2.2.2.2.2.2.2.2.2.2.2.2.2.1,r_,())))
def jy.c100003 {ρ:Type} (t14:List ((Int)×((Int)×((List Int)×((Int)×((Int)×(List Int))))))) (t15:Int) (t16:Int) (t3005:List ((Int)×((Int)×((List Int)×((Int)×((Int)×(List Int))))))) (k_:((Int)×(List ((Int)×((Int)×((List Int)×((Int)×((Int)×(List Int))))))))⊕((Int)×(List ((Int)×((Int)×((List Int)×((Int)×((Int)×(List Int))))))))→Option ρ):Option ρ:=
  br (decide (t16 < t15))
   (bnd (idx t14 t16) fun y=>
    bnd (W.jy.c5 y.1 y.2.1 y.2.2.1 y.2.2.2.1 y.2.2.2.2.1 y.2.2.2.2.2 t3005 some) fun y_1=>
    k_ (.inl ((IntKind.i64.wrap (t16+(1:Int))),y_1)))
   (k_ (.inr (t16,t3005)))
def jy.c100003s:Shape:=⟨[(0,co9),(1,co33),(2,co4),(4,co13),(5,co14),(14,co16),(15,co17),(16,co17)],[(2,co18),(4,co19),(5,co20),(3004,co12),(3005,co12)]⟩
def jy.c100003x0:Shape:=jy.c100003s
def jy.c100003r:Ck:=Ck.ofLoop (S:=(Int)×(List ((Int)×((Int)×((List Int)×((Int)×((Int)×(List Int)))))))) (T:=(Int)×(List ((Int)×((Int)×((List Int)×((Int)×((Int)×(List Int)))))))) jy.c100003s (fun x_=>(x_.2.2.2.1,x_.2.2.2.2.2.2.2.2.2.2.2.2.1)) (fun ρ x_ s_ k_=>jy.c100003 x_.2.1 x_.2.2.1 s_.1 s_.2 k_) (fun ρ x_ r_ k_=>k_ 2 (Shape.inj jy.c100003x0 (x_.1,x_.2.1,x_.2.2.1,r_.1,x_.2.2.2.2.1,x_.2.2.2.2.2.1,x_.2.2.2.2.2.2.1,x_.2.2.2.2.2.2.2.1,x_.2.2.2.2.2.2.2.2.1,x_.2.2.2.2.2.2.2.2.2.1,x_.2.2.2.2.2.2.2.2.2.2.1,x_.2.2.2.2.2.2.2.2.2.2.2.1,r_.2,())))
def jy (c:(Int)×((Int)×(List ((Int)×((Int)×((List Int)×((Int)×((Int)×(List Int))))))))):Option ((Int)×(Int)×(List ((Int)×((Int)×((List Int)×((Int)×((Int)×(List Int)))))))×Unit):=
  bnd (iter (fun s↦W.jy.c100003 c.2.2 (↑(List.length c.2.2):Int) s.1 s.2 some) ((0:Int),[])) fun y=>
  some (c.1,c.2.1,y.2,())
def jy.mc:MCallee:=⟨46,jy.pre,jy.post,fun x_=>jy x_.1⟩
def jy.G:Env:=⟨31,tab,[],[0,1,2,4,5,7,14,15,16,17],[2,4,5,12,24,26,2024,3002,3004,3005,5024,30000026,30003004,30003005],[(5,[⟨[],[],[22,23,24,25,26],[2024,5024,26]⟩,⟨[0],[],[22,23,24,25,26],[2024,5024,26]⟩,⟨[],[],[20,21,23,24],[2024,5024]⟩,⟨[],[],[20,21,22],[]⟩,⟨[3],[2024,5024],[20,21,22],[]⟩,⟨[2,4,3],[2024,5024],[20,21],[]⟩,⟨[5,2,4,3],[2024,5024,26],[20,21],[]⟩,⟨[1,0,6,5,2,4,3],[3005,26],[],[]⟩,⟨[0,1,2,3,4,5,6,7],[],[],[]⟩,⟨[8,0,1,2,3,4,5,6,7],[5],[],[]⟩])],[(100003,jy.c100003r),(5,jy.c5r)],[(45,jA.mc),(47,Jp.mc)],Jf,[]⟩
theorem jy.eq (x_:densU jy.mc.pre.tys):denM jy.G Tryd.f46 jy.mc.pre jy.mc.post x_=jy.mc.F x_:=by kernel_rfl
theorem jy.p0:PcA jy.G Tryd.f46 0:=
  JA (s:=jy.c100003r) (by kernel_rfl) (by kernel_rfl) (Jt (sh:=jy.c100003s) (I:=fun x_ s_=>(x_.1,x_.2.1,x_.2.2.1,s_.1,x_.2.2.2.2.1,x_.2.2.2.2.2.1,x_.2.2.2.2.2.2.1,x_.2.2.2.2.2.2.2.1,x_.2.2.2.2.2.2.2.2.1,x_.2.2.2.2.2.2.2.2.2.1,x_.2.2.2.2.2.2.2.2.2.2.1,x_.2.2.2.2.2.2.2.2.2.2.2.1,s_.2,())) (fun x_=>rfl) (fun ρ x_ s_ k_=>(jw (je fun _=>(je fun _=>jc)) jc)) (fun ρ x_ t k=>(by kernel_rfl)) (fun x_ s=>by kernel_rfl))
theorem jy.p1:PcA jy.G Tryd.f46 1:=
  jG (s:=jy.c5r) (by kernel_rfl) (by kernel_rfl) (jF (sh:=jy.c5s) (fun ρ x_ k_=>(je fun _=>(je fun _=>(je fun _=>jc)))) (fun ρ x_ t k=>(by kernel_rfl)) (fun x_=>by kernel_rfl))
theorem jy.ok:MOk Tryd.prog 46 jy.mc:=kb (G:=jy.G) Js mixed Tryd.func46 ⟨Je,(Jj jA.ok (Jj Jp.ok jU)),jO,jT⟩ (m:=2) (by kernel_rfl) ⟨⟨trivial,jy.p0⟩,jy.p1⟩ (by kernel_rfl) jy.eq
abbrev co34:SD:=.one (.ref 10 0)
abbrev co35:SO:=.box [.val (.int .i64),.val (.int .i64),.down 2050 0]
def ji.pre:Shape:=⟨[(0,co9),(1,co9)],[]⟩
def ji.post:Shape:=⟨[(0,co11),(1,co21)],[(2,co12)]⟩
def ji.c3 {ρ:Type}  (k_:Unit→Option ρ):Option ρ:=
  k_ ()
def ji.c3s:Shape:=⟨[(0,co9),(1,co9),(2,co4),(3,co22),(4,co13),(5,co14),(6,co26)],[(2,co18),(3,co18),(4,co19),(5,co24),(6,co24),(3004,co12)]⟩
def ji.c3x0:Shape:=ji.c3s
def ji.c3r:Ck:=Ck.of (T:=Unit) ji.c3s (fun ρ x_ k_=>ji.c3  k_) (fun ρ x_ r_ k_=>k_ 0 (Shape.inj ji.c3x0 (x_.1,x_.2.1,x_.2.2.1,x_.2.2.2.1,x_.2.2.2.2.1,x_.2.2.2.2.2.1,x_.2.2.2.2.2.2.1,x_.2.2.2.2.2.2.2.1,(0:Int),(0:Int),x_.2.2.2.2.2.2.2.2.2.2.2.2.1,x_.2.2.2.2.2.2.2.2.2.2.2.2.2.1,x_.2.2.2.2.2.2.2.2.2.2.2.2.1,x_.2.2.2.2.2.2.2.2.2.2.2.2.2.1,[],())))
def ji.c6 {ρ:Type}  (k_:Unit→Option ρ):Option ρ:=
  k_ ()
def ji.c6s:Shape:=⟨[(0,co9),(1,co9),(2,co4),(3,co22),(4,co13),(5,co14),(6,co26),(7,co15)],[(2,co18),(3,co18),(4,co19),(5,co24),(6,co24),(7,co24),(3004,co12)]⟩
def ji.c6x0:Shape:=ji.c6s
def ji.c6r:Ck:=Ck.of (T:=Unit) ji.c6s (fun ρ x_ k_=>ji.c6  k_) (fun ρ x_ r_ k_=>k_ 0 (Shape.inj ji.c6x0 (x_.1,x_.2.1,x_.2.2.1,x_.2.2.2.1,x_.2.2.2.2.1,x_.2.2.2.2.2.1,x_.2.2.2.2.2.2.1,x_.2.2.2.2.2.2.2.1,(0:Int),(0:Int),x_.2.2.2.2.2.2.2.2.2.2.2.2.2.2.1,x_.2.2.2.2.2.2.2.2.2.2.2.2.2.2.2.1,x_.2.2.2.2.2.2.2.2.2.2.2.2.1,x_.2.2.2.2.2.2.2.2.2.2.2.2.2.1,x_.2.2.2.2.2.2.2.2.2.2.2.2.2.2.1,x_.2.2.2.2.2.2.2.2.2.2.2.2.2.2.2.1,[],())))
def ji.c7 {ρ:Type} (a0:Int) (a1:Int) (b0:Int) (b1:Int) (k_:Bool→Option ρ):Option ρ:=
  br (a0 != b0)
   (k_ true)
   (k_ (a1 != b1))
def ji.c7s:Shape:=ji.c6s
def ji.c7x0:Shape:=⟨[(0,co9),(1,co9),(2,co4),(3,co22),(4,co13),(5,co14),(6,co26),(7,co15),(36,co27)],[(2,co18),(3,co18),(4,co19),(5,co24),(6,co24),(7,co24),(3004,co12)]⟩
def ji.c7r:Ck:=Ck.of (T:=Bool) ji.c7s (fun ρ x_ k_=>ji.c7 x_.2.2.1 x_.2.2.2.1 x_.2.2.2.2.2.1 x_.2.2.2.2.2.2.1 k_) (fun ρ x_ r_ k_=>k_ 0 (Shape.inj ji.c7x0 (x_.1,x_.2.1,r_,x_.2.2)))
def ji.c15 {ρ:Type} (o0:Int) (o1:Int) (o2:List (Int)) (o3:Int) (o4:Int) (o5:List (Int)) (t2050:List ((Int)×((Int)×((List Int)×((Int)×((Int)×(List Int))))))) (k_:List ((Int)×((Int)×((List Int)×((Int)×((Int)×(List Int))))))→Option ρ):Option ρ:=
  bnd (W.jA (o0,o1,o2,o3,o4,o5)) fun y=>
  bnd (okIf (decide ((List.length t2050+(1:Nat))*(80:Nat)≤(140737488355328:Nat)) && decide (List.length t2050+(1:Nat)≤(140737488355328:Nat)))) fun y_1=>
  k_ (t2050++[(y.1,y.2.1,y.2.2.2.2.1,y.2.2.1,y.2.2.2.1,y.2.2.2.2.2.1)])
def ji.c15s:Shape:=⟨[(0,co9),(1,co9),(2,co4),(3,co22),(4,co13),(5,co14),(6,co26),(7,co15),(8,co31),(10,co34),(52,co16),(53,co17),(54,co17)],[(2,co18),(3,co18),(4,co19),(5,co24),(6,co24),(7,co24),(8,co35),(10,co5),(2050,co12),(3004,co12),(3008,co12)]⟩
def ji.c15x0:Shape:=⟨[(0,co9),(1,co9),(2,co4),(3,co22),(4,co13),(5,co14),(6,co26),(7,co15),(8,co31),(10,co34),(52,co16),(53,co17),(54,co17)],[(2,co18),(3,co18),(4,co19),(5,co24),(6,co24),(7,co24),(8,co35),(10,co5),(62,.gone),(2050,co12),(2061,.gone),(3004,co12),(3008,co12),(5061,.gone)]⟩
def ji.c15r:Ck:=Ck.of (T:=List ((Int)×((Int)×((List Int)×((Int)×((Int)×(List Int))))))) ji.c15s (fun ρ x_ k_=>ji.c15 x_.2.2.2.2.2.2.2.2.2.2.2.2.2.2.2.2.2.2.2.2.2.1 x_.2.2.2.2.2.2.2.2.2.2.2.2.2.2.2.2.2.2.2.2.2.2.1 x_.2.2.2.2.2.2.2.2.2.2.2.2.2.2.2.2.2.2.2.2.2.2.2.1 x_.2.2.2.2.2.2.2.2.2.2.2.2.2.2.2.2.2.2.2.2.2.2.2.2.1 x_.2.2.2.2.2.2.2.2.2.2.2.2.2.2.2.2.2.2.2.2.2.2.2.2.2.1 x_.2.2.2.2.2.2.2.2.2.2.2.2.2.2.2.2.2.2.2.2.2.2.2.2.2.2.1 x_.2.2.2.2.2.2.2.2.2.2.2.2.2.2.2.2.2.2.2.2.2.2.2.2.2.2.2.1 k_) (fun ρ x_ r_ k_=>uP x_ fun a x_=>uP x_ fun b x_=>uP x_ fun t52 x_=>uP x_ fun t53 x_=>uP x_ fun t54 x_=>uP x_ fun a0 x_=>uP x_ fun a1 x_=>uP x_ fun a2 x_=>uP x_ fun b0 x_=>uP x_ fun b1 x_=>uP x_ fun b2 x_=>uP x_ fun t40 x_=>uP x_ fun t41 x_=>uP x_ fun t50 x_=>uP x_ fun t51 x_=>uP x_ fun f0 x_=>uP x_ fun f1 x_=>uP x_ fun f0_1 x_=>uP x_ fun f1_1 x_=>uP x_ fun out0 x_=>uP x_ fun out1 x_=>uP x_ fun o0 x_=>uP x_ fun o1 x_=>uP x_ fun o2 x_=>uP x_ fun o3 x_=>uP x_ fun o4 x_=>uP x_ fun o5 x_=>uP x_ fun t2050 x_=>uP x_ fun t3004 x_=>uP x_ fun t3008 x_=>k_ 0 (Shape.inj ji.c15x0 (a,b,t52,t53,t54,a0,a1,a2,b0,b1,b2,t40,t41,t50,t51,f0,f1,f0_1,f1_1,out0,out1,o0,o1,o2,o3,o4,o5,r_,t3004,t3008,())))
def ji.c100013 {ρ:Type} (t52:List ((Int)×((Int)×((List Int)×((Int)×((Int)×(List Int))))))) (t53:Int) (t54:Int) (t2050:List ((Int)×((Int)×((List Int)×((Int)×((Int)×(List Int))))))) (k_:((Int)×(List ((Int)×((Int)×((List Int)×((Int)×((Int)×(List Int))))))))⊕((Int)×(List ((Int)×((Int)×((List Int)×((Int)×((Int)×(List Int))))))))→Option ρ):Option ρ:=
  br (decide (t54 < t53))
   (bnd (idx t52 t54) fun y=>
    bnd (W.ji.c15 y.1 y.2.1 y.2.2.1 y.2.2.2.1 y.2.2.2.2.1 y.2.2.2.2.2 t2050 some) fun y_1=>
    k_ (.inl ((IntKind.i64.wrap (t54+(1:Int))),y_1)))
   (k_ (.inr (t54,t2050)))
def ji.c100013s:Shape:=⟨[(0,co9),(1,co9),(2,co4),(3,co22),(4,co13),(5,co14),(6,co26),(7,co15),(8,co31),(52,co16),(53,co17),(54,co17)],[(2,co18),(3,co18),(4,co19),(5,co24),(6,co24),(7,co24),(8,co35),(2050,co12),(3004,co12),(3008,co12)]⟩
def ji.c100013x0:Shape:=ji.c100013s
def ji.c100013r:Ck:=Ck.ofLoop (S:=(Int)×(List ((Int)×((Int)×((List Int)×((Int)×((Int)×(List Int)))))))) (T:=(Int)×(List ((Int)×((Int)×((List Int)×((Int)×((Int)×(List Int)))))))) ji.c100013s (fun x_=>(x_.2.2.2.2.1,x_.2.2.2.2.2.2.2.2.2.2.2.2.2.2.2.2.2.2.2.2.2.1)) (fun ρ x_ s_ k_=>ji.c100013 x_.2.2.1 x_.2.2.2.1 s_.1 s_.2 k_) (fun ρ x_ r_ k_=>k_ 2 (Shape.inj ji.c100013x0 (x_.1,x_.2.1,x_.2.2.1,x_.2.2.2.1,r_.1,x_.2.2.2.2.2.1,x_.2.2.2.2.2.2.1,x_.2.2.2.2.2.2.2.1,x_.2.2.2.2.2.2.2.2.1,x_.2.2.2.2.2.2.2.2.2.1,x_.2.2.2.2.2.2.2.2.2.2.1,x_.2.2.2.2.2.2.2.2.2.2.2.1,x_.2.2.2.2.2.2.2.2.2.2.2.2.1,x_.2.2.2.2.2.2.2.2.2.2.2.2.2.1,x_.2.2.2.2.2.2.2.2.2.2.2.2.2.2.1,x_.2.2.2.2.2.2.2.2.2.2.2.2.2.2.2.1,x_.2.2.2.2.2.2.2.2.2.2.2.2.2.2.2.2.1,x_.2.2.2.2.2.2.2.2.2.2.2.2.2.2.2.2.2.1,x_.2.2.2.2.2.2.2.2.2.2.2.2.2.2.2.2.2.2.1,x_.2.2.2.2.2.2.2.2.2.2.2.2.2.2.2.2.2.2.2.1,x_.2.2.2.2.2.2.2.2.2.2.2.2.2.2.2.2.2.2.2.2.1,r_.2,x_.2.2.2.2.2.2.2.2.2.2.2.2.2.2.2.2.2.2.2.2.2.2)))
def ji (a:(Int)×((Int)×(List ((Int)×((Int)×((List Int)×((Int)×((Int)×(List Int))))))))) (b:(Int)×((Int)×(List ((Int)×((Int)×((List Int)×((Int)×((Int)×(List Int))))))))):Option ((Int)×(Int)×((Int)×(Int))×(List ((Int)×((Int)×((List Int)×((Int)×((Int)×(List Int)))))))×Unit):=
  bnd (W.jC (a.1,a.2.1,a.2.2)) fun y=>
  br (y.1 != (0:Int))
   (bnd (W.ji.c3 some) fun y_1=>
    some ((0:Int),(0:Int),(y.1,y.2),[],()))
   (bnd (W.jC (b.1,b.2.1,b.2.2)) fun y_2=>
    br (y_2.1 != (0:Int))
     (bnd (W.ji.c6 some) fun y_3=>
      some ((0:Int),(0:Int),(y_2.1,y_2.2),[],()))
     (bnd (W.ji.c7 a.1 a.2.1 b.1 b.2.1 some) fun y_4=>
      br y_4
       (bnd (W.Jr (16:Int) (0:Int)) fun y_5=>
        some ((0:Int),(0:Int),(y_5.1,y_5.2),[],()))
       (br (decide (IntKind.i64.wrap ((↑(List.length a.2.2):Int)+(↑(List.length b.2.2):Int)) > (4096:Int)))
         (bnd (W.Jr (2:Int) (0:Int)) fun y_6=>
          some ((0:Int),(0:Int),(y_6.1,y_6.2),[],()))
         (bnd (W.jy (a.1,a.2.1,a.2.2)) fun y_7=>
          bnd (iter (fun s↦W.ji.c100013 b.2.2 (↑(List.length b.2.2):Int) s.1 s.2 some) ((0:Int),y_7.2.2.1)) fun y_8=>
          some (y_7.1,y_7.2.1,((0:Int),(0:Int)),y_8.2,())))))
def ji.mc:MCallee:=⟨21,ji.pre,ji.post,fun x_=>ji x_.1 x_.2.1⟩
def ji.G:Env:=⟨68,tab,[(14,jC.ce),(40,Jr.ce)],[0,1,2,3,4,5,6,7,8,10,15,22,36,46,52,53,54,55],[4,8,16,23,37,47,61,62,2050,2061,3004,3008,5061,30000062,30003004,30003008],[(15,[⟨[],[],[60,61,62],[2061,5061,62]⟩,⟨[0],[],[60,61,62],[2061,5061,62]⟩,⟨[],[],[58,59],[]⟩,⟨[2],[2061,5061],[58,59],[]⟩,⟨[3,2],[2061,5061,62],[58,59],[]⟩,⟨[1,0,4,3,2],[2050,62],[],[]⟩,⟨[0,1,2,3,4,5],[],[],[]⟩,⟨[6,0,1,2,3,4,5],[8],[],[]⟩]),
  (6,[⟨[],[],[24],[]⟩,⟨[],[],[23],[3004,4]⟩,⟨[0],[3004,4],[24],[]⟩,⟨[1,2,0],[5],[],[]⟩]),
  (3,[⟨[],[],[17],[]⟩,⟨[],[],[16],[3004,4]⟩,⟨[0],[3004,4],[17],[]⟩,⟨[1,2,0],[5],[],[]⟩])],[(100013,ji.c100013r),(15,ji.c15r),(7,ji.c7r),(6,ji.c6r),(3,ji.c3r)],[(46,jy.mc),(45,jA.mc)],Jf,[]⟩
theorem ji.eq (x_:densU ji.mc.pre.tys):denM ji.G Tryd.f21 ji.mc.pre ji.mc.post x_=ji.mc.F x_:=by kernel_rfl
theorem ji.p0:PcA ji.G Tryd.f21 0:=
  jG (s:=ji.c3r) (by kernel_rfl) (by kernel_rfl) (jF (sh:=ji.c3s) (fun ρ x_ k_=>jc) (fun ρ x_ t k=>(by kernel_rfl)) (fun x_=>by kernel_rfl))
theorem ji.p1:PcA ji.G Tryd.f21 1:=
  jG (s:=ji.c6r) (by kernel_rfl) (by kernel_rfl) (jF (sh:=ji.c6s) (fun ρ x_ k_=>jc) (fun ρ x_ t k=>(by kernel_rfl)) (fun x_=>by kernel_rfl))
theorem ji.p2:PcA ji.G Tryd.f21 2:=
  jG (s:=ji.c7r) (by kernel_rfl) (by kernel_rfl) (jF (sh:=ji.c7s) (fun ρ x_ k_=>(jw jc jc)) (fun ρ x_ t k=>(by kernel_rfl)) (fun x_=>by kernel_rfl))
theorem ji.p3:PcA ji.G Tryd.f21 3:=
  JA (s:=ji.c100013r) (by kernel_rfl) (by kernel_rfl) (Jt (sh:=ji.c100013s) (I:=fun x_ s_=>(x_.1,x_.2.1,x_.2.2.1,x_.2.2.2.1,s_.1,x_.2.2.2.2.2.1,x_.2.2.2.2.2.2.1,x_.2.2.2.2.2.2.2.1,x_.2.2.2.2.2.2.2.2.1,x_.2.2.2.2.2.2.2.2.2.1,x_.2.2.2.2.2.2.2.2.2.2.1,x_.2.2.2.2.2.2.2.2.2.2.2.1,x_.2.2.2.2.2.2.2.2.2.2.2.2.1,x_.2.2.2.2.2.2.2.2.2.2.2.2.2.1,x_.2.2.2.2.2.2.2.2.2.2.2.2.2.2.1,x_.2.2.2.2.2.2.2.2.2.2.2.2.2.2.2.1,x_.2.2.2.2.2.2.2.2.2.2.2.2.2.2.2.2.1,x_.2.2.2.2.2.2.2.2.2.2.2.2.2.2.2.2.2.1,x_.2.2.2.2.2.2.2.2.2.2.2.2.2.2.2.2.2.2.1,x_.2.2.2.2.2.2.2.2.2.2.2.2.2.2.2.2.2.2.2.1,x_.2.2.2.2.2.2.2.2.2.2.2.2.2.2.2.2.2.2.2.2.1,s_.2,x_.2.2.2.2.2.2.2.2.2.2.2.2.2.2.2.2.2.2.2.2.2.2)) (fun x_=>rfl) (fun ρ x_ s_ k_=>(jw (je fun _=>(je fun _=>jc)) jc)) (fun ρ x_ t k=>(by kernel_rfl)) (fun x_ s=>by kernel_rfl))
theorem ji.p4:PcA ji.G Tryd.f21 4:=
  jG (s:=ji.c15r) (by kernel_rfl) (by kernel_rfl) (jF (sh:=ji.c15s) (fun ρ x_ k_=>(je fun _=>(je fun _=>jc))) (fun ρ x_ t k=>(by kernel_rfl)) (fun x_=>by kernel_rfl))
theorem ji.ok:MOk Tryd.prog 21 ji.mc:=kb (G:=ji.G) Js mixed Tryd.func21 ⟨(Ja jC.ok (Ja Jr.ok Je)),(Jj jy.ok (Jj jA.ok jU)),jO,jT⟩ (m:=5) (by kernel_rfl) ⟨⟨⟨⟨⟨trivial,ji.p0⟩,ji.p1⟩,ji.p2⟩,ji.p3⟩,ji.p4⟩ (by kernel_rfl) ji.eq
abbrev co36:SO:=.box [.val (.int .i64),.val (.int .i64),.down 2054 0]
def jd.pre:Shape:=⟨[(0,co9),(1,co9)],[]⟩
def jd.post:Shape:=⟨[(0,co11),(1,co21)],[(2,co12)]⟩
def jd.c208197 {ρ:Type} (b0:Int) (b1:Int) (b2:List ((Int)×((Int)×((List Int)×((Int)×((Int)×(List Int))))))) (f0:Int) (f1:Int) (k_:(Int)×(Int)→Option ρ):Option ρ:=
  br (f0 == (0:Int))
   (bnd (W.jL (b0,b1,b2)) fun y=>
    k_ (y.1,y.2))
   (k_ (f0,f1))
def jd.c208197s:Shape:=⟨[(0,co9),(1,co9),(2,co4),(3,co22),(4,co13),(5,co14),(6,co26)],[(2,co18),(3,co18),(4,co19),(5,co24),(6,co24),(3004,co12)]⟩
def jd.c208197x0:Shape:=jd.c208197s
def jd.c208197r:Ck:=Ck.of (T:=(Int)×(Int)) jd.c208197s (fun ρ x_ k_=>jd.c208197 x_.2.2.2.2.2.1 x_.2.2.2.2.2.2.1 x_.2.2.2.2.2.2.2.1 x_.2.2.2.2.2.2.2.2.2.2.2.2.1 x_.2.2.2.2.2.2.2.2.2.2.2.2.2.1 k_) (fun ρ x_ r_ k_=>k_ 0 (Shape.inj jd.c208197x0 (x_.1,x_.2.1,x_.2.2.1,x_.2.2.2.1,x_.2.2.2.2.1,x_.2.2.2.2.2.1,x_.2.2.2.2.2.2.1,x_.2.2.2.2.2.2.2.1,x_.2.2.2.2.2.2.2.2.1,x_.2.2.2.2.2.2.2.2.2.1,x_.2.2.2.2.2.2.2.2.2.2.1,x_.2.2.2.2.2.2.2.2.2.2.2.1,r_.1,r_.2,x_.2.2.2.2.2.2.2.2.2.2.2.2.2.2)))
def jd.c4 {ρ:Type} (a0:Int) (a1:Int) (b0:Int) (b1:Int) (f0:Int) (k_:Bool→Option ρ):Option ρ:=
  br (f0 == (0:Int))
   (br (a0 != b0)
     (k_ true)
     (k_ (a1 != b1)))
   (k_ false)
def jd.c4s:Shape:=jd.c208197s
def jd.c4x0:Shape:=⟨[(0,co9),(1,co9),(2,co4),(3,co22),(4,co13),(5,co14),(6,co26),(32,co27)],[(2,co18),(3,co18),(4,co19),(5,co24),(6,co24),(3004,co12)]⟩
def jd.c4r:Ck:=Ck.of (T:=Bool) jd.c4s (fun ρ x_ k_=>jd.c4 x_.2.2.1 x_.2.2.2.1 x_.2.2.2.2.2.1 x_.2.2.2.2.2.2.1 x_.2.2.2.2.2.2.2.2.2.2.2.2.1 k_) (fun ρ x_ r_ k_=>k_ 0 (Shape.inj jd.c4x0 (x_.1,x_.2.1,r_,x_.2.2)))
def jd.c216389 {ρ:Type} (a0:Int) (a1:Int) (b0:Int) (b1:Int) (f0:Int) (f1:Int) (k_:(Int)×(Int)→Option ρ):Option ρ:=
  bnd (W.jd.c4 a0 a1 b0 b1 f0 some) fun y=>
  br y
   (bnd (W.JE (16:Int) (0:Int)) fun y_1=>
    k_ (y_1.1,y_1.2))
   (k_ (f0,f1))
def jd.c216389s:Shape:=jd.c208197s
def jd.c216389x0:Shape:=jd.c208197s
def jd.c216389r:Ck:=Ck.of (T:=(Int)×(Int)) jd.c216389s (fun ρ x_ k_=>jd.c216389 x_.2.2.1 x_.2.2.2.1 x_.2.2.2.2.2.1 x_.2.2.2.2.2.2.1 x_.2.2.2.2.2.2.2.2.2.2.2.2.1 x_.2.2.2.2.2.2.2.2.2.2.2.2.2.1 k_) (fun ρ x_ r_ k_=>k_ 0 (Shape.inj jd.c216389x0 (x_.1,x_.2.1,x_.2.2.1,x_.2.2.2.1,x_.2.2.2.2.1,x_.2.2.2.2.2.1,x_.2.2.2.2.2.2.1,x_.2.2.2.2.2.2.2.1,x_.2.2.2.2.2.2.2.2.1,x_.2.2.2.2.2.2.2.2.2.1,x_.2.2.2.2.2.2.2.2.2.2.1,x_.2.2.2.2.2.2.2.2.2.2.2.1,r_.1,r_.2,x_.2.2.2.2.2.2.2.2.2.2.2.2.2.2)))
def jd.c6 {ρ:Type} (a2:List ((Int)×((Int)×((List Int)×((Int)×((Int)×(List Int))))))) (b2:List ((Int)×((Int)×((List Int)×((Int)×((Int)×(List Int))))))) (f0:Int) (k_:Bool→Option ρ):Option ρ:=
  br (f0 == (0:Int))
   (k_ (decide (IntKind.i64.wrap ((↑(List.length a2):Int)+(↑(List.length b2):Int)) > (4096:Int))))
   (k_ false)
def jd.c6s:Shape:=jd.c208197s
def jd.c6x0:Shape:=⟨[(0,co9),(1,co9),(2,co4),(3,co22),(4,co13),(5,co14),(6,co26),(46,co27)],[(2,co18),(3,co18),(4,co19),(5,co24),(6,co24),(3004,co12)]⟩
def jd.c6r:Ck:=Ck.of (T:=Bool) jd.c6s (fun ρ x_ k_=>jd.c6 x_.2.2.2.2.1 x_.2.2.2.2.2.2.2.1 x_.2.2.2.2.2.2.2.2.2.2.2.2.1 k_) (fun ρ x_ r_ k_=>k_ 0 (Shape.inj jd.c6x0 (x_.1,x_.2.1,r_,x_.2.2)))
def jd.c224581 {ρ:Type} (a2:List ((Int)×((Int)×((List Int)×((Int)×((Int)×(List Int))))))) (b2:List ((Int)×((Int)×((List Int)×((Int)×((Int)×(List Int))))))) (f0:Int) (f1:Int) (k_:(Int)×(Int)→Option ρ):Option ρ:=
  bnd (W.jd.c6 a2 b2 f0 some) fun y=>
  br y
   (bnd (W.JE (2:Int) (0:Int)) fun y_1=>
    k_ (y_1.1,y_1.2))
   (k_ (f0,f1))
def jd.c224581s:Shape:=jd.c208197s
def jd.c224581x0:Shape:=jd.c208197s
def jd.c224581r:Ck:=Ck.of (T:=(Int)×(Int)) jd.c224581s (fun ρ x_ k_=>jd.c224581 x_.2.2.2.2.1 x_.2.2.2.2.2.2.2.1 x_.2.2.2.2.2.2.2.2.2.2.2.2.1 x_.2.2.2.2.2.2.2.2.2.2.2.2.2.1 k_) (fun ρ x_ r_ k_=>k_ 0 (Shape.inj jd.c224581x0 (x_.1,x_.2.1,x_.2.2.1,x_.2.2.2.1,x_.2.2.2.2.1,x_.2.2.2.2.2.1,x_.2.2.2.2.2.2.1,x_.2.2.2.2.2.2.2.1,x_.2.2.2.2.2.2.2.2.1,x_.2.2.2.2.2.2.2.2.2.1,x_.2.2.2.2.2.2.2.2.2.2.1,x_.2.2.2.2.2.2.2.2.2.2.2.1,r_.1,r_.2,x_.2.2.2.2.2.2.2.2.2.2.2.2.2.2)))
def jd.c9 {ρ:Type}  (k_:Unit→Option ρ):Option ρ:=
  k_ ()
def jd.c9s:Shape:=jd.c208197s
def jd.c9x0:Shape:=jd.c208197s
def jd.c9r:Ck:=Ck.of (T:=Unit) jd.c9s (fun ρ x_ k_=>jd.c9  k_) (fun ρ x_ r_ k_=>k_ 0 (Shape.inj jd.c9x0 (x_.1,x_.2.1,x_.2.2.1,x_.2.2.2.1,x_.2.2.2.2.1,x_.2.2.2.2.2.1,x_.2.2.2.2.2.2.1,x_.2.2.2.2.2.2.2.1,(0:Int),(0:Int),x_.2.2.2.2.2.2.2.2.2.2.2.2.1,x_.2.2.2.2.2.2.2.2.2.2.2.2.2.1,x_.2.2.2.2.2.2.2.2.2.2.2.2.1,x_.2.2.2.2.2.2.2.2.2.2.2.2.2.1,[],())))
def jd.c14 {ρ:Type} (i:Int) (b2:List ((Int)×((Int)×((List Int)×((Int)×((Int)×(List Int))))))) (t2054:List ((Int)×((Int)×((List Int)×((Int)×((Int)×(List Int))))))) (k_:List ((Int)×((Int)×((List Int)×((Int)×((Int)×(List Int))))))→Option ρ):Option ρ:=
  bnd (idx b2 i) fun y=>
  bnd (W.Jg y) fun y_1=>
  bnd (okIf (decide ((List.length t2054+(1:Nat))*(80:Nat)≤(140737488355328:Nat)) && decide (List.length t2054+(1:Nat)≤(140737488355328:Nat)))) fun y_2=>
  k_ (t2054++[(y_1.1,y_1.2.1,y_1.2.2.2.2.1,y_1.2.2.1,y_1.2.2.2.1,y_1.2.2.2.2.2.1)])
def jd.c14s:Shape:=⟨[(0,co9),(1,co9),(2,co4),(3,co22),(4,co13),(5,co14),(6,co26),(7,co15),(8,co17)],[(2,co18),(3,co18),(4,co19),(5,co24),(6,co24),(7,co36),(2054,co12),(3004,co12),(3007,co12)]⟩
def jd.c14x0:Shape:=⟨[(0,co9),(1,co9),(2,co4),(3,co22),(4,co13),(5,co14),(6,co26),(7,co15),(8,co17)],[(2,co18),(3,co18),(4,co19),(5,co24),(6,co24),(7,co36),(70,.gone),(2054,co12),(2069,.gone),(3004,co12),(3007,co12),(5069,.gone)]⟩
def jd.c14r:Ck:=Ck.of (T:=List ((Int)×((Int)×((List Int)×((Int)×((Int)×(List Int))))))) jd.c14s (fun ρ x_ k_=>jd.c14 x_.2.2.1 x_.2.2.2.2.2.2.2.2.1 x_.2.2.2.2.2.2.2.2.2.2.2.2.2.2.2.2.2.1 k_) (fun ρ x_ r_ k_=>k_ 0 (Shape.inj jd.c14x0 (x_.1,x_.2.1,x_.2.2.1,x_.2.2.2.1,x_.2.2.2.2.1,x_.2.2.2.2.2.1,x_.2.2.2.2.2.2.1,x_.2.2.2.2.2.2.2.1,x_.2.2.2.2.2.2.2.2.1,x_.2.2.2.2.2.2.2.2.2.1,x_.2.2.2.2.2.2.2.2.2.2.1,x_.2.2.2.2.2.2.2.2.2.2.2.1,x_.2.2.2.2.2.2.2.2.2.2.2.2.1,x_.2.2.2.2.2.2.2.2.2.2.2.2.2.1,x_.2.2.2.2.2.2.2.2.2.2.2.2.2.2.1,x_.2.2.2.2.2.2.2.2.2.2.2.2.2.2.2.1,x_.2.2.2.2.2.2.2.2.2.2.2.2.2.2.2.2.1,r_,x_.2.2.2.2.2.2.2.2.2.2.2.2.2.2.2.2.2.2)))
def jd.c100012 {ρ:Type} (i:Int) (b2:List ((Int)×((Int)×((List Int)×((Int)×((Int)×(List Int))))))) (t2054:List ((Int)×((Int)×((List Int)×((Int)×((Int)×(List Int))))))) (k_:((Int)×(List ((Int)×((Int)×((List Int)×((Int)×((Int)×(List Int))))))))⊕((Int)×(List ((Int)×((Int)×((List Int)×((Int)×((Int)×(List Int))))))))→Option ρ):Option ρ:=
  br (decide (i < (↑(List.length b2):Int)))
   (bnd (W.jd.c14 i b2 t2054 some) fun y=>
    k_ (.inl ((IntKind.i64.wrap (i+(1:Int))),y)))
   (k_ (.inr (i,t2054)))
def jd.c100012s:Shape:=jd.c14s
def jd.c100012x0:Shape:=jd.c14s
def jd.c100012r:Ck:=Ck.ofLoop (S:=(Int)×(List ((Int)×((Int)×((List Int)×((Int)×((Int)×(List Int)))))))) (T:=(Int)×(List ((Int)×((Int)×((List Int)×((Int)×((Int)×(List Int)))))))) jd.c100012s (fun x_=>(x_.2.2.1,x_.2.2.2.2.2.2.2.2.2.2.2.2.2.2.2.2.2.1)) (fun ρ x_ s_ k_=>jd.c100012 s_.1 x_.2.2.2.2.2.2.2.2.1 s_.2 k_) (fun ρ x_ r_ k_=>k_ 2 (Shape.inj jd.c100012x0 (x_.1,x_.2.1,r_.1,x_.2.2.2.1,x_.2.2.2.2.1,x_.2.2.2.2.2.1,x_.2.2.2.2.2.2.1,x_.2.2.2.2.2.2.2.1,x_.2.2.2.2.2.2.2.2.1,x_.2.2.2.2.2.2.2.2.2.1,x_.2.2.2.2.2.2.2.2.2.2.1,x_.2.2.2.2.2.2.2.2.2.2.2.1,x_.2.2.2.2.2.2.2.2.2.2.2.2.1,x_.2.2.2.2.2.2.2.2.2.2.2.2.2.1,x_.2.2.2.2.2.2.2.2.2.2.2.2.2.2.1,x_.2.2.2.2.2.2.2.2.2.2.2.2.2.2.2.1,x_.2.2.2.2.2.2.2.2.2.2.2.2.2.2.2.2.1,r_.2,x_.2.2.2.2.2.2.2.2.2.2.2.2.2.2.2.2.2.2)))
def jd.c15 {ρ:Type}  (k_:Unit→Option ρ):Option ρ:=
  k_ ()
def jd.c15s:Shape:=jd.c14s
def jd.c15x0:Shape:=⟨[(0,co9),(1,co9),(2,co4),(3,co22),(4,co13),(5,co14),(6,co26),(7,co15),(8,co17)],[(2,co18),(3,co18),(4,co36),(5,co24),(6,co24),(7,co36),(2054,co12),(3004,co12),(3007,co12)]⟩
def jd.c15r:Ck:=Ck.of (T:=Unit) jd.c15s (fun ρ x_ k_=>jd.c15  k_) (fun ρ x_ r_ k_=>k_ 0 (Shape.inj jd.c15x0 (x_.1,x_.2.1,x_.2.2.1,x_.2.2.2.1,x_.2.2.2.2.1,x_.2.2.2.2.2.1,x_.2.2.2.2.2.2.1,x_.2.2.2.2.2.2.2.1,x_.2.2.2.2.2.2.2.2.1,x_.2.2.2.2.2.2.2.2.2.2.2.2.2.2.2.1,x_.2.2.2.2.2.2.2.2.2.2.2.2.2.2.2.2.1,x_.2.2.2.2.2.2.2.2.2.2.2.2.2.1,x_.2.2.2.2.2.2.2.2.2.2.2.2.2.2.1,x_.2.2.2.2.2.2.2.2.2.2.2.2.2)))
def jd (a:(Int)×((Int)×(List ((Int)×((Int)×((List Int)×((Int)×((Int)×(List Int))))))))) (b:(Int)×((Int)×(List ((Int)×((Int)×((List Int)×((Int)×((Int)×(List Int))))))))):Option ((Int)×(Int)×((Int)×(Int))×(List ((Int)×((Int)×((List Int)×((Int)×((Int)×(List Int)))))))×Unit):=
  bnd (W.jL (a.1,a.2.1,a.2.2)) fun y=>
  bnd (W.jd.c208197 b.1 b.2.1 b.2.2 y.1 y.2 some) fun y_1=>
  bnd (W.jd.c216389 a.1 a.2.1 b.1 b.2.1 y_1.1 y_1.2 some) fun y_2=>
  bnd (W.jd.c224581 a.2.2 b.2.2 y_2.1 y_2.2 some) fun y_3=>
  br (y_3.1 != (0:Int))
   (bnd (W.jd.c9 some) fun y_4=>
    some ((0:Int),(0:Int),(y_3.1,y_3.2),[],()))
   (bnd (W.js (a.1,a.2.1,a.2.2)) fun y_5=>
    bnd (iter (fun s↦W.jd.c100012 s.1 b.2.2 s.2 some) ((0:Int),y_5.2.2.1)) fun y_6=>
    bnd (W.jd.c15 some) fun y_7=>
    some (y_5.1,y_5.2.1,(y_3.1,y_3.2),y_6.2,()))
def jd.mc:MCallee:=⟨22,jd.pre,jd.post,fun x_=>jd x_.1 x_.2.1⟩
def jd.G:Env:=⟨75,tab,[(15,jL.ce),(42,JE.ce)],[0,1,2,3,4,5,6,7,8,13,32,46,50,59],[4,7,51,69,70,2054,2069,3004,3007,5069,30000070,30003004,30003007],[(15,[⟨[],[],[74],[]⟩,⟨[],[],[73],[4]⟩,⟨[0],[4],[74],[]⟩,⟨[1,2,0],[5],[],[]⟩]),
  (14,[⟨[],[],[64,65,66,67,68,69,70],[2069,5069,70]⟩,⟨[0],[],[64,65,66,67,68,69,70],[2069,5069,70]⟩,⟨[],[],[62,63,66],[]⟩,⟨[2],[],[62,63,66],[]⟩,⟨[],[],[62,63,64,65],[]⟩,⟨[3,2,4],[],[62,63],[]⟩,⟨[5,3,2,4],[],[62,63],[]⟩,⟨[6,5,3,2,4],[2069,5069],[62,63],[]⟩,⟨[7,6,5,3,2,4],[2069,5069,70],[62,63],[]⟩,⟨[1,0,8,7,6,5,3,2,4],[2054,70],[],[]⟩,⟨[0,1,2,3,4,5,6,7,8,9],[],[],[]⟩,⟨[10,0,1,2,3,4,5,6,7,8,9],[7],[],[]⟩]),
  (9,[⟨[],[],[52],[]⟩,⟨[],[],[51],[3004,4]⟩,⟨[0],[3004,4],[52],[]⟩,⟨[1,2,0],[5],[],[]⟩])],[(15,jd.c15r),(100012,jd.c100012r),(14,jd.c14r),(9,jd.c9r),(224581,jd.c224581r),(6,jd.c6r),(216389,jd.c216389r),(4,jd.c4r),(208197,jd.c208197r)],[(11,js.mc),(37,Jg.mc)],Jf,[]⟩
theorem jd.eq (x_:densU jd.mc.pre.tys):denM jd.G Tryd.f22 jd.mc.pre jd.mc.post x_=jd.mc.F x_:=by kernel_rfl
theorem jd.p0:PcA jd.G Tryd.f22 0:=
  kn (s:=jd.c208197r) (by kernel_rfl) (by kernel_rfl) (jF (sh:=jd.c208197s) (fun ρ x_ k_=>(jw (je fun _=>jc) jc)) (fun ρ x_ t k=>(by kernel_rfl)) (fun x_=>by kernel_rfl))
theorem jd.p1:PcA jd.G Tryd.f22 1:=
  kn (s:=jd.c216389r) (by kernel_rfl) (by kernel_rfl) (jF (sh:=jd.c216389s) (fun ρ x_ k_=>(je fun _=>(jw (je fun _=>jc) jc))) (fun ρ x_ t k=>(by kernel_rfl)) (fun x_=>by kernel_rfl))
theorem jd.p2:PcA jd.G Tryd.f22 2:=
  jG (s:=jd.c4r) (by kernel_rfl) (by kernel_rfl) (jF (sh:=jd.c4s) (fun ρ x_ k_=>(jw (jw jc jc) jc)) (fun ρ x_ t k=>(by kernel_rfl)) (fun x_=>by kernel_rfl))
theorem jd.p3:PcA jd.G Tryd.f22 3:=
  kn (s:=jd.c224581r) (by kernel_rfl) (by kernel_rfl) (jF (sh:=jd.c224581s) (fun ρ x_ k_=>(je fun _=>(jw (je fun _=>jc) jc))) (fun ρ x_ t k=>(by kernel_rfl)) (fun x_=>by kernel_rfl))
theorem jd.p4:PcA jd.G Tryd.f22 4:=
  jG (s:=jd.c6r) (by kernel_rfl) (by kernel_rfl) (jF (sh:=jd.c6s) (fun ρ x_ k_=>(jw jc jc)) (fun ρ x_ t k=>(by kernel_rfl)) (fun x_=>by kernel_rfl))
theorem jd.p5:PcA jd.G Tryd.f22 5:=
  jG (s:=jd.c9r) (by kernel_rfl) (by kernel_rfl) (jF (sh:=jd.c9s) (fun ρ x_ k_=>jc) (fun ρ x_ t k=>(by kernel_rfl)) (fun x_=>by kernel_rfl))
theorem jd.p6:PcA jd.G Tryd.f22 6:=
  JA (s:=jd.c100012r) (by kernel_rfl) (by kernel_rfl) (Jt (sh:=jd.c100012s) (I:=fun x_ s_=>(x_.1,x_.2.1,s_.1,x_.2.2.2.1,x_.2.2.2.2.1,x_.2.2.2.2.2.1,x_.2.2.2.2.2.2.1,x_.2.2.2.2.2.2.2.1,x_.2.2.2.2.2.2.2.2.1,x_.2.2.2.2.2.2.2.2.2.1,x_.2.2.2.2.2.2.2.2.2.2.1,x_.2.2.2.2.2.2.2.2.2.2.2.1,x_.2.2.2.2.2.2.2.2.2.2.2.2.1,x_.2.2.2.2.2.2.2.2.2.2.2.2.2.1,x_.2.2.2.2.2.2.2.2.2.2.2.2.2.2.1,x_.2.2.2.2.2.2.2.2.2.2.2.2.2.2.2.1,x_.2.2.2.2.2.2.2.2.2.2.2.2.2.2.2.2.1,s_.2,x_.2.2.2.2.2.2.2.2.2.2.2.2.2.2.2.2.2.2)) (fun x_=>rfl) (fun ρ x_ s_ k_=>(jw (je fun _=>jc) jc)) (fun ρ x_ t k=>(by kernel_rfl)) (fun x_ s=>by kernel_rfl))
theorem jd.p7:PcA jd.G Tryd.f22 7:=
  jG (s:=jd.c14r) (by kernel_rfl) (by kernel_rfl) (jF (sh:=jd.c14s) (fun ρ x_ k_=>(je fun _=>(je fun _=>(je fun _=>jc)))) (fun ρ x_ t k=>(by kernel_rfl)) (fun x_=>by kernel_rfl))
theorem jd.p8:PcA jd.G Tryd.f22 8:=
  jG (s:=jd.c15r) (by kernel_rfl) (by kernel_rfl) (jF (sh:=jd.c15s) (fun ρ x_ k_=>jc) (fun ρ x_ t k=>(by kernel_rfl)) (fun x_=>by kernel_rfl))
theorem jd.ok:MOk Tryd.prog 22 jd.mc:=kb (G:=jd.G) Js mixed Tryd.func22 ⟨(Ja jL.ok (Ja JE.ok Je)),(Jj js.ok (Jj Jg.ok jU)),jO,jT⟩ (m:=9) (by kernel_rfl) ⟨⟨⟨⟨⟨⟨⟨⟨⟨trivial,jd.p0⟩,jd.p1⟩,jd.p2⟩,jd.p3⟩,jd.p4⟩,jd.p5⟩,jd.p6⟩,jd.p7⟩,jd.p8⟩ (by kernel_rfl) jd.eq
abbrev co37:SD:=.one (.ref 1000100 0)
abbrev co38:SO:=.box [.val (.sl (.int .i64))]
abbrev co39:SO:=.box [.val (.int .i64),.val (.int .i64),.own 1000003 0,.val (.int .i64),.val (.int .i64),.own 1000006 0]
abbrev co40:SD:=.one (.own 1000003 0)
def jr.pre:Shape:=⟨[(0,co8),(1,co37)],[(1000003,co2),(1000006,co2),(1000100,co38)]⟩
def jr.post:Shape:=⟨[(0,co8)],[(1000003,co2),(1000006,co2),(1000100,co38)]⟩
def jr.c204101 {ρ:Type} (o0_1:Int) (o3_1:Int) (t10001000:List (Int)) (k_:Int→Option ρ):Option ρ:=
  br (o0_1 != (1:Int))
   (bnd (idx t10001000 o3_1) fun y=>
    k_ y)
   (k_ o3_1)
def jr.c204101s:Shape:=⟨[(0,co8),(1,co37),(2,co4),(3,co22)],[(2,co39),(3,co5),(1000003,co2),(1000006,co2),(1000100,co38)]⟩
def jr.c204101x0:Shape:=jr.c204101s
def jr.c204101r:Ck:=Ck.of (T:=Int) jr.c204101s (fun ρ x_ k_=>jr.c204101 x_.2.2.2.2.1 x_.2.2.2.2.2.2.1 x_.2.2.2.2.2.2.2.2.2.2.2.2.2.2.2.2.1 k_) (fun ρ x_ r_ k_=>k_ 0 (Shape.inj jr.c204101x0 (x_.1,x_.2.1,x_.2.2.1,x_.2.2.2.1,x_.2.2.2.2.1,x_.2.2.2.2.2.1,r_,x_.2.2.2.2.2.2.2)))
def jr.c6 {ρ:Type} (i:Int) (q:Int) (t1000003:List (Int)) (t10001000:List (Int)) (k_:List (Int)→Option ρ):Option ρ:=
  bnd (idx t10001000 q) fun y=>
  bnd (inR (List.length t1000003) i) fun y_1=>
  bnd (idx t1000003 i) fun y_2=>
  k_ (List.set t1000003 (Int.toNat i) y)
def jr.c6s:Shape:=⟨[(0,co8),(1,co37),(2,co4),(3,co22),(4,co17),(5,co17),(16,co40),(17,co17),(18,co17)],[(2,co39),(3,co5),(1000003,co2),(1000006,co2),(1000100,co38)]⟩
def jr.c6x0:Shape:=jr.c6s
def jr.c6r:Ck:=Ck.of (T:=List (Int)) jr.c6s (fun ρ x_ k_=>jr.c6 x_.2.2.2.2.1 x_.2.2.2.2.2.1 x_.2.2.2.2.2.2.2.2.2.2.2.2.2.2.2.2.2.2.1 x_.2.2.2.2.2.2.2.2.2.2.2.2.2.2.2.2.2.2.2.2.1 k_) (fun ρ x_ r_ k_=>k_ 0 (Shape.inj jr.c6x0 (x_.1,x_.2.1,x_.2.2.1,x_.2.2.2.1,x_.2.2.2.2.1,x_.2.2.2.2.2.1,x_.2.2.2.2.2.2.1,x_.2.2.2.2.2.2.2.1,x_.2.2.2.2.2.2.2.2.1,x_.2.2.2.2.2.2.2.2.2.1,x_.2.2.2.2.2.2.2.2.2.2.1,x_.2.2.2.2.2.2.2.2.2.2.2.1,x_.2.2.2.2.2.2.2.2.2.2.2.2.1,x_.2.2.2.2.2.2.2.2.2.2.2.2.2.1,x_.2.2.2.2.2.2.2.2.2.2.2.2.2.2.1,x_.2.2.2.2.2.2.2.2.2.2.2.2.2.2.2.1,x_.2.2.2.2.2.2.2.2.2.2.2.2.2.2.2.2.1,x_.2.2.2.2.2.2.2.2.2.2.2.2.2.2.2.2.2.1,r_,x_.2.2.2.2.2.2.2.2.2.2.2.2.2.2.2.2.2.2.2)))
def jr.c100004 {ρ:Type} (t17:Int) (t18:Int) (t1000003:List (Int)) (t10001000:List (Int)) (k_:((Int)×(List Int))⊕((Int)×(List Int))→Option ρ):Option ρ:=
  br (decide (t18 < t17))
   (bnd (inR (List.length t1000003) t18) fun y=>
    bnd (idx t1000003 t18) fun y_1=>
    bnd (W.jr.c6 t18 y_1 t1000003 t10001000 some) fun y_2=>
    k_ (.inl ((IntKind.i64.wrap (t18+(1:Int))),y_2)))
   (k_ (.inr (t18,t1000003)))
def jr.c100004s:Shape:=⟨[(0,co8),(1,co37),(2,co4),(3,co22),(16,co40),(17,co17),(18,co17)],[(2,co39),(3,co5),(1000003,co2),(1000006,co2),(1000100,co38)]⟩
def jr.c100004x0:Shape:=jr.c100004s
def jr.c100004r:Ck:=Ck.ofLoop (S:=(Int)×(List Int)) (T:=(Int)×(List Int)) jr.c100004s (fun x_=>(x_.2.2.2.2.2.1,x_.2.2.2.2.2.2.2.2.2.2.2.2.2.2.2.2.1)) (fun ρ x_ s_ k_=>jr.c100004 x_.2.2.2.2.1 s_.1 s_.2 x_.2.2.2.2.2.2.2.2.2.2.2.2.2.2.2.2.2.2.1 k_) (fun ρ x_ r_ k_=>k_ 2 (Shape.inj jr.c100004x0 (x_.1,x_.2.1,x_.2.2.1,x_.2.2.2.1,x_.2.2.2.2.1,r_.1,x_.2.2.2.2.2.2.1,x_.2.2.2.2.2.2.2.1,x_.2.2.2.2.2.2.2.2.1,x_.2.2.2.2.2.2.2.2.2.1,x_.2.2.2.2.2.2.2.2.2.2.1,x_.2.2.2.2.2.2.2.2.2.2.2.1,x_.2.2.2.2.2.2.2.2.2.2.2.2.1,x_.2.2.2.2.2.2.2.2.2.2.2.2.2.1,x_.2.2.2.2.2.2.2.2.2.2.2.2.2.2.1,x_.2.2.2.2.2.2.2.2.2.2.2.2.2.2.2.1,r_.2,x_.2.2.2.2.2.2.2.2.2.2.2.2.2.2.2.2.2)))
def jr (o0:Int) (o1:Int) (o3:Int) (o4:Int) (t1000003:List (Int)) (t1000006:List (Int)) (t10001000:List (Int)):Option ((Int)×(Int)×(Int)×(Int)×(List Int)×(List Int)×(List Int)×Unit):=
  bnd (W.jr.c204101 o0 o3 t10001000 some) fun y=>
  bnd (iter (fun s↦W.jr.c100004 (↑(List.length t1000003):Int) s.1 s.2 t10001000 some) ((0:Int),t1000003)) fun y_1=>
  some (o0,o1,y,o4,y_1.2,t1000006,t10001000,())
def jr.mc:MCallee:=⟨53,jr.pre,jr.post,fun x_=>jr x_.1 x_.2.1 x_.2.2.1 x_.2.2.2.1 x_.2.2.2.2.1 x_.2.2.2.2.2.1 x_.2.2.2.2.2.2.1⟩
def jr.G:Env:=⟨33,tab,[],[0,1,2,3,4,5,8,16,17,18,19],[1,2,3001,3002,6001,6002,1000003,1000006],[(6,[⟨[],[],[25,26,27,28,29],[]⟩,⟨[0],[],[25,26,27,28,29],[]⟩,⟨[],[],[23,24,26,27,28,29],[]⟩,⟨[],[],[23,24,25,27],[]⟩,⟨[],[],[23,24,25,26],[]⟩,⟨[3,4],[],[23,24,25],[]⟩,⟨[5,3,4],[],[23,24,25],[]⟩,⟨[1,0,2,3,4,5,6],[],[],[]⟩,⟨[7,1,0,2,3,4,5,6],[1000003],[],[]⟩])],[(100004,jr.c100004r),(6,jr.c6r),(204101,jr.c204101r)],[],Jf,[]⟩
theorem jr.eq (x_:densU jr.mc.pre.tys):denM jr.G Tryd.f53 jr.mc.pre jr.mc.post x_=jr.mc.F x_:=by kernel_rfl
theorem jr.p0:PcA jr.G Tryd.f53 0:=
  kn (s:=jr.c204101r) (by kernel_rfl) (by kernel_rfl) (jF (sh:=jr.c204101s) (fun ρ x_ k_=>(jw (je fun _=>jc) jc)) (fun ρ x_ t k=>(by kernel_rfl)) (fun x_=>by kernel_rfl))
theorem jr.p1:PcA jr.G Tryd.f53 1:=
  JA (s:=jr.c100004r) (by kernel_rfl) (by kernel_rfl) (Jt (sh:=jr.c100004s) (I:=fun x_ s_=>(x_.1,x_.2.1,x_.2.2.1,x_.2.2.2.1,x_.2.2.2.2.1,s_.1,x_.2.2.2.2.2.2.1,x_.2.2.2.2.2.2.2.1,x_.2.2.2.2.2.2.2.2.1,x_.2.2.2.2.2.2.2.2.2.1,x_.2.2.2.2.2.2.2.2.2.2.1,x_.2.2.2.2.2.2.2.2.2.2.2.1,x_.2.2.2.2.2.2.2.2.2.2.2.2.1,x_.2.2.2.2.2.2.2.2.2.2.2.2.2.1,x_.2.2.2.2.2.2.2.2.2.2.2.2.2.2.1,x_.2.2.2.2.2.2.2.2.2.2.2.2.2.2.2.1,s_.2,x_.2.2.2.2.2.2.2.2.2.2.2.2.2.2.2.2.2)) (fun x_=>rfl) (fun ρ x_ s_ k_=>(jw (je fun _=>(je fun _=>(je fun _=>jc))) jc)) (fun ρ x_ t k=>(by kernel_rfl)) (fun x_ s=>by kernel_rfl))
theorem jr.p2:PcA jr.G Tryd.f53 2:=
  jG (s:=jr.c6r) (by kernel_rfl) (by kernel_rfl) (jF (sh:=jr.c6s) (fun ρ x_ k_=>(je fun _=>(je fun _=>(je fun _=>jc)))) (fun ρ x_ t k=>(by kernel_rfl)) (fun x_=>by kernel_rfl))
theorem jr.ok:MOk Tryd.prog 53 jr.mc:=kb (G:=jr.G) Js mixed Tryd.func53 ⟨Je,jU,jO,jT⟩ (m:=3) (by kernel_rfl) ⟨⟨⟨trivial,jr.p0⟩,jr.p1⟩,jr.p2⟩ (by kernel_rfl) jr.eq
abbrev co41:SD:=.one (.clo 1000100)
abbrev co42:SO:=.clo 53 [] [.ref 1000101 0]
def jx.pre:Shape:=⟨[(0,co9),(1,co41)],[(1000100,co42),(1000101,co38)]⟩
def jx.post:Shape:=⟨[(0,co11)],[(2,co12),(1000100,co42),(1000101,co38)]⟩
def jx.c5 {ρ:Type} (o0:Int) (o1:Int) (o2:List (Int)) (o3:Int) (o4:Int) (o5:List (Int)) (t3005:List ((Int)×((Int)×((List Int)×((Int)×((Int)×(List Int))))))) (t10001010:List (Int)) (k_:(List ((Int)×((Int)×((List Int)×((Int)×((Int)×(List Int)))))))×(List Int)→Option ρ):Option ρ:=
  bnd (W.jA (o0,o1,o2,o3,o4,o5)) fun y=>
  bnd (W.jr y.1 y.2.1 y.2.2.1 y.2.2.2.1 y.2.2.2.2.1 y.2.2.2.2.2.1 t10001010) fun y_1=>
  bnd (okIf (decide ((List.length t3005+(1:Nat))*(80:Nat)≤(140737488355328:Nat)) && decide (List.length t3005+(1:Nat)≤(140737488355328:Nat)))) fun y_2=>
  k_ ((t3005++[(y_1.1,y_1.2.1,y_1.2.2.2.2.1,y_1.2.2.1,y_1.2.2.2.1,y_1.2.2.2.2.2.1)]),y_1.2.2.2.2.2.2.1)
def jx.c5s:Shape:=⟨[(0,co9),(1,co41),(2,co4),(4,co13),(5,co14),(7,co15),(14,co16),(15,co17),(16,co17)],[(2,co18),(4,co19),(5,co20),(7,co5),(3004,co12),(3005,co12),(1000100,co42),(1000101,co38)]⟩
def jx.c5x0:Shape:=⟨[(0,co9),(1,co41),(2,co4),(4,co13),(5,co14),(7,co15),(14,co16),(15,co17),(16,co17)],[(2,co18),(4,co19),(5,co20),(7,co5),(26,.gone),(2024,.gone),(3004,co12),(3005,co12),(5024,.gone),(1000100,co42),(1000101,co38)]⟩
def jx.c5r:Ck:=Ck.of (T:=(List ((Int)×((Int)×((List Int)×((Int)×((Int)×(List Int)))))))×(List Int)) jx.c5s (fun ρ x_ k_=>jx.c5 x_.2.2.2.2.2.2.2.2.2.2.2.1 x_.2.2.2.2.2.2.2.2.2.2.2.2.1 x_.2.2.2.2.2.2.2.2.2.2.2.2.2.1 x_.2.2.2.2.2.2.2.2.2.2.2.2.2.2.1 x_.2.2.2.2.2.2.2.2.2.2.2.2.2.2.2.1 x_.2.2.2.2.2.2.2.2.2.2.2.2.2.2.2.2.1 x_.2.2.2.2.2.2.2.2.2.2.2.2.2.2.2.2.2.2.1 x_.2.2.2.2.2.2.2.2.2.2.2.2.2.2.2.2.2.2.2.1 k_) (fun ρ x_ r_ k_=>k_ 0 (Shape.inj jx.c5x0 (x_.1,x_.2.1,x_.2.2.1,x_.2.2.2.1,x_.2.2.2.2.1,x_.2.2.2.2.2.1,x_.2.2.2.2.2.2.1,x_.2.2.2.2.2.2.2.1,x_.2.2.2.2.2.2.2.2.1,x_.2.2.2.2.2.2.2.2.2.1,x_.2.2.2.2.2.2.2.2.2.2.1,x_.2.2.2.2.2.2.2.2.2.2.2.1,x_.2.2.2.2.2.2.2.2.2.2.2.2.1,x_.2.2.2.2.2.2.2.2.2.2.2.2.2.1,x_.2.2.2.2.2.2.2.2.2.2.2.2.2.2.1,x_.2.2.2.2.2.2.2.2.2.2.2.2.2.2.2.1,x_.2.2.2.2.2.2.2.2.2.2.2.2.2.2.2.2.1,x_.2.2.2.2.2.2.2.2.2.2.2.2.2.2.2.2.2.1,r_.1,r_.2,())))
def jx.c100003 {ρ:Type} (t14:List ((Int)×((Int)×((List Int)×((Int)×((Int)×(List Int))))))) (t15:Int) (t16:Int) (t3005:List ((Int)×((Int)×((List Int)×((Int)×((Int)×(List Int))))))) (t10001010:List (Int)) (k_:((Int)×(List ((Int)×((Int)×((List Int)×((Int)×((Int)×(List Int)))))))×(List Int))⊕((Int)×(List ((Int)×((Int)×((List Int)×((Int)×((Int)×(List Int)))))))×(List Int))→Option ρ):Option ρ:=
  br (decide (t16 < t15))
   (bnd (idx t14 t16) fun y=>
    bnd (W.jx.c5 y.1 y.2.1 y.2.2.1 y.2.2.2.1 y.2.2.2.2.1 y.2.2.2.2.2 t3005 t10001010 some) fun y_1=>
    k_ (.inl ((IntKind.i64.wrap (t16+(1:Int))),y_1.1,y_1.2)))
   (k_ (.inr (t16,t3005,t10001010)))
def jx.c100003s:Shape:=⟨[(0,co9),(1,co41),(2,co4),(4,co13),(5,co14),(14,co16),(15,co17),(16,co17)],[(2,co18),(4,co19),(5,co20),(3004,co12),(3005,co12),(1000100,co42),(1000101,co38)]⟩
def jx.c100003x0:Shape:=jx.c100003s
def jx.c100003r:Ck:=Ck.ofLoop (S:=(Int)×(List ((Int)×((Int)×((List Int)×((Int)×((Int)×(List Int)))))))×(List Int)) (T:=(Int)×(List ((Int)×((Int)×((List Int)×((Int)×((Int)×(List Int)))))))×(List Int)) jx.c100003s (fun x_=>(x_.2.2.2.1,x_.2.2.2.2.2.2.2.2.2.2.2.2.1,x_.2.2.2.2.2.2.2.2.2.2.2.2.2.1)) (fun ρ x_ s_ k_=>jx.c100003 x_.2.1 x_.2.2.1 s_.1 s_.2.1 s_.2.2 k_) (fun ρ x_ r_ k_=>k_ 2 (Shape.inj jx.c100003x0 (x_.1,x_.2.1,x_.2.2.1,r_.1,x_.2.2.2.2.1,x_.2.2.2.2.2.1,x_.2.2.2.2.2.2.1,x_.2.2.2.2.2.2.2.1,x_.2.2.2.2.2.2.2.2.1,x_.2.2.2.2.2.2.2.2.2.1,x_.2.2.2.2.2.2.2.2.2.2.1,x_.2.2.2.2.2.2.2.2.2.2.2.1,r_.2.1,r_.2.2,())))
def jx (c:(Int)×((Int)×(List ((Int)×((Int)×((List Int)×((Int)×((Int)×(List Int))))))))) (t10001010:List (Int)):Option ((Int)×(Int)×(List ((Int)×((Int)×((List Int)×((Int)×((Int)×(List Int)))))))×(List Int)×Unit):=
  bnd (iter (fun s↦W.jx.c100003 c.2.2 (↑(List.length c.2.2):Int) s.1 s.2.1 s.2.2 some) ((0:Int),[],t10001010)) fun y=>
  some (c.1,c.2.1,y.2.1,y.2.2,())
def jx.mc:MCallee:=⟨46,jx.pre,jx.post,fun x_=>jx x_.1 x_.2.1⟩
def jx.G:Env:=⟨31,tab,[],[0,1,2,4,5,7,14,15,16,17],[2,4,5,12,24,26,2024,3002,3004,3005,5024,30000026,30003004,30003005],[(5,[⟨[],[],[22,23,24,25,26],[2024,5024,1000101,26]⟩,⟨[0],[],[22,23,24,25,26],[2024,5024,1000101,26]⟩,⟨[],[],[20,21,23,24],[2024,5024]⟩,⟨[],[],[20,21,22],[]⟩,⟨[3],[2024,5024],[20,21,22],[]⟩,⟨[2,4,3],[2024,5024,1000101],[20,21],[]⟩,⟨[5,2,4,3],[2024,5024,26],[20,21],[]⟩,⟨[1,0,6,5,2,4,3],[3005,26],[],[]⟩,⟨[0,1,2,3,4,5,6,7],[],[],[]⟩,⟨[8,0,1,2,3,4,5,6,7],[5],[],[]⟩])],[(100003,jx.c100003r),(5,jx.c5r)],[(45,jA.mc),(53,jr.mc)],Jf,[]⟩
theorem jx.eq (x_:densU jx.mc.pre.tys):denM jx.G Tryd.f46 jx.mc.pre jx.mc.post x_=jx.mc.F x_:=by kernel_rfl
theorem jx.p0:PcA jx.G Tryd.f46 0:=
  JA (s:=jx.c100003r) (by kernel_rfl) (by kernel_rfl) (Jt (sh:=jx.c100003s) (I:=fun x_ s_=>(x_.1,x_.2.1,x_.2.2.1,s_.1,x_.2.2.2.2.1,x_.2.2.2.2.2.1,x_.2.2.2.2.2.2.1,x_.2.2.2.2.2.2.2.1,x_.2.2.2.2.2.2.2.2.1,x_.2.2.2.2.2.2.2.2.2.1,x_.2.2.2.2.2.2.2.2.2.2.1,x_.2.2.2.2.2.2.2.2.2.2.2.1,s_.2.1,s_.2.2,())) (fun x_=>rfl) (fun ρ x_ s_ k_=>(jw (je fun _=>(je fun _=>jc)) jc)) (fun ρ x_ t k=>(by kernel_rfl)) (fun x_ s=>by kernel_rfl))
theorem jx.p1:PcA jx.G Tryd.f46 1:=
  jG (s:=jx.c5r) (by kernel_rfl) (by kernel_rfl) (jF (sh:=jx.c5s) (fun ρ x_ k_=>(je fun _=>(je fun _=>(je fun _=>jc)))) (fun ρ x_ t k=>(by kernel_rfl)) (fun x_=>by kernel_rfl))
theorem jx.ok:MOk Tryd.prog 46 jx.mc:=kb (G:=jx.G) Js mixed Tryd.func46 ⟨Je,(Jj jA.ok (Jj jr.ok jU)),jO,jT⟩ (m:=2) (by kernel_rfl) ⟨⟨trivial,jx.p0⟩,jx.p1⟩ (by kernel_rfl) jx.eq
abbrev co43:SD:=.one (.val (.sl (.int .i64)))
abbrev co44:SO:=.box [.val (.int .i64),.val (.int .i64),.down 3006 0]
def jn.pre:Shape:=⟨[(0,co9),(1,co43),(2,co17)],[]⟩
def jn.post:Shape:=⟨[(0,co11),(1,co21)],[(2,co12)]⟩
def jn.c3 {ρ:Type}  (k_:Unit→Option ρ):Option ρ:=
  k_ ()
def jn.c3s:Shape:=⟨[(0,co9),(1,co43),(2,co17),(3,co22),(4,co13),(6,co26),(7,co15),(8,co31)],[(3,co18),(4,co38),(6,co44),(7,co24),(8,co24),(3006,co12)]⟩
def jn.c3x0:Shape:=jn.c3s
def jn.c3r:Ck:=Ck.of (T:=Unit) jn.c3s (fun ρ x_ k_=>jn.c3  k_) (fun ρ x_ r_ k_=>k_ 0 (Shape.inj jn.c3x0 (x_.1,x_.2.1,x_.2.2.1,x_.2.2.2.1,x_.2.2.2.2.1,x_.2.2.2.2.2.1,x_.2.2.2.2.2.2.1,(0:Int),(0:Int),x_.2.2.2.2.2.2.2.2.2.2.2.1,x_.2.2.2.2.2.2.2.2.2.2.2.2.1,x_.2.2.2.2.2.2.2.2.2.2.2.1,x_.2.2.2.2.2.2.2.2.2.2.2.2.1,[],())))
def jn.c4 {ρ:Type} (qubits:Int) (k_:Bool→Option ρ):Option ρ:=
  br (decide (qubits < (1:Int)))
   (k_ true)
   (k_ (decide (qubits > (12:Int))))
def jn.c4s:Shape:=jn.c3s
def jn.c4x0:Shape:=⟨[(0,co9),(1,co43),(2,co17),(3,co22),(4,co13),(6,co26),(7,co15),(8,co31),(24,co27)],[(3,co18),(4,co38),(6,co44),(7,co24),(8,co24),(3006,co12)]⟩
def jn.c4r:Ck:=Ck.of (T:=Bool) jn.c4s (fun ρ x_ k_=>jn.c4 x_.2.2.1 k_) (fun ρ x_ r_ k_=>k_ 0 (Shape.inj jn.c4x0 (x_.1,x_.2.1,x_.2.2.1,r_,x_.2.2.2)))
def jn.c11 {ρ:Type} (qubits:Int) (i:Int) (q:Int) (t40:List (Int)) (k_:Bool→Option ρ):Option ρ:=
  br (decide (q < (0:Int)))
   (k_ true)
   (br (decide (q≥qubits))
     (k_ true)
     (bnd (okIf (decide ((0:Int)≤i) && decide (i≤(↑(List.length t40):Int)))) fun y=>
      bnd (W.Jq (List.take (Int.toNat i) t40) q) fun y_1=>
      k_ y_1))
def jn.c11s:Shape:=⟨[(0,co9),(1,co43),(2,co17),(3,co22),(4,co13),(6,co26),(7,co15),(8,co31),(9,co17),(10,co17),(34,co43),(35,co17),(36,co17)],[(3,co18),(4,co38),(6,co44),(7,co24),(8,co24),(3006,co12)]⟩
def jn.c11x0:Shape:=⟨[(0,co9),(1,co43),(2,co17),(3,co22),(4,co13),(6,co26),(7,co15),(8,co31),(9,co17),(10,co17),(34,co43),(35,co17),(36,co17),(54,co27)],[(3,co18),(4,co38),(6,co44),(7,co24),(8,co24),(3006,co12)]⟩
def jn.c11r:Ck:=Ck.of (T:=Bool) jn.c11s (fun ρ x_ k_=>jn.c11 x_.2.2.1 x_.2.2.2.1 x_.2.2.2.2.1 x_.2.2.2.2.2.2.2.2.2.2.2.1 k_) (fun ρ x_ r_ k_=>k_ 0 (Shape.inj jn.c11x0 (x_.1,x_.2.1,x_.2.2.1,x_.2.2.2.1,x_.2.2.2.2.1,x_.2.2.2.2.2.1,x_.2.2.2.2.2.2.1,x_.2.2.2.2.2.2.2.1,r_,x_.2.2.2.2.2.2.2.2)))
def jn.c100009 {ρ:Type} (qubits:Int) (t34:List (Int)) (t35:Int) (t36:Int) (t40:List (Int)) (k_:(Int)⊕(((Int)×(Int)×(Int))⊕(Int))→Option ρ):Option ρ:=
  br (decide (t36 < t35))
   (bnd (idx t34 t36) fun y=>
    bnd (W.jn.c11 qubits t36 y t40 some) fun y_1=>
    br y_1
     (bnd (W.Jr (17:Int) t36) fun y_2=>
      k_ (.inr (.inl (t36,y_2.1,y_2.2))))
     (k_ (.inl (IntKind.i64.wrap (t36+(1:Int))))))
   (k_ (.inr (.inr t36)))
def jn.c100009s:Shape:=⟨[(0,co9),(1,co43),(2,co17),(3,co22),(4,co13),(6,co26),(7,co15),(8,co31),(34,co43),(35,co17),(36,co17)],[(3,co18),(4,co38),(6,co44),(7,co24),(8,co24),(3006,co12)]⟩
def jn.c100009x0:Shape:=jn.c100009s
def jn.c100009x1:Shape:=jn.c100009s
def jn.c100009r:Ck:=Ck.ofLoop (S:=Int) (T:=((Int)×(Int)×(Int))⊕(Int)) jn.c100009s (fun x_=>x_.2.2.2.2.2.1) (fun ρ x_ s_ k_=>jn.c100009 x_.2.2.1 x_.2.2.2.1 x_.2.2.2.2.1 s_ x_.2.2.2.2.2.2.2.2.2.1 k_) (fun ρ x_ r_ k_=>sel r_ (fun r_=>k_ 1 (Shape.inj jn.c100009x0 (x_.1,x_.2.1,x_.2.2.1,x_.2.2.2.1,x_.2.2.2.2.1,r_.1,x_.2.2.2.2.2.2.1,x_.2.2.2.2.2.2.2.1,x_.2.2.2.2.2.2.2.2.1,x_.2.2.2.2.2.2.2.2.2.1,(0:Int),(0:Int),r_.2.1,r_.2.2,x_.2.2.2.2.2.2.2.2.2.2.2.2.2.2.1,x_.2.2.2.2.2.2.2.2.2.2.2.2.2.2.2.1,[],()))) (fun r_=>k_ 2 (Shape.inj jn.c100009x1 (x_.1,x_.2.1,x_.2.2.1,x_.2.2.2.1,x_.2.2.2.2.1,r_,x_.2.2.2.2.2.2))))
def jn (c:(Int)×((Int)×(List ((Int)×((Int)×((List Int)×((Int)×((Int)×(List Int))))))))) (t1:List (Int)) (qubits:Int):Option ((Int)×(Int)×((Int)×(Int))×(List ((Int)×((Int)×((List Int)×((Int)×((Int)×(List Int)))))))×Unit):=
  bnd (W.jC (c.1,c.2.1,c.2.2)) fun y=>
  br (y.1 != (0:Int))
   (bnd (W.jn.c3 some) fun y_1=>
    some ((0:Int),(0:Int),(y.1,y.2),[],()))
   (bnd (W.jn.c4 qubits some) fun y_2=>
    br y_2
     (bnd (W.Jr (6:Int) (0:Int)) fun y_3=>
      some ((0:Int),(0:Int),(y_3.1,y_3.2),[],()))
     (br ((↑(List.length t1):Int) != c.1)
       (bnd (W.Jr (17:Int) (0:Int)) fun y_4=>
        some ((0:Int),(0:Int),(y_4.1,y_4.2),[],()))
       (bnd (iter (fun s↦W.jn.c100009 qubits t1 (↑(List.length t1):Int) s t1 some) (0:Int)) fun y_5=>
        sel y_5
         (fun u=>some ((0:Int),(0:Int),(u.2.1,u.2.2),[],()))
         (fun v=>bnd (W.jx (c.1,c.2.1,c.2.2) t1) fun y_6=>
          some (qubits,y_6.2.1,((0:Int),(0:Int)),y_6.2.2.1,())))))
def jn.mc:MCallee:=⟨27,jn.pre,jn.post,fun x_=>jn x_.1 x_.2.1 x_.2.2.1⟩
def jn.G:Env:=⟨66,tab,[(14,jC.ce),(40,Jr.ce),(50,Jq.ce)],[0,1,2,3,4,6,7,8,9,10,11,16,24,31,34,35,36,37,54],[6,11,17,25,32,55,2061,3006,3011,30003006,30003011],[(3,[⟨[],[],[18],[]⟩,⟨[],[],[17],[3006,6]⟩,⟨[0],[3006,6],[18],[]⟩,⟨[1,2,0],[7],[],[]⟩])],[(100009,jn.c100009r),(11,jn.c11r),(4,jn.c4r),(3,jn.c3r)],[(46,jx.mc)],Jf,[]⟩
theorem jn.eq (x_:densU jn.mc.pre.tys):denM jn.G Tryd.f27 jn.mc.pre jn.mc.post x_=jn.mc.F x_:=by kernel_rfl
theorem jn.p0:PcA jn.G Tryd.f27 0:=
  jG (s:=jn.c3r) (by kernel_rfl) (by kernel_rfl) (jF (sh:=jn.c3s) (fun ρ x_ k_=>jc) (fun ρ x_ t k=>(by kernel_rfl)) (fun x_=>by kernel_rfl))
theorem jn.p1:PcA jn.G Tryd.f27 1:=
  jG (s:=jn.c4r) (by kernel_rfl) (by kernel_rfl) (jF (sh:=jn.c4s) (fun ρ x_ k_=>(jw jc jc)) (fun ρ x_ t k=>(by kernel_rfl)) (fun x_=>by kernel_rfl))
theorem jn.p2:PcA jn.G Tryd.f27 2:=
  JA (s:=jn.c100009r) (by kernel_rfl) (by kernel_rfl) (Jt (sh:=jn.c100009s) (I:=fun x_ s_=>(x_.1,x_.2.1,x_.2.2.1,x_.2.2.2.1,x_.2.2.2.2.1,s_,x_.2.2.2.2.2.2)) (fun x_=>rfl) (fun ρ x_ s_ k_=>(jw (je fun _=>(je fun _=>(jw (je fun _=>jc) jc))) jc)) (fun ρ x_ t k=>(kB (fun _=>(by kernel_rfl)) (fun _=>(by kernel_rfl)))) (fun x_ s=>by kernel_rfl))
theorem jn.p3:PcA jn.G Tryd.f27 3:=
  jG (s:=jn.c11r) (by kernel_rfl) (by kernel_rfl) (jF (sh:=jn.c11s) (fun ρ x_ k_=>(jw jc (jw jc (je fun _=>(je fun _=>jc))))) (fun ρ x_ t k=>(by kernel_rfl)) (fun x_=>by kernel_rfl))
theorem jn.ok:MOk Tryd.prog 27 jn.mc:=kb (G:=jn.G) Js mixed Tryd.func27 ⟨(Ja jC.ok (Ja Jr.ok (Ja Jq.ok Je))),(Jj jx.ok jU),jO,jT⟩ (m:=4) (by kernel_rfl) ⟨⟨⟨⟨trivial,jn.p0⟩,jn.p1⟩,jn.p2⟩,jn.p3⟩ (by kernel_rfl) jn.eq
abbrev co45:SO:=.box [.val (.int .i64),.val (.int .i64),.down 2080 0]
def ja.pre:Shape:=⟨[(0,co9),(1,co43),(2,co17)],[]⟩
def ja.post:Shape:=⟨[(0,co11),(1,co21)],[(2,co12)]⟩
def ja.c2 {ρ:Type} (qubits:Int) (f0:Int) (k_:Bool→Option ρ):Option ρ:=
  br (f0 == (0:Int))
   (br (decide (qubits < (1:Int)))
     (k_ true)
     (k_ (decide (qubits > (12:Int)))))
   (k_ false)
def ja.c2s:Shape:=⟨[(0,co9),(1,co43),(2,co17),(3,co22),(6,co26),(7,co15),(8,co31)],[(3,co18),(6,co44),(7,co24),(8,co24),(3006,co12)]⟩
def ja.c2x0:Shape:=⟨[(0,co9),(1,co43),(2,co17),(3,co22),(6,co26),(7,co15),(8,co31),(25,co27)],[(3,co18),(6,co44),(7,co24),(8,co24),(3006,co12)]⟩
def ja.c2r:Ck:=Ck.of (T:=Bool) ja.c2s (fun ρ x_ k_=>ja.c2 x_.2.2.1 x_.2.2.2.2.2.2.2.2.2.2.1 k_) (fun ρ x_ r_ k_=>k_ 0 (Shape.inj ja.c2x0 (x_.1,x_.2.1,x_.2.2.1,r_,x_.2.2.2)))
def ja.c208197 {ρ:Type} (qubits:Int) (f0:Int) (f1:Int) (k_:(Int)×(Int)→Option ρ):Option ρ:=
  bnd (W.ja.c2 qubits f0 some) fun y=>
  br y
   (bnd (W.JE (6:Int) (0:Int)) fun y_1=>
    k_ (y_1.1,y_1.2))
   (k_ (f0,f1))
def ja.c208197s:Shape:=ja.c2s
def ja.c208197x0:Shape:=ja.c2s
def ja.c208197r:Ck:=Ck.of (T:=(Int)×(Int)) ja.c208197s (fun ρ x_ k_=>ja.c208197 x_.2.2.1 x_.2.2.2.2.2.2.2.2.2.2.1 x_.2.2.2.2.2.2.2.2.2.2.2.1 k_) (fun ρ x_ r_ k_=>k_ 0 (Shape.inj ja.c208197x0 (x_.1,x_.2.1,x_.2.2.1,x_.2.2.2.1,x_.2.2.2.2.1,x_.2.2.2.2.2.1,x_.2.2.2.2.2.2.1,x_.2.2.2.2.2.2.2.1,x_.2.2.2.2.2.2.2.2.1,x_.2.2.2.2.2.2.2.2.2.1,r_.1,r_.2,x_.2.2.2.2.2.2.2.2.2.2.2.2)))
def ja.c4 {ρ:Type} (t1:List (Int)) (c0:Int) (f0:Int) (k_:Bool→Option ρ):Option ρ:=
  br (f0 == (0:Int))
   (k_ ((↑(List.length t1):Int) != c0))
   (k_ false)
def ja.c4s:Shape:=ja.c2s
def ja.c4x0:Shape:=⟨[(0,co9),(1,co43),(2,co17),(3,co22),(6,co26),(7,co15),(8,co31),(36,co27)],[(3,co18),(6,co44),(7,co24),(8,co24),(3006,co12)]⟩
def ja.c4r:Ck:=Ck.of (T:=Bool) ja.c4s (fun ρ x_ k_=>ja.c4 x_.2.1 x_.2.2.2.1 x_.2.2.2.2.2.2.2.2.2.2.1 k_) (fun ρ x_ r_ k_=>k_ 0 (Shape.inj ja.c4x0 (x_.1,x_.2.1,x_.2.2.1,r_,x_.2.2.2)))
def ja.c216389 {ρ:Type} (t1:List (Int)) (c0:Int) (f0:Int) (f1:Int) (k_:(Int)×(Int)→Option ρ):Option ρ:=
  bnd (W.ja.c4 t1 c0 f0 some) fun y=>
  br y
   (bnd (W.JE (17:Int) (0:Int)) fun y_1=>
    k_ (y_1.1,y_1.2))
   (k_ (f0,f1))
def ja.c216389s:Shape:=ja.c2s
def ja.c216389x0:Shape:=ja.c2s
def ja.c216389r:Ck:=Ck.of (T:=(Int)×(Int)) ja.c216389s (fun ρ x_ k_=>ja.c216389 x_.2.1 x_.2.2.2.1 x_.2.2.2.2.2.2.2.2.2.2.1 x_.2.2.2.2.2.2.2.2.2.2.2.1 k_) (fun ρ x_ r_ k_=>k_ 0 (Shape.inj ja.c216389x0 (x_.1,x_.2.1,x_.2.2.1,x_.2.2.2.1,x_.2.2.2.2.1,x_.2.2.2.2.2.1,x_.2.2.2.2.2.2.1,x_.2.2.2.2.2.2.2.1,x_.2.2.2.2.2.2.2.2.1,x_.2.2.2.2.2.2.2.2.2.1,r_.1,r_.2,x_.2.2.2.2.2.2.2.2.2.2.2.2)))
def ja.c7 {ρ:Type} (t1:List (Int)) (i:Int) (f0:Int) (k_:Bool→Option ρ):Option ρ:=
  br (decide (i < (↑(List.length t1):Int)))
   (k_ (f0 == (0:Int)))
   (k_ false)
def ja.c7s:Shape:=⟨[(0,co9),(1,co43),(2,co17),(3,co22),(6,co26),(7,co15),(8,co31),(9,co17)],[(3,co18),(6,co44),(7,co24),(8,co24),(3006,co12)]⟩
def ja.c7x0:Shape:=⟨[(0,co9),(1,co43),(2,co17),(3,co22),(6,co26),(7,co15),(8,co31),(9,co17),(46,co27)],[(3,co18),(6,co44),(7,co24),(8,co24),(3006,co12)]⟩
def ja.c7r:Ck:=Ck.of (T:=Bool) ja.c7s (fun ρ x_ k_=>ja.c7 x_.2.1 x_.2.2.2.1 x_.2.2.2.2.2.2.2.2.2.2.2.1 k_) (fun ρ x_ r_ k_=>k_ 0 (Shape.inj ja.c7x0 (x_.1,x_.2.1,x_.2.2.1,x_.2.2.2.1,r_,x_.2.2.2.2)))
def ja.c9 {ρ:Type} (t1:List (Int)) (qubits:Int) (i:Int) (k_:Bool→Option ρ):Option ρ:=
  bnd (idx t1 i) fun y=>
  br (decide (y < (0:Int)))
   (k_ true)
   (bnd (idx t1 i) fun y_1=>
    br (decide (y_1≥qubits))
     (k_ true)
     (bnd (okIf (decide ((0:Int)≤i) && decide (i≤(↑(List.length t1):Int)))) fun y_2=>
      bnd (idx t1 i) fun y_3=>
      bnd (W.Jv (List.take (Int.toNat i) t1) y_3) fun y_4=>
      k_ y_4))
def ja.c9s:Shape:=ja.c7s
def ja.c9x0:Shape:=⟨[(0,co9),(1,co43),(2,co17),(3,co22),(6,co26),(7,co15),(8,co31),(9,co17),(71,co27)],[(3,co18),(6,co44),(7,co24),(8,co24),(3006,co12)]⟩
def ja.c9r:Ck:=Ck.of (T:=Bool) ja.c9s (fun ρ x_ k_=>ja.c9 x_.2.1 x_.2.2.1 x_.2.2.2.1 k_) (fun ρ x_ r_ k_=>k_ 0 (Shape.inj ja.c9x0 (x_.1,x_.2.1,x_.2.2.1,x_.2.2.2.1,r_,x_.2.2.2.2)))
def ja.c236870 {ρ:Type} (t1:List (Int)) (qubits:Int) (i:Int) (f0:Int) (f1:Int) (k_:(Int)×(Int)→Option ρ):Option ρ:=
  bnd (W.ja.c9 t1 qubits i some) fun y=>
  br y
   (bnd (W.JE (17:Int) i) fun y_1=>
    k_ (y_1.1,y_1.2))
   (k_ (f0,f1))
def ja.c236870s:Shape:=ja.c7s
def ja.c236870x0:Shape:=ja.c7s
def ja.c236870r:Ck:=Ck.of (T:=(Int)×(Int)) ja.c236870s (fun ρ x_ k_=>ja.c236870 x_.2.1 x_.2.2.1 x_.2.2.2.1 x_.2.2.2.2.2.2.2.2.2.2.2.1 x_.2.2.2.2.2.2.2.2.2.2.2.2.1 k_) (fun ρ x_ r_ k_=>k_ 0 (Shape.inj ja.c236870x0 (x_.1,x_.2.1,x_.2.2.1,x_.2.2.2.1,x_.2.2.2.2.1,x_.2.2.2.2.2.1,x_.2.2.2.2.2.2.1,x_.2.2.2.2.2.2.2.1,x_.2.2.2.2.2.2.2.2.1,x_.2.2.2.2.2.2.2.2.2.1,x_.2.2.2.2.2.2.2.2.2.2.1,r_.1,r_.2,x_.2.2.2.2.2.2.2.2.2.2.2.2.2)))
def ja.c100007 {ρ:Type} (t1:List (Int)) (qubits:Int) (i:Int) (f0:Int) (f1:Int) (k_:((Int)×(Int)×(Int))⊕((Int)×(Int)×(Int))→Option ρ):Option ρ:=
  bnd (W.ja.c7 t1 i f0 some) fun y=>
  br y
   (bnd (W.ja.c236870 t1 qubits i f0 f1 some) fun y_1=>
    k_ (.inl ((IntKind.i64.wrap (i+(1:Int))),y_1.1,y_1.2)))
   (k_ (.inr (i,f0,f1)))
def ja.c100007s:Shape:=ja.c7s
def ja.c100007x0:Shape:=ja.c7s
def ja.c100007r:Ck:=Ck.ofLoop (S:=(Int)×(Int)×(Int)) (T:=(Int)×(Int)×(Int)) ja.c100007s (fun x_=>(x_.2.2.2.1,x_.2.2.2.2.2.2.2.2.2.2.2.1,x_.2.2.2.2.2.2.2.2.2.2.2.2.1)) (fun ρ x_ s_ k_=>ja.c100007 x_.2.1 x_.2.2.1 s_.1 s_.2.1 s_.2.2 k_) (fun ρ x_ r_ k_=>k_ 2 (Shape.inj ja.c100007x0 (x_.1,x_.2.1,x_.2.2.1,r_.1,x_.2.2.2.2.1,x_.2.2.2.2.2.1,x_.2.2.2.2.2.2.1,x_.2.2.2.2.2.2.2.1,x_.2.2.2.2.2.2.2.2.1,x_.2.2.2.2.2.2.2.2.2.1,x_.2.2.2.2.2.2.2.2.2.2.1,r_.2.1,r_.2.2,x_.2.2.2.2.2.2.2.2.2.2.2.2.2)))
def ja.c12 {ρ:Type}  (k_:Unit→Option ρ):Option ρ:=
  k_ ()
def ja.c12s:Shape:=ja.c7s
def ja.c12x0:Shape:=ja.c7s
def ja.c12r:Ck:=Ck.of (T:=Unit) ja.c12s (fun ρ x_ k_=>ja.c12  k_) (fun ρ x_ r_ k_=>k_ 0 (Shape.inj ja.c12x0 (x_.1,x_.2.1,x_.2.2.1,x_.2.2.2.1,x_.2.2.2.2.1,x_.2.2.2.2.2.1,x_.2.2.2.2.2.2.1,(0:Int),(0:Int),x_.2.2.2.2.2.2.2.2.2.2.2.1,x_.2.2.2.2.2.2.2.2.2.2.2.2.1,x_.2.2.2.2.2.2.2.2.2.2.2.1,x_.2.2.2.2.2.2.2.2.2.2.2.2.1,[],())))
def ja.c19 {ρ:Type} (t1:List (Int)) (i_1:Int) (t2080:List ((Int)×((Int)×((List Int)×((Int)×((Int)×(List Int))))))) (k_:List ((Int)×((Int)×((List Int)×((Int)×((Int)×(List Int))))))→Option ρ):Option ρ:=
  bnd (inR (List.length t2080) i_1) fun y=>
  bnd (idx t2080 i_1) fun y_1=>
  bnd (idx t1 y_1.2.2.2.1) fun y_2=>
  bnd (inR (List.length t2080) i_1) fun y_3=>
  bnd (idx t2080 i_1) fun y_4=>
  k_ (List.set t2080 (Int.toNat i_1) (y_4.1,y_4.2.1,y_4.2.2.1,y_2,y_4.2.2.2.2))
def ja.c19s:Shape:=⟨[(0,co9),(1,co43),(2,co17),(3,co22),(6,co26),(7,co15),(8,co31),(9,co17),(10,co34),(11,co17)],[(3,co18),(6,co44),(7,co24),(8,co24),(10,co45),(2080,co12),(3006,co12),(3010,co12)]⟩
def ja.c19x0:Shape:=ja.c19s
def ja.c19r:Ck:=Ck.of (T:=List ((Int)×((Int)×((List Int)×((Int)×((Int)×(List Int))))))) ja.c19s (fun ρ x_ k_=>ja.c19 x_.2.1 x_.2.2.2.2.1 x_.2.2.2.2.2.2.2.2.2.2.2.2.2.2.2.2.1 k_) (fun ρ x_ r_ k_=>k_ 0 (Shape.inj ja.c19x0 (x_.1,x_.2.1,x_.2.2.1,x_.2.2.2.1,x_.2.2.2.2.1,x_.2.2.2.2.2.1,x_.2.2.2.2.2.2.1,x_.2.2.2.2.2.2.2.1,x_.2.2.2.2.2.2.2.2.1,x_.2.2.2.2.2.2.2.2.2.1,x_.2.2.2.2.2.2.2.2.2.2.1,x_.2.2.2.2.2.2.2.2.2.2.2.1,x_.2.2.2.2.2.2.2.2.2.2.2.2.1,x_.2.2.2.2.2.2.2.2.2.2.2.2.2.1,x_.2.2.2.2.2.2.2.2.2.2.2.2.2.2.1,x_.2.2.2.2.2.2.2.2.2.2.2.2.2.2.2.1,r_,x_.2.2.2.2.2.2.2.2.2.2.2.2.2.2.2.2.2)))
def ja.c273733 {ρ:Type} (t1:List (Int)) (i_1:Int) (t2080:List ((Int)×((Int)×((List Int)×((Int)×((Int)×(List Int))))))) (k_:List ((Int)×((Int)×((List Int)×((Int)×((Int)×(List Int))))))→Option ρ):Option ρ:=
  bnd (inR (List.length t2080) i_1) fun y=>
  bnd (idx t2080 i_1) fun y_1=>
  br (y_1.1 != (1:Int))
   (bnd (W.ja.c19 t1 i_1 t2080 some) fun y_2=>
    k_ y_2)
   (k_ t2080)
def ja.c273733s:Shape:=ja.c19s
def ja.c273733x0:Shape:=ja.c19s
def ja.c273733r:Ck:=Ck.of (T:=List ((Int)×((Int)×((List Int)×((Int)×((Int)×(List Int))))))) ja.c273733s (fun ρ x_ k_=>ja.c273733 x_.2.1 x_.2.2.2.2.1 x_.2.2.2.2.2.2.2.2.2.2.2.2.2.2.2.2.1 k_) (fun ρ x_ r_ k_=>k_ 0 (Shape.inj ja.c273733x0 (x_.1,x_.2.1,x_.2.2.1,x_.2.2.2.1,x_.2.2.2.2.1,x_.2.2.2.2.2.1,x_.2.2.2.2.2.2.1,x_.2.2.2.2.2.2.2.1,x_.2.2.2.2.2.2.2.2.1,x_.2.2.2.2.2.2.2.2.2.1,x_.2.2.2.2.2.2.2.2.2.2.1,x_.2.2.2.2.2.2.2.2.2.2.2.1,x_.2.2.2.2.2.2.2.2.2.2.2.2.1,x_.2.2.2.2.2.2.2.2.2.2.2.2.2.1,x_.2.2.2.2.2.2.2.2.2.2.2.2.2.2.1,x_.2.2.2.2.2.2.2.2.2.2.2.2.2.2.2.1,r_,x_.2.2.2.2.2.2.2.2.2.2.2.2.2.2.2.2.2)))
def ja.c23 {ρ:Type} (t1:List (Int)) (i_1:Int) (j:Int) (t2080:List ((Int)×((Int)×((List Int)×((Int)×((Int)×(List Int))))))) (k_:List ((Int)×((Int)×((List Int)×((Int)×((Int)×(List Int))))))→Option ρ):Option ρ:=
  bnd (inR (List.length t2080) i_1) fun y=>
  bnd (idx t2080 i_1) fun y_1=>
  bnd (inR (List.length t2080) i_1) fun y_2=>
  bnd (idx t2080 i_1) fun y_3=>
  bnd (idx t2080 i_1) fun y_4=>
  bnd (inR (List.length y_4.2.2.1) j) fun y_5=>
  bnd (idx t2080 i_1) fun y_6=>
  bnd (idx y_6.2.2.1 j) fun y_7=>
  bnd (idx t1 y_7) fun y_8=>
  bnd (idx t2080 i_1) fun y_9=>
  bnd (inR (List.length y_9.2.2.1) j) fun y_10=>
  bnd (idx t2080 i_1) fun y_11=>
  bnd (idx y_11.2.2.1 j) fun y_12=>
  k_ (List.set t2080 (Int.toNat i_1) (y_11.1,y_11.2.1,List.set y_11.2.2.1 (Int.toNat j) y_8,y_11.2.2.2))
def ja.c23s:Shape:=⟨[(0,co9),(1,co43),(2,co17),(3,co22),(6,co26),(7,co15),(8,co31),(9,co17),(10,co34),(11,co17),(12,co17)],[(3,co18),(6,co44),(7,co24),(8,co24),(10,co45),(2080,co12),(3006,co12),(3010,co12)]⟩
def ja.c23x0:Shape:=ja.c23s
def ja.c23r:Ck:=Ck.of (T:=List ((Int)×((Int)×((List Int)×((Int)×((Int)×(List Int))))))) ja.c23s (fun ρ x_ k_=>ja.c23 x_.2.1 x_.2.2.2.2.1 x_.2.2.2.2.2.1 x_.2.2.2.2.2.2.2.2.2.2.2.2.2.2.2.2.2.1 k_) (fun ρ x_ r_ k_=>k_ 0 (Shape.inj ja.c23x0 (x_.1,x_.2.1,x_.2.2.1,x_.2.2.2.1,x_.2.2.2.2.1,x_.2.2.2.2.2.1,x_.2.2.2.2.2.2.1,x_.2.2.2.2.2.2.2.1,x_.2.2.2.2.2.2.2.2.1,x_.2.2.2.2.2.2.2.2.2.1,x_.2.2.2.2.2.2.2.2.2.2.1,x_.2.2.2.2.2.2.2.2.2.2.2.1,x_.2.2.2.2.2.2.2.2.2.2.2.2.1,x_.2.2.2.2.2.2.2.2.2.2.2.2.2.1,x_.2.2.2.2.2.2.2.2.2.2.2.2.2.2.1,x_.2.2.2.2.2.2.2.2.2.2.2.2.2.2.2.1,x_.2.2.2.2.2.2.2.2.2.2.2.2.2.2.2.2.1,r_,x_.2.2.2.2.2.2.2.2.2.2.2.2.2.2.2.2.2.2)))
def ja.c100021 {ρ:Type} (t1:List (Int)) (i_1:Int) (j:Int) (t2080:List ((Int)×((Int)×((List Int)×((Int)×((Int)×(List Int))))))) (k_:((Int)×(List ((Int)×((Int)×((List Int)×((Int)×((Int)×(List Int))))))))⊕((Int)×(List ((Int)×((Int)×((List Int)×((Int)×((Int)×(List Int))))))))→Option ρ):Option ρ:=
  bnd (inR (List.length t2080) i_1) fun y=>
  bnd (idx t2080 i_1) fun y_1=>
  bnd (idx t2080 i_1) fun y_2=>
  br (decide (j < (↑(List.length y_2.2.2.1):Int)))
   (bnd (W.ja.c23 t1 i_1 j t2080 some) fun y_3=>
    k_ (.inl ((IntKind.i64.wrap (j+(1:Int))),y_3)))
   (k_ (.inr (j,t2080)))
def ja.c100021s:Shape:=ja.c23s
def ja.c100021x0:Shape:=ja.c23s
def ja.c100021r:Ck:=Ck.ofLoop (S:=(Int)×(List ((Int)×((Int)×((List Int)×((Int)×((Int)×(List Int)))))))) (T:=(Int)×(List ((Int)×((Int)×((List Int)×((Int)×((Int)×(List Int)))))))) ja.c100021s (fun x_=>(x_.2.2.2.2.2.1,x_.2.2.2.2.2.2.2.2.2.2.2.2.2.2.2.2.2.1)) (fun ρ x_ s_ k_=>ja.c100021 x_.2.1 x_.2.2.2.2.1 s_.1 s_.2 k_) (fun ρ x_ r_ k_=>k_ 6 (Shape.inj ja.c100021x0 (x_.1,x_.2.1,x_.2.2.1,x_.2.2.2.1,x_.2.2.2.2.1,r_.1,x_.2.2.2.2.2.2.1,x_.2.2.2.2.2.2.2.1,x_.2.2.2.2.2.2.2.2.1,x_.2.2.2.2.2.2.2.2.2.1,x_.2.2.2.2.2.2.2.2.2.2.1,x_.2.2.2.2.2.2.2.2.2.2.2.1,x_.2.2.2.2.2.2.2.2.2.2.2.2.1,x_.2.2.2.2.2.2.2.2.2.2.2.2.2.1,x_.2.2.2.2.2.2.2.2.2.2.2.2.2.2.1,x_.2.2.2.2.2.2.2.2.2.2.2.2.2.2.2.1,x_.2.2.2.2.2.2.2.2.2.2.2.2.2.2.2.2.1,r_.2,x_.2.2.2.2.2.2.2.2.2.2.2.2.2.2.2.2.2.2)))
def ja.c100016 {ρ:Type} (t1:List (Int)) (i_1:Int) (t2080:List ((Int)×((Int)×((List Int)×((Int)×((Int)×(List Int))))))) (k_:((Int)×(List ((Int)×((Int)×((List Int)×((Int)×((Int)×(List Int))))))))⊕((Int)×(List ((Int)×((Int)×((List Int)×((Int)×((Int)×(List Int))))))))→Option ρ):Option ρ:=
  br (decide (i_1 < (↑(List.length t2080):Int)))
   (bnd (W.ja.c273733 t1 i_1 t2080 some) fun y=>
    bnd (iter (fun s↦W.ja.c100021 t1 i_1 s.1 s.2 some) ((0:Int),y)) fun y_1=>
    k_ (.inl ((IntKind.i64.wrap (i_1+(1:Int))),y_1.2)))
   (k_ (.inr (i_1,t2080)))
def ja.c100016s:Shape:=ja.c19s
def ja.c100016x0:Shape:=ja.c19s
def ja.c100016r:Ck:=Ck.ofLoop (S:=(Int)×(List ((Int)×((Int)×((List Int)×((Int)×((Int)×(List Int)))))))) (T:=(Int)×(List ((Int)×((Int)×((List Int)×((Int)×((Int)×(List Int)))))))) ja.c100016s (fun x_=>(x_.2.2.2.2.1,x_.2.2.2.2.2.2.2.2.2.2.2.2.2.2.2.2.1)) (fun ρ x_ s_ k_=>ja.c100016 x_.2.1 s_.1 s_.2 k_) (fun ρ x_ r_ k_=>k_ 4 (Shape.inj ja.c100016x0 (x_.1,x_.2.1,x_.2.2.1,x_.2.2.2.1,r_.1,x_.2.2.2.2.2.1,x_.2.2.2.2.2.2.1,x_.2.2.2.2.2.2.2.1,x_.2.2.2.2.2.2.2.2.1,x_.2.2.2.2.2.2.2.2.2.1,x_.2.2.2.2.2.2.2.2.2.2.1,x_.2.2.2.2.2.2.2.2.2.2.2.1,x_.2.2.2.2.2.2.2.2.2.2.2.2.1,x_.2.2.2.2.2.2.2.2.2.2.2.2.2.1,x_.2.2.2.2.2.2.2.2.2.2.2.2.2.2.1,x_.2.2.2.2.2.2.2.2.2.2.2.2.2.2.2.1,r_.2,x_.2.2.2.2.2.2.2.2.2.2.2.2.2.2.2.2.2)))
def ja.c24 {ρ:Type}  (k_:Unit→Option ρ):Option ρ:=
  k_ ()
def ja.c24s:Shape:=ja.c19s
def ja.c24x0:Shape:=⟨[(0,co9),(1,co43),(2,co17),(3,co22),(6,co26),(7,co15),(8,co31),(9,co17),(10,co34),(11,co17)],[(3,co18),(6,co45),(7,co24),(8,co24),(10,co45),(2080,co12),(3006,co12),(3010,co12)]⟩
def ja.c24r:Ck:=Ck.of (T:=Unit) ja.c24s (fun ρ x_ k_=>ja.c24  k_) (fun ρ x_ r_ k_=>k_ 0 (Shape.inj ja.c24x0 (x_.1,x_.2.1,x_.2.2.1,x_.2.2.2.1,x_.2.2.2.2.1,x_.2.2.2.2.2.1,x_.2.2.2.2.2.2.1,x_.2.2.2.2.2.2.2.1,x_.2.2.2.2.2.2.2.2.2.2.2.2.2.2.1,x_.2.2.2.2.2.2.2.2.2.2.2.2.2.2.2.1,x_.2.2.2.2.2.2.2.2.2.2.2.2.1,x_.2.2.2.2.2.2.2.2.2.2.2.2.2.1,x_.2.2.2.2.2.2.2.2.2.2.2.2)))
def ja (c:(Int)×((Int)×(List ((Int)×((Int)×((List Int)×((Int)×((Int)×(List Int))))))))) (t1:List (Int)) (qubits:Int):Option ((Int)×(Int)×((Int)×(Int))×(List ((Int)×((Int)×((List Int)×((Int)×((Int)×(List Int)))))))×Unit):=
  bnd (W.jL (c.1,c.2.1,c.2.2)) fun y=>
  bnd (W.ja.c208197 qubits y.1 y.2 some) fun y_1=>
  bnd (W.ja.c216389 t1 c.1 y_1.1 y_1.2 some) fun y_2=>
  bnd (iter (fun s↦W.ja.c100007 t1 qubits s.1 s.2.1 s.2.2 some) ((0:Int),y_2.1,y_2.2)) fun y_3=>
  br (y_3.2.1 != (0:Int))
   (bnd (W.ja.c12 some) fun y_4=>
    some ((0:Int),(0:Int),(y_3.2.1,y_3.2.2),[],()))
   (bnd (W.js (c.1,c.2.1,c.2.2)) fun y_5=>
    bnd (iter (fun s↦W.ja.c100016 t1 s.1 s.2 some) ((0:Int),y_5.2.2.1)) fun y_6=>
    bnd (W.ja.c24 some) fun y_7=>
    some (qubits,y_5.2.1,(y_3.2.1,y_3.2.2),y_6.2,()))
def ja.mc:MCallee:=⟨28,ja.pre,ja.post,fun x_=>ja x_.1 x_.2.1 x_.2.2.1⟩
def ja.G:Env:=⟨144,tab,[(15,jL.ce),(42,JE.ce),(52,Jv.ce)],[0,1,2,3,6,7,8,9,10,11,12,25,36,46,71,76,87,96,119],[6,10,77,2080,3006,3010,30003006,30003010],[(24,[⟨[],[],[143],[]⟩,⟨[],[],[142],[6]⟩,⟨[0],[6],[143],[]⟩,⟨[1,2,0],[7],[],[]⟩]),
  (23,[⟨[],[],[124,128,129,130,131,132,133,134,135,136,137,138,139,140],[]⟩,⟨[0],[],[124,128,129,130,131,132,133,134,135,136,137,138,139,140],[]⟩,⟨[],[],[122,123,128,129,130,131,132,133,134,135,136,137,138,139,140],[]⟩,⟨[1,0,2],[],[128,129,130,131,132,133,134,135,136,137,138,139,140],[]⟩,⟨[3,1,0,2],[],[128,129,130,131,132,133,134,135,136,137,138,139,140],[]⟩,⟨[4,3,1,0,2],[],[128,129,130,131,132,133,134,135,136,137,138,139,140],[]⟩,⟨[],[],[122,123,124,125,126,127,129,130,131,132,133,134,135,136,137,138,139,140],[]⟩,⟨[],[],[122,123,124,125,126,127,128,130,131,132,133,134,135,136,137,138],[]⟩,⟨[],[],[122,123,124,125,126,127,128,129,132,136],[]⟩,⟨[8],[],[122,123,124,125,126,127,128,129,132,136],[]⟩,⟨[],[],[122,123,124,125,126,127,128,129,130,131,136],[]⟩,⟨[9,8,10],[],[122,123,124,125,126,127,128,129,136],[]⟩,⟨[11,9,8,10],[],[122,123,124,125,126,127,128,129,136],[]⟩,⟨[12,11,9,8,10],[],[122,123,124,125,126,127,128,129,136],[]⟩,⟨[],[],[122,123,124,125,126,127,128,129,130,131,132,133,134,135],[]⟩,⟨[13,12,11,9,8,10,14],[],[122,123,124,125,126,127,128,129],[]⟩,⟨[15,13,12,11,9,8,10,14],[],[122,123,124,125,126,127,128,129],[]⟩,⟨[7,16,15,13,12,11,9,8,10,14],[],[122,123,124,125,126,127,128],[]⟩,⟨[17,7,16,15,13,12,11,9,8,10,14],[],[122,123,124,125,126,127,128],[]⟩,⟨[5,4,3,1,0,2,6,7,8,9,10,11,12,13,14,15,16,17,18],[],[],[]⟩,⟨[19,5,4,3,1,0,2,6,7,8,9,10,11,12,13,14,15,16,17,18],[2080],[],[]⟩]),
  (19,[⟨[],[],[99,100,101,102,103,104,105,106,107,108],[]⟩,⟨[0],[],[99,100,101,102,103,104,105,106,107,108],[]⟩,⟨[],[],[97,98,100,101,102,103,104,105,106,107,108],[]⟩,⟨[],[],[97,98,99,101,102,103,104,105,106],[]⟩,⟨[],[],[97,98,99,100,103],[]⟩,⟨[4],[],[97,98,99,100,103],[]⟩,⟨[],[],[97,98,99,100,101,102],[]⟩,⟨[5,4,6],[],[97,98,99,100],[]⟩,⟨[7,5,4,6],[],[97,98,99,100],[]⟩,⟨[8,7,5,4,6],[],[97,98,99,100],[]⟩,⟨[3,9,8,7,5,4,6],[],[97,98,99],[]⟩,⟨[10,3,9,8,7,5,4,6],[],[97,98,99],[]⟩,⟨[1,0,2,3,4,5,6,7,8,9,10,11],[],[],[]⟩,⟨[12,1,0,2,3,4,5,6,7,8,9,10,11],[],[],[]⟩,⟨[13,12,1,0,2,3,4,5,6,7,8,9,10,11],[2080],[],[]⟩]),
  (12,[⟨[],[],[78],[]⟩,⟨[],[],[77],[3006,6]⟩,⟨[0],[3006,6],[78],[]⟩,⟨[1,2,0],[7],[],[]⟩]),
  (9,[⟨[],[],[50],[]⟩,⟨[],[],[49],[]⟩,⟨[0,1],[],[],[]⟩,⟨[2,0,1],[],[],[]⟩,⟨[3,2,0,1],[],[],[]⟩,⟨[4,3,2,0,1],[],[],[]⟩,⟨[5,4,3,2,0,1],[],[56,59],[]⟩,⟨[5,4,3,2,0,1],[],[55,59],[]⟩,⟨[6,5,4,3,2,0,1,7],[],[59],[]⟩,⟨[8,6,5,4,3,2,0,1,7],[],[59],[]⟩,⟨[5,4,3,2,0,1],[],[55,56,57,58],[]⟩,⟨[9,8,6,5,4,3,2,0,1,7,10],[],[],[]⟩,⟨[5,4,3,2,0,1,11,9,8,6,7,10],[],[],[]⟩,⟨[12,5,4,3,2,0,1,11,9,8,6,7,10],[],[],[]⟩,⟨[13,12,5,4,3,2,0,1,11,9,8,6,7,10],[],[64,66,67,68,69],[]⟩,⟨[13,12,5,4,3,2,0,1,11,9,8,6,7,10],[],[63,66,67,68,69],[]⟩,⟨[14,13,12,5,4,3,2,0,1,11,9,8,6,7,10,15],[],[66,67,68,69],[]⟩,⟨[13,12,5,4,3,2,0,1,11,9,8,6,7,10],[],[63,64,65,67],[]⟩,⟨[13,12,5,4,3,2,0,1,11,9,8,6,7,10],[],[63,64,65,66],[]⟩,⟨[17,13,12,5,4,3,2,0,1,11,9,8,6,7,10,18],[],[63,64,65],[]⟩,⟨[19,17,13,12,5,4,3,2,0,1,11,9,8,6,7,10,18],[],[63,64,65],[]⟩,⟨[16,14,13,12,5,4,3,2,0,1,11,9,8,6,7,10,15,20,19,17,18],[],[],[]⟩,⟨[13,12,5,4,3,2,0,1,11,9,8,6,7,10,21,16,14,15,20,19,17,18],[],[],[]⟩])],[(24,ja.c24r),(100016,ja.c100016r),(100021,ja.c100021r),(23,ja.c23r),(273733,ja.c273733r),(19,ja.c19r),(12,ja.c12r),(100007,ja.c100007r),(236870,ja.c236870r),(9,ja.c9r),(7,ja.c7r),(216389,ja.c216389r),(4,ja.c4r),(208197,ja.c208197r),(2,ja.c2r)],[(11,js.mc)],Jf,[]⟩
theorem ja.eq (x_:densU ja.mc.pre.tys):denM ja.G Tryd.f28 ja.mc.pre ja.mc.post x_=ja.mc.F x_:=by kernel_rfl
theorem ja.p0:PcA ja.G Tryd.f28 0:=
  kn (s:=ja.c208197r) (by kernel_rfl) (by kernel_rfl) (jF (sh:=ja.c208197s) (fun ρ x_ k_=>(je fun _=>(jw (je fun _=>jc) jc))) (fun ρ x_ t k=>(by kernel_rfl)) (fun x_=>by kernel_rfl))
theorem ja.p1:PcA ja.G Tryd.f28 1:=
  jG (s:=ja.c2r) (by kernel_rfl) (by kernel_rfl) (jF (sh:=ja.c2s) (fun ρ x_ k_=>(jw (jw jc jc) jc)) (fun ρ x_ t k=>(by kernel_rfl)) (fun x_=>by kernel_rfl))
theorem ja.p2:PcA ja.G Tryd.f28 2:=
  kn (s:=ja.c216389r) (by kernel_rfl) (by kernel_rfl) (jF (sh:=ja.c216389s) (fun ρ x_ k_=>(je fun _=>(jw (je fun _=>jc) jc))) (fun ρ x_ t k=>(by kernel_rfl)) (fun x_=>by kernel_rfl))
theorem ja.p3:PcA ja.G Tryd.f28 3:=
  jG (s:=ja.c4r) (by kernel_rfl) (by kernel_rfl) (jF (sh:=ja.c4s) (fun ρ x_ k_=>(jw jc jc)) (fun ρ x_ t k=>(by kernel_rfl)) (fun x_=>by kernel_rfl))
theorem ja.p4:PcA ja.G Tryd.f28 4:=
  JA (s:=ja.c100007r) (by kernel_rfl) (by kernel_rfl) (Jt (sh:=ja.c100007s) (I:=fun x_ s_=>(x_.1,x_.2.1,x_.2.2.1,s_.1,x_.2.2.2.2.1,x_.2.2.2.2.2.1,x_.2.2.2.2.2.2.1,x_.2.2.2.2.2.2.2.1,x_.2.2.2.2.2.2.2.2.1,x_.2.2.2.2.2.2.2.2.2.1,x_.2.2.2.2.2.2.2.2.2.2.1,s_.2.1,s_.2.2,x_.2.2.2.2.2.2.2.2.2.2.2.2.2)) (fun x_=>rfl) (fun ρ x_ s_ k_=>(je fun _=>(jw (je fun _=>jc) jc))) (fun ρ x_ t k=>(by kernel_rfl)) (fun x_ s=>by kernel_rfl))
theorem ja.p5:PcA ja.G Tryd.f28 5:=
  jG (s:=ja.c7r) (by kernel_rfl) (by kernel_rfl) (jF (sh:=ja.c7s) (fun ρ x_ k_=>(jw jc jc)) (fun ρ x_ t k=>(by kernel_rfl)) (fun x_=>by kernel_rfl))
theorem ja.p6:PcA ja.G Tryd.f28 6:=
  kn (s:=ja.c236870r) (by kernel_rfl) (by kernel_rfl) (jF (sh:=ja.c236870s) (fun ρ x_ k_=>(je fun _=>(jw (je fun _=>jc) jc))) (fun ρ x_ t k=>(by kernel_rfl)) (fun x_=>by kernel_rfl))
theorem ja.p7:PcA ja.G Tryd.f28 7:=
  jG (s:=ja.c9r) (by kernel_rfl) (by kernel_rfl) (jF (sh:=ja.c9s) (fun ρ x_ k_=>(je fun _=>(jw jc (je fun _=>(jw jc (je fun _=>(je fun _=>(je fun _=>jc)))))))) (fun ρ x_ t k=>(by kernel_rfl)) (fun x_=>by kernel_rfl))
theorem ja.p8:PcA ja.G Tryd.f28 8:=
  jG (s:=ja.c12r) (by kernel_rfl) (by kernel_rfl) (jF (sh:=ja.c12s) (fun ρ x_ k_=>jc) (fun ρ x_ t k=>(by kernel_rfl)) (fun x_=>by kernel_rfl))
theorem ja.p9:PcA ja.G Tryd.f28 9:=
  JA (s:=ja.c100016r) (by kernel_rfl) (by kernel_rfl) (Jt (sh:=ja.c100016s) (I:=fun x_ s_=>(x_.1,x_.2.1,x_.2.2.1,x_.2.2.2.1,s_.1,x_.2.2.2.2.2.1,x_.2.2.2.2.2.2.1,x_.2.2.2.2.2.2.2.1,x_.2.2.2.2.2.2.2.2.1,x_.2.2.2.2.2.2.2.2.2.1,x_.2.2.2.2.2.2.2.2.2.2.1,x_.2.2.2.2.2.2.2.2.2.2.2.1,x_.2.2.2.2.2.2.2.2.2.2.2.2.1,x_.2.2.2.2.2.2.2.2.2.2.2.2.2.1,x_.2.2.2.2.2.2.2.2.2.2.2.2.2.2.1,x_.2.2.2.2.2.2.2.2.2.2.2.2.2.2.2.1,s_.2,x_.2.2.2.2.2.2.2.2.2.2.2.2.2.2.2.2.2)) (fun x_=>rfl) (fun ρ x_ s_ k_=>(jw (je fun _=>(je fun _=>jc)) jc)) (fun ρ x_ t k=>(by kernel_rfl)) (fun x_ s=>by kernel_rfl))
theorem ja.p10:PcA ja.G Tryd.f28 10:=
  kn (s:=ja.c273733r) (by kernel_rfl) (by kernel_rfl) (jF (sh:=ja.c273733s) (fun ρ x_ k_=>(je fun _=>(je fun _=>(jw (je fun _=>jc) jc)))) (fun ρ x_ t k=>(by kernel_rfl)) (fun x_=>by kernel_rfl))
theorem ja.p11:PcA ja.G Tryd.f28 11:=
  jG (s:=ja.c19r) (by kernel_rfl) (by kernel_rfl) (jF (sh:=ja.c19s) (fun ρ x_ k_=>(je fun _=>(je fun _=>(je fun _=>(je fun _=>(je fun _=>jc)))))) (fun ρ x_ t k=>(by kernel_rfl)) (fun x_=>by kernel_rfl))
theorem ja.p12:PcA ja.G Tryd.f28 12:=
  JA (s:=ja.c100021r) (by kernel_rfl) (by kernel_rfl) (Jt (sh:=ja.c100021s) (I:=fun x_ s_=>(x_.1,x_.2.1,x_.2.2.1,x_.2.2.2.1,x_.2.2.2.2.1,s_.1,x_.2.2.2.2.2.2.1,x_.2.2.2.2.2.2.2.1,x_.2.2.2.2.2.2.2.2.1,x_.2.2.2.2.2.2.2.2.2.1,x_.2.2.2.2.2.2.2.2.2.2.1,x_.2.2.2.2.2.2.2.2.2.2.2.1,x_.2.2.2.2.2.2.2.2.2.2.2.2.1,x_.2.2.2.2.2.2.2.2.2.2.2.2.2.1,x_.2.2.2.2.2.2.2.2.2.2.2.2.2.2.1,x_.2.2.2.2.2.2.2.2.2.2.2.2.2.2.2.1,x_.2.2.2.2.2.2.2.2.2.2.2.2.2.2.2.2.1,s_.2,x_.2.2.2.2.2.2.2.2.2.2.2.2.2.2.2.2.2.2)) (fun x_=>rfl) (fun ρ x_ s_ k_=>(je fun _=>(je fun _=>(je fun _=>(jw (je fun _=>jc) jc))))) (fun ρ x_ t k=>(by kernel_rfl)) (fun x_ s=>by kernel_rfl))
theorem ja.p13:PcA ja.G Tryd.f28 13:=
  jG (s:=ja.c23r) (by kernel_rfl) (by kernel_rfl) (jF (sh:=ja.c23s) (fun ρ x_ k_=>(je fun _=>(je fun _=>(je fun _=>(je fun _=>(je fun _=>(je fun _=>(je fun _=>(je fun _=>(je fun _=>(je fun _=>(je fun _=>(je fun _=>(je fun _=>jc)))))))))))))) (fun ρ x_ t k=>(by kernel_rfl)) (fun x_=>by kernel_rfl))
theorem ja.p14:PcA ja.G Tryd.f28 14:=
  jG (s:=ja.c24r) (by kernel_rfl) (by kernel_rfl) (jF (sh:=ja.c24s) (fun ρ x_ k_=>jc) (fun ρ x_ t k=>(by kernel_rfl)) (fun x_=>by kernel_rfl))
theorem ja.ok:MOk Tryd.prog 28 ja.mc:=kb (G:=ja.G) Js mixed Tryd.func28 ⟨(Ja jL.ok (Ja JE.ok (Ja Jv.ok Je))),(Jj js.ok jU),jO,jT⟩ (m:=15) (by kernel_rfl) ⟨⟨⟨⟨⟨⟨⟨⟨⟨⟨⟨⟨⟨⟨⟨trivial,ja.p0⟩,ja.p1⟩,ja.p2⟩,ja.p3⟩,ja.p4⟩,ja.p5⟩,ja.p6⟩,ja.p7⟩,ja.p8⟩,ja.p9⟩,ja.p10⟩,ja.p11⟩,ja.p12⟩,ja.p13⟩,ja.p14⟩ (by kernel_rfl) ja.eq
abbrev co46:SD:=.agg [.val (.int .i64),.val (.int .i64),.down 2000500 0]
abbrev co47:SO:=.box [.val (.int .i64),.val (.int .i64),.down 2000500 0]
def jq.pre:Shape:=⟨[(0,co46)],[(2000500,co12)]⟩
def jq.post:Shape:=⟨[],[(2000500,co12)]⟩
def jq.c100005 {ρ:Type} (i:Int) (t17:Int) (t18:Int) (t2000500:List ((Int)×((Int)×((List Int)×((Int)×((Int)×(List Int))))))) (k_:((Int)×(List ((Int)×((Int)×((List Int)×((Int)×((Int)×(List Int))))))))⊕((Int)×(List ((Int)×((Int)×((List Int)×((Int)×((Int)×(List Int))))))))→Option ρ):Option ρ:=
  br (decide (t18 < t17))
   (bnd (inR (List.length t2000500) i) fun y=>
    bnd (idx t2000500 i) fun y_1=>
    bnd (idx t2000500 i) fun y_2=>
    bnd (inR (List.length y_2.2.2.1) t18) fun y_3=>
    bnd (idx t2000500 i) fun y_4=>
    bnd (idx y_4.2.2.1 t18) fun y_5=>
    bnd (idx t2000500 i) fun y_6=>
    bnd (inR (List.length y_6.2.2.1) t18) fun y_7=>
    bnd (idx t2000500 i) fun y_8=>
    bnd (idx y_8.2.2.1 t18) fun y_9=>
    k_ (.inl ((IntKind.i64.wrap (t18+(1:Int))),(List.set t2000500 (Int.toNat i) (y_8.1,y_8.2.1,List.set y_8.2.2.1 (Int.toNat t18) (IntKind.i64.wrap (y_5+(100:Int))),y_8.2.2.2)))))
   (k_ (.inr (t18,t2000500)))
def jq.c100005s:Shape:=⟨[(0,co46),(1,co3),(2,co17),(7,co17),(8,co17),(17,co17),(18,co17)],[(1,co47),(2000500,co12)]⟩
def jq.c100005x0:Shape:=jq.c100005s
def jq.c100005r:Ck:=Ck.ofLoop (S:=(Int)×(List ((Int)×((Int)×((List Int)×((Int)×((Int)×(List Int)))))))) (T:=(Int)×(List ((Int)×((Int)×((List Int)×((Int)×((Int)×(List Int)))))))) jq.c100005s (fun x_=>(x_.2.2.2.2.2.2.1,x_.2.2.2.2.2.2.2.2.2.1)) (fun ρ x_ s_ k_=>jq.c100005 x_.2.2.1 x_.2.2.2.2.2.1 s_.1 s_.2 k_) (fun ρ x_ r_ k_=>k_ 4 (Shape.inj jq.c100005x0 (x_.1,x_.2.1,x_.2.2.1,x_.2.2.2.1,x_.2.2.2.2.1,x_.2.2.2.2.2.1,r_.1,x_.2.2.2.2.2.2.2.1,x_.2.2.2.2.2.2.2.2.1,r_.2,())))
def jq.c100010 {ρ:Type} (i:Int) (t39:Int) (t40:Int) (t2000500:List ((Int)×((Int)×((List Int)×((Int)×((Int)×(List Int))))))) (k_:((Int)×(List ((Int)×((Int)×((List Int)×((Int)×((Int)×(List Int))))))))⊕((Int)×(List ((Int)×((Int)×((List Int)×((Int)×((Int)×(List Int))))))))→Option ρ):Option ρ:=
  br (decide (t40 < t39))
   (bnd (inR (List.length t2000500) i) fun y=>
    bnd (idx t2000500 i) fun y_1=>
    bnd (idx t2000500 i) fun y_2=>
    bnd (inR (List.length y_2.2.2.2.2.2) t40) fun y_3=>
    bnd (idx t2000500 i) fun y_4=>
    bnd (idx y_4.2.2.2.2.2 t40) fun y_5=>
    bnd (idx t2000500 i) fun y_6=>
    bnd (inR (List.length y_6.2.2.2.2.2) t40) fun y_7=>
    bnd (idx t2000500 i) fun y_8=>
    bnd (idx y_8.2.2.2.2.2 t40) fun y_9=>
    k_ (.inl ((IntKind.i64.wrap (t40+(1:Int))),(List.set t2000500 (Int.toNat i) (y_8.1,y_8.2.1,y_8.2.2.1,y_8.2.2.2.1,y_8.2.2.2.2.1,List.set y_8.2.2.2.2.2 (Int.toNat t40) (IntKind.i64.wrap (y_5+(100:Int))))))))
   (k_ (.inr (t40,t2000500)))
def jq.c100010s:Shape:=⟨[(0,co46),(1,co3),(2,co17),(7,co17),(8,co17),(17,co17),(18,co17),(39,co17),(40,co17)],[(1,co47),(2000500,co12)]⟩
def jq.c100010x0:Shape:=jq.c100010s
def jq.c100010r:Ck:=Ck.ofLoop (S:=(Int)×(List ((Int)×((Int)×((List Int)×((Int)×((Int)×(List Int)))))))) (T:=(Int)×(List ((Int)×((Int)×((List Int)×((Int)×((Int)×(List Int)))))))) jq.c100010s (fun x_=>(x_.2.2.2.2.2.2.2.2.1,x_.2.2.2.2.2.2.2.2.2.2.2.1)) (fun ρ x_ s_ k_=>jq.c100010 x_.2.2.1 x_.2.2.2.2.2.2.2.1 s_.1 s_.2 k_) (fun ρ x_ r_ k_=>k_ 6 (Shape.inj jq.c100010x0 (x_.1,x_.2.1,x_.2.2.1,x_.2.2.2.1,x_.2.2.2.2.1,x_.2.2.2.2.2.1,x_.2.2.2.2.2.2.1,x_.2.2.2.2.2.2.2.1,r_.1,x_.2.2.2.2.2.2.2.2.2.1,x_.2.2.2.2.2.2.2.2.2.2.1,r_.2,())))
def jq.c100002 {ρ:Type} (t7:Int) (t8:Int) (t2000500:List ((Int)×((Int)×((List Int)×((Int)×((Int)×(List Int))))))) (k_:((Int)×(List ((Int)×((Int)×((List Int)×((Int)×((Int)×(List Int))))))))⊕((Int)×(List ((Int)×((Int)×((List Int)×((Int)×((Int)×(List Int))))))))→Option ρ):Option ρ:=
  br (decide (t8 < t7))
   (bnd (inR (List.length t2000500) t8) fun y=>
    bnd (idx t2000500 t8) fun y_1=>
    bnd (idx t2000500 t8) fun y_2=>
    bnd (iter (fun s↦W.jq.c100005 t8 (↑(List.length y_2.2.2.1):Int) s.1 s.2 some) ((0:Int),t2000500)) fun y_3=>
    bnd (inR (List.length y_3.2) t8) fun y_4=>
    bnd (idx y_3.2 t8) fun y_5=>
    bnd (idx y_3.2 t8) fun y_6=>
    bnd (iter (fun s↦W.jq.c100010 t8 (↑(List.length y_6.2.2.2.2.2):Int) s.1 s.2 some) ((0:Int),y_3.2)) fun y_7=>
    bnd (inR (List.length y_7.2) t8) fun y_8=>
    bnd (idx y_7.2 t8) fun y_9=>
    bnd (inR (List.length y_7.2) t8) fun y_10=>
    bnd (idx y_7.2 t8) fun y_11=>
    k_ (.inl ((IntKind.i64.wrap (t8+(1:Int))),(List.set y_7.2 (Int.toNat t8) (y_11.1,IntKind.i64.wrap (y_9.2.1+(100:Int)),y_11.2.2)))))
   (k_ (.inr (t8,t2000500)))
def jq.c100002s:Shape:=⟨[(0,co46),(1,co3),(7,co17),(8,co17)],[(1,co47),(2000500,co12)]⟩
def jq.c100002x0:Shape:=jq.c100002s
def jq.c100002r:Ck:=Ck.ofLoop (S:=(Int)×(List ((Int)×((Int)×((List Int)×((Int)×((Int)×(List Int)))))))) (T:=(Int)×(List ((Int)×((Int)×((List Int)×((Int)×((Int)×(List Int)))))))) jq.c100002s (fun x_=>(x_.2.2.2.1,x_.2.2.2.2.2.2.1)) (fun ρ x_ s_ k_=>jq.c100002 x_.2.2.1 s_.1 s_.2 k_) (fun ρ x_ r_ k_=>k_ 2 (Shape.inj jq.c100002x0 (x_.1,x_.2.1,x_.2.2.1,r_.1,x_.2.2.2.2.1,x_.2.2.2.2.2.1,r_.2,())))
def jq (c0:Int) (c1:Int) (t2000500:List ((Int)×((Int)×((List Int)×((Int)×((Int)×(List Int))))))):Option ((List ((Int)×((Int)×((List Int)×((Int)×((Int)×(List Int)))))))×Unit):=
  bnd (iter (fun s↦W.jq.c100002 (↑(List.length t2000500):Int) s.1 s.2 some) ((0:Int),t2000500)) fun y=>
  some (y.2,())
def jq.mc:MCallee:=⟨31,jq.pre,jq.post,fun x_=>jq x_.1 x_.2.1 x_.2.2.1⟩
def jq.G:Env:=⟨65,tab,[],[0,1,2,3,4,7,8,9,17,18,19,39,40,41],[1,3001,2000500],[],[(100002,jq.c100002r),(100010,jq.c100010r),(100005,jq.c100005r)],[],Jf,[]⟩
theorem jq.eq (x_:densU jq.mc.pre.tys):denM jq.G Tryd.f31 jq.mc.pre jq.mc.post x_=jq.mc.F x_:=by kernel_rfl
theorem jq.p0:PcA jq.G Tryd.f31 0:=
  JA (s:=jq.c100002r) (by kernel_rfl) (by kernel_rfl) (Jt (sh:=jq.c100002s) (I:=fun x_ s_=>(x_.1,x_.2.1,x_.2.2.1,s_.1,x_.2.2.2.2.1,x_.2.2.2.2.2.1,s_.2,())) (fun x_=>rfl) (fun ρ x_ s_ k_=>(jw (je fun _=>(je fun _=>(je fun _=>(je fun _=>(je fun _=>(je fun _=>(je fun _=>(je fun _=>(je fun _=>(je fun _=>(je fun _=>(je fun _=>jc)))))))))))) jc)) (fun ρ x_ t k=>(by kernel_rfl)) (fun x_ s=>by kernel_rfl))
theorem jq.p1:PcA jq.G Tryd.f31 1:=
  JA (s:=jq.c100005r) (by kernel_rfl) (by kernel_rfl) (Jt (sh:=jq.c100005s) (I:=fun x_ s_=>(x_.1,x_.2.1,x_.2.2.1,x_.2.2.2.1,x_.2.2.2.2.1,x_.2.2.2.2.2.1,s_.1,x_.2.2.2.2.2.2.2.1,x_.2.2.2.2.2.2.2.2.1,s_.2,())) (fun x_=>rfl) (fun ρ x_ s_ k_=>(jw (je fun _=>(je fun _=>(je fun _=>(je fun _=>(je fun _=>(je fun _=>(je fun _=>(je fun _=>(je fun _=>(je fun _=>jc)))))))))) jc)) (fun ρ x_ t k=>(by kernel_rfl)) (fun x_ s=>by kernel_rfl))
theorem jq.p2:PcA jq.G Tryd.f31 2:=
  JA (s:=jq.c100010r) (by kernel_rfl) (by kernel_rfl) (Jt (sh:=jq.c100010s) (I:=fun x_ s_=>(x_.1,x_.2.1,x_.2.2.1,x_.2.2.2.1,x_.2.2.2.2.1,x_.2.2.2.2.2.1,x_.2.2.2.2.2.2.1,x_.2.2.2.2.2.2.2.1,s_.1,x_.2.2.2.2.2.2.2.2.2.1,x_.2.2.2.2.2.2.2.2.2.2.1,s_.2,())) (fun x_=>rfl) (fun ρ x_ s_ k_=>(jw (je fun _=>(je fun _=>(je fun _=>(je fun _=>(je fun _=>(je fun _=>(je fun _=>(je fun _=>(je fun _=>(je fun _=>jc)))))))))) jc)) (fun ρ x_ t k=>(by kernel_rfl)) (fun x_ s=>by kernel_rfl))
theorem jq.ok:MOk Tryd.prog 31 jq.mc:=kb (G:=jq.G) Js mixed Tryd.func31 ⟨Je,jU,jO,jT⟩ (m:=3) (by kernel_rfl) ⟨⟨⟨trivial,jq.p0⟩,jq.p1⟩,jq.p2⟩ (by kernel_rfl) jq.eq
end
end W
end

section
set_option maxHeartbeats 4000000
set_option maxRecDepth 100000
set_option linter.unusedVariables false
namespace W
open Go Go.Ql Go.Proofs
noncomputable section
abbrev cp0:SD:=.one (.val (.st (.pair (.int .i64) (.pair (.int .i64) (.sl (.st (.pair (.int .i64) (.pair (.int .i64) (.pair (.sl (.int .i64)) (.pair (.int .i64) (.pair (.int .i64) (.sl (.int .i64)))))))))))))
abbrev cp1:SD:=.one (.val (.sl (.int .i64)))
abbrev cp2:SD:=.one (.val (.int .i64))
abbrev cp3:SD:=.one (.ref 3 0)
abbrev cp4:SD:=.one (.val .bool)
abbrev cp5:SD:=.one (.ref 7 0)
abbrev cp6:SD:=.one (.ref 9 0)
abbrev cp7:SD:=.one (.ref 10 0)
abbrev cp8:SD:=.one (.ref 11 0)
abbrev cp9:SD:=.one (.ref 12 0)
abbrev cp10:SO:=.box [.val (.int .i64),.val (.int .i64),.val (.sl (.st (.pair (.int .i64) (.pair (.int .i64) (.pair (.sl (.int .i64)) (.pair (.int .i64) (.pair (.int .i64) (.sl (.int .i64)))))))))]
abbrev cp11:SO:=.box [.val (.int .i64),.val (.int .i64),.down 2039 0]
abbrev cp12:SO:=.box [.val (.int .i64),.val (.int .i64),.down 2044 0]
abbrev cp13:SO:=.box [.val (.int .i64),.val (.int .i64)]
abbrev cp14:SO:=.deep 0 57 3 (.st (.pair (.int .i64) (.pair (.int .i64) (.pair (.sl (.int .i64)) (.pair (.int .i64) (.pair (.int .i64) (.sl (.int .i64))))))))
abbrev cp15:SO:=.box [.val (.int .i64),.val (.int .i64),.down 2051 0]
abbrev cp16:SO:=.box [.val (.int .i64),.val (.int .i64),.down 2056 0]
abbrev cp17:SO:=.box [.val (.int .i64),.val (.int .i64),.down 2064 0]
abbrev cp18:SO:=.box [.val (.int .i64),.val (.int .i64),.down 2070 0]
abbrev cp19:SO:=.box [.val (.int .i64),.val (.int .i64),.down 2025 0]
abbrev cp20:SO:=.box [.val (.int .i64),.val (.int .i64),.down 2032 0]
def jm.c25 {ρ:Type} (c0:Int) (c1:Int) (c2:List ((Int)×((Int)×((List Int)×((Int)×((Int)×(List Int))))))) (given0:Int) (given1:Int) (given2:List ((Int)×((Int)×((List Int)×((Int)×((Int)×(List Int))))))) (x0:Int) (x1:Int) (y0:Int) (y1:Int) (t2039:List ((Int)×((Int)×((List Int)×((Int)×((Int)×(List Int))))))) (t2044:List ((Int)×((Int)×((List Int)×((Int)×((Int)×(List Int))))))) (k_:Bool→Option ρ):Option ρ:=
  bnd (W.jt (x0,x1,t2039) (y0,y1,t2044)) fun y=>
  br (!y)
   (k_ true)
   (bnd (W.jt (given0,given1,given2) (c0,c1,c2)) fun y_1=>
    k_ (!y_1))
def jm.c25s:Shape:=⟨[(0,cp0),(1,cp1),(2,cp2),(3,cp3),(6,cp4),(7,cp5),(8,cp2),(9,cp6),(10,cp7),(11,cp8),(12,cp9),(15,cp2),(18,cp2)],[(3,cp10),(7,cp10),(9,cp11),(10,cp12),(11,cp13),(12,cp13),(2039,cp14),(2044,cp14),(3009,cp14),(3010,cp14)]⟩
def jm.c25x0:Shape:=⟨[(0,cp0),(1,cp1),(2,cp2),(3,cp3),(6,cp4),(7,cp5),(8,cp2),(9,cp6),(10,cp7),(11,cp8),(12,cp9),(15,cp2),(18,cp2),(92,cp4)],[(3,cp10),(7,cp10),(9,cp11),(10,cp12),(11,cp13),(12,cp13),(2039,cp14),(2044,cp14),(3009,cp14),(3010,cp14)]⟩
def jm.c25r:Ck:=Ck.of (T:=Bool) jm.c25s (fun ρ x_ k_=>jm.c25 x_.2.2.2.2.2.2.2.1 x_.2.2.2.2.2.2.2.2.1 x_.2.2.2.2.2.2.2.2.2.1 x_.2.2.2.2.2.2.2.2.2.2.1 x_.2.2.2.2.2.2.2.2.2.2.2.1 x_.2.2.2.2.2.2.2.2.2.2.2.2.1 x_.2.2.2.2.2.2.2.2.2.2.2.2.2.1 x_.2.2.2.2.2.2.2.2.2.2.2.2.2.2.1 x_.2.2.2.2.2.2.2.2.2.2.2.2.2.2.2.1 x_.2.2.2.2.2.2.2.2.2.2.2.2.2.2.2.2.1 x_.2.2.2.2.2.2.2.2.2.2.2.2.2.2.2.2.2.2.2.2.2.1 x_.2.2.2.2.2.2.2.2.2.2.2.2.2.2.2.2.2.2.2.2.2.2.1 k_) (fun ρ x_ r_ k_=>k_ 0 (Shape.inj jm.c25x0 (x_.1,x_.2.1,x_.2.2.1,x_.2.2.2.1,x_.2.2.2.2.1,x_.2.2.2.2.2.1,x_.2.2.2.2.2.2.1,r_,x_.2.2.2.2.2.2.2)))
def jm.c25v1 {ρ:Type} (c0:Int) (c1:Int) (c2:List ((Int)×((Int)×((List Int)×((Int)×((Int)×(List Int))))))) (given0:Int) (given1:Int) (given2:List ((Int)×((Int)×((List Int)×((Int)×((Int)×(List Int))))))) (x0:Int) (x1:Int) (y0:Int) (y1:Int) (t2051:List ((Int)×((Int)×((List Int)×((Int)×((Int)×(List Int))))))) (t2056:List ((Int)×((Int)×((List Int)×((Int)×((Int)×(List Int))))))) (k_:Bool→Option ρ):Option ρ:=
  bnd (W.jt (x0,x1,t2051) (y0,y1,t2056)) fun y=>
  br (!y)
   (k_ true)
   (bnd (W.jt (given0,given1,given2) (c0,c1,c2)) fun y_1=>
    k_ (!y_1))
def jm.c25v1s:Shape:=⟨[(0,cp0),(1,cp1),(2,cp2),(3,cp3),(6,cp4),(7,cp5),(8,cp2),(9,cp6),(10,cp7),(11,cp8),(12,cp9),(15,cp2),(18,cp2)],[(3,cp10),(7,cp10),(9,cp15),(10,cp16),(11,cp13),(12,cp13),(2051,cp14),(2056,cp14),(3009,cp14),(3010,cp14)]⟩
def jm.c25v1x0:Shape:=⟨[(0,cp0),(1,cp1),(2,cp2),(3,cp3),(6,cp4),(7,cp5),(8,cp2),(9,cp6),(10,cp7),(11,cp8),(12,cp9),(15,cp2),(18,cp2),(92,cp4)],[(3,cp10),(7,cp10),(9,cp15),(10,cp16),(11,cp13),(12,cp13),(2051,cp14),(2056,cp14),(3009,cp14),(3010,cp14)]⟩
def jm.c25v1r:Ck:=Ck.of (T:=Bool) jm.c25v1s (fun ρ x_ k_=>jm.c25v1 x_.2.2.2.2.2.2.2.1 x_.2.2.2.2.2.2.2.2.1 x_.2.2.2.2.2.2.2.2.2.1 x_.2.2.2.2.2.2.2.2.2.2.1 x_.2.2.2.2.2.2.2.2.2.2.2.1 x_.2.2.2.2.2.2.2.2.2.2.2.2.1 x_.2.2.2.2.2.2.2.2.2.2.2.2.2.1 x_.2.2.2.2.2.2.2.2.2.2.2.2.2.2.1 x_.2.2.2.2.2.2.2.2.2.2.2.2.2.2.2.1 x_.2.2.2.2.2.2.2.2.2.2.2.2.2.2.2.2.1 x_.2.2.2.2.2.2.2.2.2.2.2.2.2.2.2.2.2.2.2.2.2.1 x_.2.2.2.2.2.2.2.2.2.2.2.2.2.2.2.2.2.2.2.2.2.2.1 k_) (fun ρ x_ r_ k_=>k_ 0 (Shape.inj jm.c25v1x0 (x_.1,x_.2.1,x_.2.2.1,x_.2.2.2.1,x_.2.2.2.2.1,x_.2.2.2.2.2.1,x_.2.2.2.2.2.2.1,r_,x_.2.2.2.2.2.2.2)))
def jm.c25v1o:Ck:=Ck.or jm.c25v1s jm.c25v1r jm.c25r
def jm.c25v2 {ρ:Type} (c0:Int) (c1:Int) (c2:List ((Int)×((Int)×((List Int)×((Int)×((Int)×(List Int))))))) (given0:Int) (given1:Int) (given2:List ((Int)×((Int)×((List Int)×((Int)×((Int)×(List Int))))))) (x0:Int) (x1:Int) (y0:Int) (y1:Int) (t2064:List ((Int)×((Int)×((List Int)×((Int)×((Int)×(List Int))))))) (t2070:List ((Int)×((Int)×((List Int)×((Int)×((Int)×(List Int))))))) (k_:Bool→Option ρ):Option ρ:=
  bnd (W.jt (x0,x1,t2064) (y0,y1,t2070)) fun y=>
  br (!y)
   (k_ true)
   (bnd (W.jt (given0,given1,given2) (c0,c1,c2)) fun y_1=>
    k_ (!y_1))
def jm.c25v2s:Shape:=⟨[(0,cp0),(1,cp1),(2,cp2),(3,cp3),(6,cp4),(7,cp5),(8,cp2),(9,cp6),(10,cp7),(11,cp8),(12,cp9),(15,cp2),(18,cp2)],[(3,cp10),(7,cp10),(9,cp17),(10,cp18),(11,cp13),(12,cp13),(2064,cp14),(2070,cp14),(3009,cp14),(3010,cp14)]⟩
def jm.c25v2x0:Shape:=⟨[(0,cp0),(1,cp1),(2,cp2),(3,cp3),(6,cp4),(7,cp5),(8,cp2),(9,cp6),(10,cp7),(11,cp8),(12,cp9),(15,cp2),(18,cp2),(92,cp4)],[(3,cp10),(7,cp10),(9,cp17),(10,cp18),(11,cp13),(12,cp13),(2064,cp14),(2070,cp14),(3009,cp14),(3010,cp14)]⟩
def jm.c25v2r:Ck:=Ck.of (T:=Bool) jm.c25v2s (fun ρ x_ k_=>jm.c25v2 x_.2.2.2.2.2.2.2.1 x_.2.2.2.2.2.2.2.2.1 x_.2.2.2.2.2.2.2.2.2.1 x_.2.2.2.2.2.2.2.2.2.2.1 x_.2.2.2.2.2.2.2.2.2.2.2.1 x_.2.2.2.2.2.2.2.2.2.2.2.2.1 x_.2.2.2.2.2.2.2.2.2.2.2.2.2.1 x_.2.2.2.2.2.2.2.2.2.2.2.2.2.2.1 x_.2.2.2.2.2.2.2.2.2.2.2.2.2.2.2.1 x_.2.2.2.2.2.2.2.2.2.2.2.2.2.2.2.2.1 x_.2.2.2.2.2.2.2.2.2.2.2.2.2.2.2.2.2.2.2.2.2.1 x_.2.2.2.2.2.2.2.2.2.2.2.2.2.2.2.2.2.2.2.2.2.2.1 k_) (fun ρ x_ r_ k_=>k_ 0 (Shape.inj jm.c25v2x0 (x_.1,x_.2.1,x_.2.2.1,x_.2.2.2.1,x_.2.2.2.2.1,x_.2.2.2.2.2.1,x_.2.2.2.2.2.2.1,r_,x_.2.2.2.2.2.2.2)))
def jm.c25v2o:Ck:=Ck.or jm.c25v2s jm.c25v2r jm.c25v1o
def jm.c25v3 {ρ:Type} (c0:Int) (c1:Int) (c2:List ((Int)×((Int)×((List Int)×((Int)×((Int)×(List Int))))))) (given0:Int) (given1:Int) (given2:List ((Int)×((Int)×((List Int)×((Int)×((Int)×(List Int))))))) (x0:Int) (x1:Int) (y0:Int) (y1:Int) (t2025:List ((Int)×((Int)×((List Int)×((Int)×((Int)×(List Int))))))) (t2032:List ((Int)×((Int)×((List Int)×((Int)×((Int)×(List Int))))))) (k_:Bool→Option ρ):Option ρ:=
  bnd (W.jt (x0,x1,t2025) (y0,y1,t2032)) fun y=>
  br (!y)
   (k_ true)
   (bnd (W.jt (given0,given1,given2) (c0,c1,c2)) fun y_1=>
    k_ (!y_1))
def jm.c25v3s:Shape:=⟨[(0,cp0),(1,cp1),(2,cp2),(3,cp3),(6,cp4),(7,cp5),(8,cp2),(9,cp6),(10,cp7),(11,cp8),(12,cp9),(15,cp2),(18,cp2)],[(3,cp10),(7,cp10),(9,cp19),(10,cp20),(11,cp13),(12,cp13),(2025,cp14),(2032,cp14),(3009,cp14),(3010,cp14)]⟩
def jm.c25v3x0:Shape:=⟨[(0,cp0),(1,cp1),(2,cp2),(3,cp3),(6,cp4),(7,cp5),(8,cp2),(9,cp6),(10,cp7),(11,cp8),(12,cp9),(15,cp2),(18,cp2),(92,cp4)],[(3,cp10),(7,cp10),(9,cp19),(10,cp20),(11,cp13),(12,cp13),(2025,cp14),(2032,cp14),(3009,cp14),(3010,cp14)]⟩
def jm.c25v3r:Ck:=Ck.of (T:=Bool) jm.c25v3s (fun ρ x_ k_=>jm.c25v3 x_.2.2.2.2.2.2.2.1 x_.2.2.2.2.2.2.2.2.1 x_.2.2.2.2.2.2.2.2.2.1 x_.2.2.2.2.2.2.2.2.2.2.1 x_.2.2.2.2.2.2.2.2.2.2.2.1 x_.2.2.2.2.2.2.2.2.2.2.2.2.1 x_.2.2.2.2.2.2.2.2.2.2.2.2.2.1 x_.2.2.2.2.2.2.2.2.2.2.2.2.2.2.1 x_.2.2.2.2.2.2.2.2.2.2.2.2.2.2.2.1 x_.2.2.2.2.2.2.2.2.2.2.2.2.2.2.2.2.1 x_.2.2.2.2.2.2.2.2.2.2.2.2.2.2.2.2.2.2.2.2.2.1 x_.2.2.2.2.2.2.2.2.2.2.2.2.2.2.2.2.2.2.2.2.2.2.1 k_) (fun ρ x_ r_ k_=>k_ 0 (Shape.inj jm.c25v3x0 (x_.1,x_.2.1,x_.2.2.1,x_.2.2.2.1,x_.2.2.2.2.1,x_.2.2.2.2.2.1,x_.2.2.2.2.2.2.1,r_,x_.2.2.2.2.2.2.2)))
def jm.c25v3o:Ck:=Ck.or jm.c25v3s jm.c25v3r jm.c25v2o
def jm.c100006 {ρ:Type} (t1:List (Int)) (n:Int) (t8:Int) (t18:Int) (c0:Int) (c1:Int) (c2:List ((Int)×((Int)×((List Int)×((Int)×((Int)×(List Int))))))) (given0:Int) (given1:Int) (given2:List ((Int)×((Int)×((List Int)×((Int)×((Int)×(List Int))))))) (k_:(Int)⊕((Int)⊕(Int))→Option ρ):Option ρ:=
  br (decide (t18 < (2:Int)))
   (br (t8 == (0:Int))
     (bnd (W.jI (given0,given1,given2)) fun y=>
      bnd (W.jo (c0,c1,c2)) fun y_1=>
      bnd (W.jZ (y.1,y.2.1,y.2.2.2.1) (y.2.2.1.1,y.2.2.1.2) (y_1.1,y_1.2.1,y_1.2.2.2.1) (y_1.2.2.1.1,y_1.2.2.1.2)) fun y_2=>
      br (!y_2)
       (k_ (.inr (.inl t18)))
       (bnd (W.jq y.1 y.2.1 y.2.2.2.1) fun y_3=>
        bnd (W.jq y_1.1 y_1.2.1 y_1.2.2.2.1) fun y_4=>
        bnd (W.jm.c25 c0 c1 c2 given0 given1 given2 y.1 y.2.1 y_1.1 y_1.2.1 y_3.1 y_4.1 some) fun y_5=>
        br y_5
         (k_ (.inr (.inl t18)))
         (k_ (.inl (IntKind.i64.wrap (t18+(1:Int)))))))
     (br (t8 == (1:Int))
       (bnd (W.jb (given0,given1,given2) (2:Int)) fun y_6=>
        bnd (W.jf (c0,c1,c2) (2:Int)) fun y_7=>
        bnd (W.jZ (y_6.1,y_6.2.1,y_6.2.2.2.1) (y_6.2.2.1.1,y_6.2.2.1.2) (y_7.1,y_7.2.1,y_7.2.2.2.1) (y_7.2.2.1.1,y_7.2.2.1.2)) fun y_8=>
        br (!y_8)
         (k_ (.inr (.inl t18)))
         (bnd (W.jq y_6.1 y_6.2.1 y_6.2.2.2.1) fun y_9=>
          bnd (W.jq y_7.1 y_7.2.1 y_7.2.2.2.1) fun y_10=>
          bnd (W.jm.c25v1 c0 c1 c2 given0 given1 given2 y_6.1 y_6.2.1 y_7.1 y_7.2.1 y_9.1 y_10.1 some) fun y_11=>
          br y_11
           (k_ (.inr (.inl t18)))
           (k_ (.inl (IntKind.i64.wrap (t18+(1:Int)))))))
       (br (t8 == (2:Int))
         (bnd (W.ji (given0,given1,given2) (given0,given1,given2)) fun y_12=>
          bnd (W.jd (c0,c1,c2) (c0,c1,c2)) fun y_13=>
          bnd (W.jZ (y_12.1,y_12.2.1,y_12.2.2.2.1) (y_12.2.2.1.1,y_12.2.2.1.2) (y_13.1,y_13.2.1,y_13.2.2.2.1) (y_13.2.2.1.1,y_13.2.2.1.2)) fun y_14=>
          br (!y_14)
           (k_ (.inr (.inl t18)))
           (bnd (W.jq y_12.1 y_12.2.1 y_12.2.2.2.1) fun y_15=>
            bnd (W.jq y_13.1 y_13.2.1 y_13.2.2.2.1) fun y_16=>
            bnd (W.jm.c25v2 c0 c1 c2 given0 given1 given2 y_12.1 y_12.2.1 y_13.1 y_13.2.1 y_15.1 y_16.1 some) fun y_17=>
            br y_17
             (k_ (.inr (.inl t18)))
             (k_ (.inl (IntKind.i64.wrap (t18+(1:Int)))))))
         (bnd (W.jn (given0,given1,given2) t1 n) fun y_18=>
          bnd (W.ja (c0,c1,c2) t1 n) fun y_19=>
          bnd (W.jZ (y_18.1,y_18.2.1,y_18.2.2.2.1) (y_18.2.2.1.1,y_18.2.2.1.2) (y_19.1,y_19.2.1,y_19.2.2.2.1) (y_19.2.2.1.1,y_19.2.2.1.2)) fun y_20=>
          br (!y_20)
           (k_ (.inr (.inl t18)))
           (bnd (W.jq y_18.1 y_18.2.1 y_18.2.2.2.1) fun y_21=>
            bnd (W.jq y_19.1 y_19.2.1 y_19.2.2.2.1) fun y_22=>
            bnd (W.jm.c25v3 c0 c1 c2 given0 given1 given2 y_18.1 y_18.2.1 y_19.1 y_19.2.1 y_21.1 y_22.1 some) fun y_23=>
            br y_23
             (k_ (.inr (.inl t18)))
             (k_ (.inl (IntKind.i64.wrap (t18+(1:Int))))))))))
   (k_ (.inr (.inr t18)))
def jm.c100006s:Shape:=⟨[(0,cp0),(1,cp1),(2,cp2),(3,cp3),(6,cp4),(7,cp5),(8,cp2),(15,cp2),(18,cp2)],[(3,cp10),(7,cp10)]⟩
def jm.c100006x0:Shape:=jm.c100006s
def jm.c100006x1:Shape:=jm.c100006s
def jm.c100006r:Ck:=Ck.ofLoop (S:=Int) (T:=(Int)⊕(Int)) jm.c100006s (fun x_=>x_.2.2.2.2.2.2.1) (fun ρ x_ s_ k_=>jm.c100006 x_.2.1 x_.2.2.1 x_.2.2.2.2.1 s_ x_.2.2.2.2.2.2.2.1 x_.2.2.2.2.2.2.2.2.1 x_.2.2.2.2.2.2.2.2.2.1 x_.2.2.2.2.2.2.2.2.2.2.1 x_.2.2.2.2.2.2.2.2.2.2.2.1 x_.2.2.2.2.2.2.2.2.2.2.2.2.1 k_) (fun ρ x_ r_ k_=>sel r_ (fun r_=>k_ 1 (Shape.inj jm.c100006x0 (x_.1,x_.2.1,x_.2.2.1,false,x_.2.2.2.2.1,x_.2.2.2.2.2.1,r_,x_.2.2.2.2.2.2.2))) (fun r_=>k_ 4 (Shape.inj jm.c100006x1 (x_.1,x_.2.1,x_.2.2.1,x_.2.2.2.1,x_.2.2.2.2.1,x_.2.2.2.2.2.1,r_,x_.2.2.2.2.2.2.2))))
def jm.c100003 {ρ:Type} (t1:List (Int)) (n:Int) (t15:Int) (c0:Int) (c1:Int) (c2:List ((Int)×((Int)×((List Int)×((Int)×((Int)×(List Int))))))) (given0:Int) (given1:Int) (given2:List ((Int)×((Int)×((List Int)×((Int)×((Int)×(List Int))))))) (k_:(Int)⊕((Int)⊕(Int))→Option ρ):Option ρ:=
  br (decide (t15 < (4:Int)))
   (bnd (iter (fun s↦W.jm.c100006 t1 n t15 s c0 c1 c2 given0 given1 given2 some) (0:Int)) fun y=>
    sel y
     (fun u=>k_ (.inr (.inl t15)))
     (fun v=>k_ (.inl (IntKind.i64.wrap (t15+(1:Int))))))
   (k_ (.inr (.inr t15)))
def jm.c100003s:Shape:=⟨[(0,cp0),(1,cp1),(2,cp2),(3,cp3),(6,cp4),(7,cp5),(15,cp2)],[(3,cp10),(7,cp10)]⟩
def jm.c100003x0:Shape:=jm.c100003s
def jm.c100003x1:Shape:=jm.c100003s
def jm.c100003r:Ck:=Ck.ofLoop (S:=Int) (T:=(Int)⊕(Int)) jm.c100003s (fun x_=>x_.2.2.2.2.1) (fun ρ x_ s_ k_=>jm.c100003 x_.2.1 x_.2.2.1 s_ x_.2.2.2.2.2.1 x_.2.2.2.2.2.2.1 x_.2.2.2.2.2.2.2.1 x_.2.2.2.2.2.2.2.2.1 x_.2.2.2.2.2.2.2.2.2.1 x_.2.2.2.2.2.2.2.2.2.2.1 k_) (fun ρ x_ r_ k_=>sel r_ (fun r_=>k_ 1 (Shape.inj jm.c100003x0 (x_.1,x_.2.1,x_.2.2.1,false,r_,x_.2.2.2.2.2))) (fun r_=>k_ 2 (Shape.inj jm.c100003x1 (x_.1,x_.2.1,x_.2.2.1,x_.2.2.2.1,r_,x_.2.2.2.2.2))))
def jm (c:(Int)×((Int)×(List ((Int)×((Int)×((List Int)×((Int)×((Int)×(List Int))))))))) (t1:List (Int)) (n:Int):Option Bool:=
  bnd (W.jH (c.1,c.2.1,c.2.2)) fun y=>
  bnd (iter (fun s↦W.jm.c100003 t1 n s c.1 c.2.1 c.2.2 y.1 y.2.1 y.2.2 some) (0:Int)) fun y_1=>
  sel y_1
   (fun u=>some false)
   (fun v=>bnd W.jY fun y_2=>
    some y_2)
def jm.ce:Go.Ql.Callee:=⟨[(.st (.pair (.int .i64) (.pair (.int .i64) (.sl (.st (.pair (.int .i64) (.pair (.int .i64) (.pair (.sl (.int .i64)) (.pair (.int .i64) (.pair (.int .i64) (.sl (.int .i64)))))))))))),(.sl (.int .i64)),(.int .i64)],[.bool],fun x_=>jm x_.1 x_.2.1 x_.2.2⟩
def jm.G:Env:=⟨96,tab,[(11,jH.ce),(20,jZ.ce),(29,jt.ce),(13,jY.ce)],[0,1,2,3,6,7,8,9,10,11,12,15,16,18,19,20,35,47,59,78,92],[9,10,1009,1010,2025,2032,2039,2044,2051,2056,2064,2070,3009,3010,30003009,30003010,10000023688802025,10000023688802032,10000023688802039,10000023688802044,10000023688802051,10000023688802056,10000023688802064,10000023688802070],[],[(100003,jm.c100003r),(100006,jm.c100006r),(25,jm.c25v3o)],[(23,jI.mc),(24,jo.mc),(18,jb.mc),(19,jf.mc),(21,ji.mc),(22,jd.mc),(27,jn.mc),(28,ja.mc),(31,jq.mc)],Jf,[]⟩
theorem jm.eq (x_:dens jm.ce.params):den jm.G Tryd.f6 jm.ce.params jm.ce.res x_=jm.ce.F x_:=by kernel_rfl
theorem jm.p0:PcA jm.G Tryd.f6 0:=
  JA (s:=jm.c100003r) (by kernel_rfl) (by kernel_rfl) (Jt (sh:=jm.c100003s) (I:=fun x_ s_=>(x_.1,x_.2.1,x_.2.2.1,x_.2.2.2.1,s_,x_.2.2.2.2.2)) (fun x_=>rfl) (fun ρ x_ s_ k_=>(jw (je fun _=>(kB (fun _=>jc) (fun _=>jc))) jc)) (fun ρ x_ t k=>(kB (fun _=>(by kernel_rfl)) (fun _=>(by kernel_rfl)))) (fun x_ s=>by kernel_rfl))
theorem jm.p1:PcA jm.G Tryd.f6 1:=
  JA (s:=jm.c100006r) (by kernel_rfl) (by kernel_rfl) (Jt (sh:=jm.c100006s) (I:=fun x_ s_=>(x_.1,x_.2.1,x_.2.2.1,x_.2.2.2.1,x_.2.2.2.2.1,x_.2.2.2.2.2.1,s_,x_.2.2.2.2.2.2.2)) (fun x_=>rfl) (fun ρ x_ s_ k_=>(jw (jw (je fun _=>(je fun _=>(je fun _=>(jw jc (je fun _=>(je fun _=>(je fun _=>(jw jc jc)))))))) (jw (je fun _=>(je fun _=>(je fun _=>(jw jc (je fun _=>(je fun _=>(je fun _=>(jw jc jc)))))))) (jw (je fun _=>(je fun _=>(je fun _=>(jw jc (je fun _=>(je fun _=>(je fun _=>(jw jc jc)))))))) (je fun _=>(je fun _=>(je fun _=>(jw jc (je fun _=>(je fun _=>(je fun _=>(jw jc jc))))))))))) jc)) (fun ρ x_ t k=>(kB (fun _=>(by kernel_rfl)) (fun _=>(by kernel_rfl)))) (fun x_ s=>by kernel_rfl))
theorem jm.p2:PcA jm.G Tryd.f6 2:=
  jG (s:=jm.c25v3o) (by kernel_rfl) (by kernel_rfl) (sums_or (jF (sh:=jm.c25v3s) (fun ρ x_ k_=>(je fun _=>(jw jc (je fun _=>jc)))) (fun ρ x_ t k=>(by kernel_rfl)) (fun x_=>by kernel_rfl)) (sums_or (jF (sh:=jm.c25v2s) (fun ρ x_ k_=>(je fun _=>(jw jc (je fun _=>jc)))) (fun ρ x_ t k=>(by kernel_rfl)) (fun x_=>by kernel_rfl)) (sums_or (jF (sh:=jm.c25v1s) (fun ρ x_ k_=>(je fun _=>(jw jc (je fun _=>jc)))) (fun ρ x_ t k=>(by kernel_rfl)) (fun x_=>by kernel_rfl)) (jF (sh:=jm.c25s) (fun ρ x_ k_=>(je fun _=>(jw jc (je fun _=>jc)))) (fun ρ x_ t k=>(by kernel_rfl)) (fun x_=>by kernel_rfl)))))
theorem jm.ok:CalleeOk Tryd.prog 6 jm.ce:=fn_ok (G:=jm.G) Js mixed Tryd.func6 ⟨(Ja jH.ok (Ja jZ.ok (Ja jt.ok (Ja jY.ok Je)))),(Jj jI.ok (Jj jo.ok (Jj jb.ok (Jj jf.ok (Jj ji.ok (Jj jd.ok (Jj jn.ok (Jj ja.ok (Jj jq.ok jU))))))))),jO,jT⟩ (m:=3) (by kernel_rfl) ⟨⟨⟨trivial,jm.p0⟩,jm.p1⟩,jm.p2⟩ (by kernel_rfl) jm.eq
end
end W
end
