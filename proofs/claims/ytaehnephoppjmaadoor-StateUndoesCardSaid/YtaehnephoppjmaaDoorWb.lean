/- Lifted functions, part 2: each with its contract. -/
import Derived.Test.YtaehnephoppjmaaDoorWa
import Derived.Test.YtaehnephoppjmaaDoorProg
set_option linter.all false
section
set_option maxHeartbeats 4000000
set_option maxRecDepth 100000
namespace W
open Go Go.Ql Go.Proofs Go.IntKind
noncomputable section
variable {ρ:Type}
def jg.pre:Shape:=⟨[(0,sd34),(1,sd0)],[(1000700,sd35),(2000701,sd23),(2000702,sd28)]⟩
def jg.post:Shape:=⟨[],[(1000700,sd35),(2000701,sd23),(2000702,sd28)]⟩
def jg.c0 (ue:List ((Int)×((Int)×((List Int)×((Int)×((Int)×(List Int)))))))(ug:Int)(Z:(Int)×(Int)×(List Int)×(Int)×(Int)×(List Int)→Option ρ):Option ρ:=
  bnd (idx ue ug) fun y=>
  Z (y.1,y.2.1,y.2.2.1,y.2.2.2.1,y.2.2.2.2.1,y.2.2.2.2.2)
def jg.c0x0:Shape:=⟨[(0,sd34),(1,sd0),(4,sd15)],[(4,sd6),(1000700,sd35),(2000701,sd23),(2000702,sd28)]⟩
def jg.c0r:Ck:=Ck.of (T:=(Int)×(Int)×(List Int)×(Int)×(Int)×(List Int)) jg.pre (fun ρ X Z=>jg.c0 X.2.2.2.1 (q4 X).2.1 Z) (fun ρ X V Z=>Z 0 (Shape.inj jg.c0x0 (X.1,V.1,V.2.1,V.2.2.1,V.2.2.2.1,V.2.2.2.2.1,V.2.2.2.2.2,X.2)))
def jg.c1 (b:Int)(o3:Int)(uj:List ((List (Bool×(List Int)))×(Int)))(Z:List ((List (Bool×(List Int)))×(Int))→Option ρ):Option ρ:=
  bnd (jo (0:Int) (uj.length:Int) o3 b uj) fun y=>
  Z y.1
def jg.c1r:Ck:=Ck.of (T:=List ((List (Bool×(List Int)))×(Int))) jg.c0x0 (fun ρ X Z=>jg.c1 X.1 (q4 X).1 (q4 (q8 X)).1 Z) (fun ρ X V Z=>Z 0 (Shape.inj jg.c0x0 (X.1,X.2.1,X.2.2.1,X.2.2.2.1,(q4 X).1,(q4 X).2.1,(q4 X).2.2.1,(q4 X).2.2.2.1,(q8 X).1,(q8 X).2.1,(q8 X).2.2.1,(q8 X).2.2.2.1,V,(q4 (q8 X)).2)))
def jg.c3 (o4:Int)(uk:List (Int))(Z:Unit→Option ρ):Option ρ:=
  bnd (inR (uk.length) o4) fun y=>
  bnd (idx uk o4) fun y1=>
  Z ()
def jg.c3r:Ck:=Ck.of (T:=Unit) jg.c0x0 (fun ρ X Z=>jg.c3 (q4 X).2.1 (q4 (q8 X)).2.1 Z) (fun ρ X V Z=>Z 0 (Shape.inj jg.c0x0 (X.1,X.2.1,X.2.2.1,X.2.2.2.1,(q4 X).1,(q4 X).2.1,(q4 X).2.2.1,(q4 X).2.2.2.1,(q8 X).1,(q8 X).2.1,(q8 X).2.2.1,(q8 X).2.2.2.1,(q4 (q8 X)).1,(List.set (q4 (q8 X)).2.1 (Int.toNat (q4 X).2.1) X.1),())))
def jg.c5 (o3:Int)(uj:List ((List (Bool×(List Int)))×(Int)))(Z:List ((List (Bool×(List Int)))×(Int))→Option ρ):Option ρ:=
  bnd (ja (0:Int) (uj.length:Int) ((2:Int),(0:Int),[],o3,(0:Int),[]) uj) fun y=>
  Z y.1
def jg.c5r:Ck:=Ck.of (T:=List ((List (Bool×(List Int)))×(Int))) jg.c0x0 (fun ρ X Z=>jg.c5 (q4 X).1 (q4 (q8 X)).1 Z) (fun ρ X V Z=>Z 0 (Shape.inj jg.c0x0 (X.1,X.2.1,X.2.2.1,X.2.2.2.1,(q4 X).1,(q4 X).2.1,(q4 X).2.2.1,(q4 X).2.2.2.1,(q8 X).1,(q8 X).2.1,(q8 X).2.2.1,(q8 X).2.2.2.1,V,(q4 (q8 X)).2)))
def jg.cG_ (b:Int)(o0:Int)(o3:Int)(o4:Int)(uj:List ((List (Bool×(List Int)))×(Int)))(uk:List (Int))(Z:(List ((List (Bool×(List Int)))×(Int)))×(List Int)→Option ρ):Option ρ:=
  br (o0==5)
   (bnd (jg.c3 o4 uk some) fun y=>
    Z (uj,(List.set uk (Int.toNat o4) b)))
   (br (b==1)
     (bnd (jg.c5 o3 uj some) fun y1=>
      Z (y1,uk))
     (Z (uj,uk)))
def jg.cG_r:Ck:=Ck.of (T:=(List ((List (Bool×(List Int)))×(Int)))×(List Int)) jg.c0x0 (fun ρ X Z=>jg.cG_ X.1 X.2.1 (q4 X).1 (q4 X).2.1 (q4 (q8 X)).1 (q4 (q8 X)).2.1 Z) (fun ρ X V Z=>Z 0 (Shape.inj jg.c0x0 (X.1,X.2.1,X.2.2.1,X.2.2.2.1,(q4 X).1,(q4 X).2.1,(q4 X).2.2.1,(q4 X).2.2.2.1,(q8 X).1,(q8 X).2.1,(q8 X).2.2.1,(q8 X).2.2.2.1,V.1,V.2,())))
def jg (b:Int) (uc:Int) (ud:Int) (ue:List ((Int)×((Int)×((List Int)×((Int)×((Int)×(List Int))))))) (uf:Int) (ug:Int) (uj:List ((List (Bool×(List Int)))×(Int))) (uk:List (Int)):Option ((Int)×(Int)×(List ((Int)×((Int)×((List Int)×((Int)×((Int)×(List Int)))))))×(Int)×(Int)×(List ((List (Bool×(List Int)))×(Int)))×(List Int)×Unit):=
  bnd (jg.c0 ue ug some) fun y=>
  bnd (jg.c1 b y.2.2.2.1 uj some) fun y1=>
  bnd (jg.cG_ b y.1 y.2.2.2.1 y.2.2.2.2.1 y1 uk some) fun y2=>
  some (uc,ud,ue,i64.wrap (uf+1),i64.wrap (ug+1),y2.1,y2.2,())
def jg.mc:MCallee:=⟨37,jg.pre,jg.post,fun X=>jg X.1 X.2.1 X.2.2.1 X.2.2.2.1 (q4 X).1 (q4 X).2.1 (q4 X).2.2.1 (q4 X).2.2.2.1⟩
def jg.G:Env:=⟨59,tab,[],[0,1,4,26,36],[1000700,2000701,2000702],[(5,[⟨[],[],[41,42,43],[]⟩,⟨[0],[],[41,42,43],[]⟩,⟨[1,0],[],[41,42,43],[]⟩,⟨[2,1,0],[],[41,42,43],[]⟩,⟨[],[],[37,38,39,40],[]⟩,⟨[4],[],[37,38,39,40],[]⟩,⟨[5,4],[],[37,38,39,40],[]⟩,⟨[3,2,1,0,6,5,4],[2000701],[],[]⟩]),
  (3,[⟨[],[],[31,32,33],[]⟩,⟨[0],[],[31,32,33],[]⟩,⟨[1,0],[],[31,32,33],[]⟩,⟨[2,1,0],[],[31,32,33],[]⟩,⟨[],[],[27,28,29,30,33],[]⟩,⟨[4],[],[27,28,29,30,33],[]⟩,⟨[],[],[27,28,29,30,31,32],[]⟩,⟨[3,2,1,0,5,4,6],[],[],[]⟩,⟨[7,3,2,1,0,5,4,6],[2000702],[],[]⟩]),
  (1,[⟨[],[],[20,21,22],[]⟩,⟨[0],[],[20,21,22],[]⟩,⟨[1,0],[],[20,21,22],[]⟩,⟨[2,1,0],[],[20,21,22],[]⟩,⟨[],[],[16,17,18,19,22],[]⟩,⟨[4],[],[16,17,18,19,22],[]⟩,⟨[],[],[16,17,18,19,20,21],[]⟩,⟨[3,2,1,0,5,4,6],[2000701],[],[]⟩]),
  (0,[⟨[],[],[10,11,12,13,4],[4]⟩,⟨[0],[],[10,11,12,13,4],[4]⟩,⟨[1,0],[],[10,11,12,13,4],[4]⟩,⟨[2,1,0],[],[10,11,12,13,4],[4]⟩,⟨[3,2,1,0],[],[10,11,12,13,4],[4]⟩,⟨[],[],[5,6,7,8,9,4],[4]⟩,⟨[5],[],[5,6,7,8,9,4],[4]⟩,⟨[6,5],[],[5,6,7,8,9,4],[4]⟩,⟨[7,6,5],[],[5,6,7,8,9,4],[4]⟩,⟨[4,3,2,1,0,8,7,6,5],[],[4],[4]⟩,⟨[9,4,3,2,1,0,8,7,6,5],[],[4],[4]⟩,⟨[],[4],[5,6,7,8,9,10,11,12,13,14,15],[]⟩,⟨[11,10,9,4,3,2,1,0,8,7,6,5],[4],[],[]⟩])],[(208201,jg.cG_r),(5,jg.c5r),(3,jg.c3r),(1,jg.c1r),(0,jg.c0r)],[(52,jo.mc),(51,ja.mc)],jP,[]⟩
theorem jg.p0:PcA jg.G Tryd.f37 0:=
  jE (s:=jg.c0r) (by kernel_rfl) (by kernel_rfl) (jG (sh:=jg.pre) (fun ρ X Z=>(jc fun _=>jd)) (fun ρ X t k=>(by kernel_rfl)) (fun X=>by kernel_rfl))
theorem jg.p1:PcA jg.G Tryd.f37 1:=
  jE (s:=jg.c1r) (by kernel_rfl) (by kernel_rfl) (jG (sh:=jg.c0x0) (fun ρ X Z=>(jc fun _=>jd)) (fun ρ X t k=>(by kernel_rfl)) (fun X=>by kernel_rfl))
theorem jg.p2:PcA jg.G Tryd.f37 2:=
  kj (s:=jg.cG_r) (by kernel_rfl) (by kernel_rfl) (jG (sh:=jg.c0x0) (fun ρ X Z=>(jv (jc fun _=>jd) (jv (jc fun _=>jd) jd))) (fun ρ X t k=>(by kernel_rfl)) (fun X=>by kernel_rfl))
theorem jg.p3:PcA jg.G Tryd.f37 3:=
  jE (s:=jg.c3r) (by kernel_rfl) (by kernel_rfl) (jG (sh:=jg.c0x0) (fun ρ X Z=>(jc fun _=>(jc fun _=>jd))) (fun ρ X t k=>(by kernel_rfl)) (fun X=>by kernel_rfl))
theorem jg.p4:PcA jg.G Tryd.f37 4:=
  jE (s:=jg.c5r) (by kernel_rfl) (by kernel_rfl) (jG (sh:=jg.c0x0) (fun ρ X Z=>(jc fun _=>jd)) (fun ρ X t k=>(by kernel_rfl)) (fun X=>by kernel_rfl))
theorem jg.ok:MOk Tryd.prog 37 jg.mc:=kq (mc:=jg.mc) (G:=jg.G) jV mixed Tryd.func37 ⟨jR,(JI jo.ok (JI ja.ok jM)),jC,jL⟩ (m:=5) (by kernel_rfl) ⟨⟨⟨⟨⟨trivial,jg.p0⟩,jg.p1⟩,jg.p2⟩,jg.p3⟩,jg.p4⟩ (by kernel_rfl) (fun _=>by kernel_rfl)
abbrev sd60:SD:=.one (.ref 14 0)
abbrev sd61:SD:=.one (.ref 9 0)
abbrev sd62:SO:=.box [.val (.int .i64),.val (.int .i64),.val (.sl (.st (.pair (.int .i64) (.pair (.int .i64) (.pair (.sl (.int .i64)) (.pair (.int .i64) (.pair (.int .i64) (.sl (.int .i64))))))))),.own 1014 0,.own 2014 0,.val (.int .i64),.val (.int .i64)]
def ji.pre:Shape:=⟨[(0,sd10),(1,sd0),(2,sd8)],[]⟩
def ji.post:Shape:=⟨[(0,sd25),(1,sd26)],[(0,sd27),(1,sd23),(2,sd28)]⟩
def ji.post2:Shape:=⟨[(0,sd29),(1,sd26)],[]⟩
def ji.c3  (Z:Unit→Option ρ):Option ρ:=
  Z ()
def ji.c3s:Shape:=⟨[(0,sd10),(1,sd0),(2,sd8),(3,sd36),(6,sd29),(7,sd21),(8,sd60),(9,sd61)],[(3,sd4),(7,sd12),(9,sd12),(14,sd62),(1014,sd23),(2014,sd28)]⟩
def ji.c3r:Ck:=Ck.of (T:=Unit) ji.c3s (fun ρ X Z=>ji.c3  Z) (fun ρ X V Z=>Z 0 (Shape.inj ji.c3s (X.1,X.2.1,X.2.2.1,(),(q4 X).1,(q4 X).2.1,(q4 X).2.2.1,(q8 X).2.1,(q8 X).2.2.1,(q8 X).2)))
def ji.c8 (b:Int)(Z:Bool→Option ρ):Option ρ:=
  br (b !=0)
   (Z (b !=1))
   (Z false)
def ji.c8s:Shape:=⟨[(0,sd10),(1,sd0),(2,sd8),(3,sd36),(6,sd29),(7,sd21),(8,sd60),(9,sd61),(10,sd0)],[(3,sd4),(7,sd12),(9,sd12),(14,sd62),(1014,sd23),(2014,sd28)]⟩
def ji.c8x0:Shape:=⟨[(0,sd10),(1,sd0),(2,sd8),(3,sd36),(6,sd29),(7,sd21),(8,sd60),(9,sd61),(10,sd0),(47,sd1)],[(3,sd4),(7,sd12),(9,sd12),(14,sd62),(1014,sd23),(2014,sd28)]⟩
def ji.c8r:Ck:=Ck.of (T:=Bool) ji.c8s (fun ρ X Z=>ji.c8 (q4 X).1 Z) (fun ρ X V Z=>Z 0 (Shape.inj ji.c8x0 (X.1,X.2.1,X.2.2.1,X.2.2.2.1,(q4 X).1,V,(q4 X).2)))
def ji.cb_ (tape:List (Int))(t140:Int)(t141:Int)(t142:List ((Int)×((Int)×((List Int)×((Int)×((Int)×(List Int)))))))(t145:Int)(t146:Int)(uh:List ((List (Bool×(List Int)))×(Int)))(ul:List (Int))(Z:((Int)×(Int)×(List ((Int)×((Int)×((List Int)×((Int)×((Int)×(List Int)))))))×(Int)×(Int)×(List ((List (Bool×(List Int)))×(Int)))×(List Int))⊕(((Int)×(Int)×(Int)×(Int)×(List ((Int)×((Int)×((List Int)×((Int)×((Int)×(List Int)))))))×(Int)×(Int)×(List ((List (Bool×(List Int)))×(Int)))×(List Int))⊕((Int)×(Int)×(List ((Int)×((Int)×((List Int)×((Int)×((Int)×(List Int)))))))×(Int)×(Int)×(List ((List (Bool×(List Int)))×(Int)))×(List Int)))→Option ρ):Option ρ:=
  bnd (je t140 t141 t142 t145 t146 uh ul) fun y=>
  br y.1
   (br (y.2.2.2.2.1==(tape.length:Int))
     (bnd (JB (19:Int) y.2.2.2.2.2.1) fun y1=>
      Z (.inr (.inl (y1.1,y1.2,y.2.1,y.2.2.1,y.2.2.2.1,y.2.2.2.2.1,y.2.2.2.2.2.1,y.2.2.2.2.2.2.1,y.2.2.2.2.2.2.2.1))))
     (bnd (idx tape y.2.2.2.2.1) fun y2=>
      bnd (ji.c8 y2 some) fun y3=>
      br y3
       (bnd (JB (20:Int) y.2.2.2.2.2.1) fun y4=>
        Z (.inr (.inl (y4.1,y4.2,y.2.1,y.2.2.1,y.2.2.2.1,y.2.2.2.2.1,y.2.2.2.2.2.1,y.2.2.2.2.2.2.1,y.2.2.2.2.2.2.2.1))))
       (bnd (jg y2 y.2.1 y.2.2.1 y.2.2.2.1 y.2.2.2.2.1 y.2.2.2.2.2.1 y.2.2.2.2.2.2.1 y.2.2.2.2.2.2.2.1) fun y5=>
        Z (.inl (y5.1,y5.2.1,y5.2.2.1,y5.2.2.2.1,y5.2.2.2.2.1,y5.2.2.2.2.2.1,y5.2.2.2.2.2.2.1)))))
   (Z (.inr (.inr (y.2.1,y.2.2.1,y.2.2.2.1,y.2.2.2.2.1,y.2.2.2.2.2.1,y.2.2.2.2.2.2.1,y.2.2.2.2.2.2.2.1))))
def ji.cb_r:Ck:=Ck.ofLoop (S:=(Int)×(Int)×(List ((Int)×((Int)×((List Int)×((Int)×((Int)×(List Int)))))))×(Int)×(Int)×(List ((List (Bool×(List Int)))×(Int)))×(List Int)) (T:=((Int)×(Int)×(Int)×(Int)×(List ((Int)×((Int)×((List Int)×((Int)×((Int)×(List Int)))))))×(Int)×(Int)×(List ((List (Bool×(List Int)))×(Int)))×(List Int))⊕((Int)×(Int)×(List ((Int)×((Int)×((List Int)×((Int)×((Int)×(List Int)))))))×(Int)×(Int)×(List ((List (Bool×(List Int)))×(Int)))×(List Int))) ji.c3s (fun X=>((q8 X).2.2.2.1,(q4 (q8 X)).1,(q4 (q8 X)).2.1,(q4 (q8 X)).2.2.1,(q4 (q8 X)).2.2.2.1,(q8 (q8 X)).1,(q8 (q8 X)).2.1)) (fun ρ X Q Z=>ji.cb_ X.2.2.1 Q.1 Q.2.1 Q.2.2.1 Q.2.2.2.1 Q.2.2.2.2.1 Q.2.2.2.2.2.1 Q.2.2.2.2.2.2 Z) (fun ρ X V Z=>sel V (fun V=>Z 1 (Shape.inj ji.c3s (X.1,X.2.1,X.2.2.1,(),(q4 X).1,(q4 X).2.1,(q4 X).2.2.1,V.1,V.2.1,(q8 X).2.1,(q8 X).2.2.1,V.2.2.1,V.2.2.2.1,V.2.2.2.2.1,V.2.2.2.2.2.1,V.2.2.2.2.2.2.1,V.2.2.2.2.2.2.2.1,V.2.2.2.2.2.2.2.2,()))) (fun V=>Z 2 (Shape.inj ji.c3s (X.1,X.2.1,X.2.2.1,X.2.2.2.1,(q4 X).1,(q4 X).2.1,(q4 X).2.2.1,(q4 X).2.2.2.1,(q8 X).1,(q8 X).2.1,(q8 X).2.2.1,V.1,V.2.1,V.2.2.1,V.2.2.2.1,V.2.2.2.2.1,V.2.2.2.2.2.1,V.2.2.2.2.2.2,()))))
def ji.c3v1  (Z:Unit→Option ρ):Option ρ:=
  Z ()
def ji.c3v1s:Shape:=⟨[(0,sd10),(1,sd0),(2,sd8),(3,sd36),(6,sd29),(7,sd21),(8,sd29),(9,sd61)],[(3,sd4),(7,sd12),(9,sd12)]⟩
def ji.c3v1r:Ck:=Ck.of (T:=Unit) ji.c3v1s (fun ρ X Z=>ji.c3v1  Z) (fun ρ X V Z=>Z 0 (Shape.inj ji.c3v1s (X.1,X.2.1,X.2.2.1,(),(q4 X).1,(q4 X).2.1,(q4 X).2.2.1,(q4 X).2.2.2.1,(q8 X).2.2.1,(q8 X).2.2.2.1,(q8 X).2.2)))
def ji.c3v1o:Ck:=Ck.or ji.c3v1s ji.c3v1r ji.c3r
def ji.c100004v1  (Z:(Unit)⊕(Unit)→Option ρ):Option ρ:=
  none
def ji.c100004v1r:Ck:=Ck.ofLoop (S:=Unit) (T:=Unit) ji.c3v1s (fun X=>()) (fun ρ X Q Z=>ji.c100004v1  Z) (fun ρ X V Z=>none)
def ji.c100004v1o:Ck:=Ck.or ji.c3v1s ji.c100004v1r ji.cb_r
def ji (c:(Int)×((Int)×(List ((Int)×((Int)×((List Int)×((Int)×((Int)×(List Int))))))))) (t1:Int) (tape:List (Int)):Option ((((Int)×(Int))×(Int)×(Int)×(List ((Int)×((Int)×((List Int)×((Int)×((Int)×(List Int)))))))×(Int)×(Int)×(List ((List (Bool×(List Int)))×(Int)))×(List Int)×Unit)⊕((Unit)×((Int)×(Int))×Unit)):=
  bnd (jx (c.1,c.2.1,c.2.2) t1) fun y=>
  sel y
   (fun u=>br (u.1.1 !=0)
     (bnd (ji.c3 some) fun y1=>
      some (Sum.inr ((),(u.1.1,u.1.2),())))
     (bnd (iter (fun s↦ji.cb_ tape s.1 s.2.1 s.2.2.1 s.2.2.2.1 s.2.2.2.2.1 s.2.2.2.2.2.1 s.2.2.2.2.2.2 some) (u.2.1,u.2.2.1,u.2.2.2.1,u.2.2.2.2.1,u.2.2.2.2.2.1,u.2.2.2.2.2.2.1,u.2.2.2.2.2.2.2.1)) fun y2=>
      sel y2
       (fun u_1=>some (Sum.inr ((),(u_1.1,u_1.2.1),())))
       (fun v_1=>some (Sum.inl (((0:Int),(0:Int)),v_1.1,v_1.2.1,v_1.2.2.1,v_1.2.2.2.1,v_1.2.2.2.2.1,v_1.2.2.2.2.2.1,v_1.2.2.2.2.2.2,())))))
   (fun v=>br (v.2.1.1 !=0)
     (bnd (ji.c3v1 some) fun y3=>
      some (Sum.inr ((),(v.2.1.1,v.2.1.2),())))
     (bnd (iter (fun s↦ji.c100004v1 some) PUnit.unit) fun y4=>
      none))
def ji.ma:MAlt:=⟨24,ji.pre,ji.post,false,ji.post2,fun X=>ji X.1 X.2.1 X.2.2.1⟩
def ji.G:Env:=⟨58,tab,[(29,JB.ce)],[0,1,2,3,6,7,8,9,10,19,22,29,47],[14,1014,2014],[(3,[⟨[],[],[6],[]⟩,⟨[],[],[20],[]⟩,⟨[0,1],[7],[],[]⟩])],[(100004,ji.c100004v1o),(3,ji.c3v1o),(8,ji.c8r)],[(36,je.mc),(37,jg.mc)],jP,[(28,jx.ma)]⟩
theorem ji.p0:PcA ji.G Tryd.f24 0:=
  jE (s:=ji.c3v1o) (by kernel_rfl) (by kernel_rfl) (sums_or (jG (sh:=ji.c3v1s) (fun ρ X Z=>jd) (fun ρ X t k=>(by kernel_rfl)) (fun X=>by kernel_rfl)) (jG (sh:=ji.c3s) (fun ρ X Z=>jd) (fun ρ X t k=>(by kernel_rfl)) (fun X=>by kernel_rfl)))
theorem ji.p1:PcA ji.G Tryd.f24 1:=
  Jt (s:=ji.c100004v1o) (by kernel_rfl) (by kernel_rfl) (loops_or (Je (sh:=ji.c3v1s) (I:=fun X Q=>X) (fun X=>rfl) (fun ρ X Q Z=>nat_none) (fun ρ X t k=>nat_none) (fun X s=>by kernel_rfl)) (Je (sh:=ji.c3s) (I:=fun X Q=>(X.1,X.2.1,X.2.2.1,X.2.2.2.1,(q4 X).1,(q4 X).2.1,(q4 X).2.2.1,(q4 X).2.2.2.1,(q8 X).1,(q8 X).2.1,(q8 X).2.2.1,Q.1,Q.2.1,Q.2.2.1,Q.2.2.2.1,Q.2.2.2.2.1,Q.2.2.2.2.2.1,Q.2.2.2.2.2.2,())) (fun X=>rfl) (fun ρ X Q Z=>(jc fun _=>(jv (jv (jc fun _=>jd) (jc fun _=>(jc fun _=>(jv (jc fun _=>jd) (jc fun _=>jd))))) jd))) (fun ρ X t k=>(kl (fun _=>(by kernel_rfl)) (fun _=>(by kernel_rfl)))) (fun X s=>by kernel_rfl)))
theorem ji.p2:PcA ji.G Tryd.f24 2:=
  jE (s:=ji.c8r) (by kernel_rfl) (by kernel_rfl) (jG (sh:=ji.c8s) (fun ρ X Z=>(jv jd jd)) (fun ρ X t k=>(by kernel_rfl)) (fun X=>by kernel_rfl))
theorem ji.ok:AltOk Tryd.prog 24 ji.ma:=fna_ok (ma:=ji.ma) (G:=ji.G) jV mixed Tryd.func24 ⟨(jI JB.ok jR),(JI je.ok (JI jg.ok jM)),jC,(alts_cons jx.ok jL)⟩ (m:=3) (by kernel_rfl) ⟨⟨⟨trivial,ji.p0⟩,ji.p1⟩,ji.p2⟩ (by kernel_rfl) (fun _=>by kernel_rfl)
def Ja.pre:Shape:=⟨[(0,sd14)],[]⟩
def Ja.post:Shape:=⟨[(0,sd24)],[(0,sd40)]⟩
def Ja (s:List (Int)):Option ((List Int)×Unit):=
  br (List.isEmpty s)
   (both
     (some ([],()))
     (bnd (okIf (decide (((0:Nat)+s.length)*4≤140737488355328)&&decide ((0:Nat)+s.length≤140737488355328))) fun y=>
      some (s,())))
   (bnd (okIf (decide (((0:Nat)+s.length)*4≤140737488355328)&&decide ((0:Nat)+s.length≤140737488355328))) fun y1=>
    some (s,()))
def Ja.mc:MCallee:=⟨70,Ja.pre,Ja.post,fun X=>Ja X.1⟩
def Ja.G:Env:=⟨8,tab,[],[0,2,4],[2,5],[],[],[],jP,[]⟩
theorem Ja.ok:MOk Tryd.prog 70 Ja.mc:=kq (mc:=Ja.mc) (G:=Ja.G) jV mixed Tryd.func70 ⟨jR,jM,jC,jL⟩ (m:=0) (by kernel_rfl) trivial (by kernel_rfl) (fun _=>by kernel_rfl)
abbrev sd63:SD:=.one (.own 2000000 0)
abbrev sd64:SO:=.arr 0 false 5 (.int .u8)
def jm.pre:Shape:=⟨[(0,sd63)],[(2000000,sd64)]⟩
def jm.post:Shape:=⟨[],[(2000000,sd64)]⟩
def jm.c3 (i:Int)(j:Int)(ui:List (Int))(Z:List (Int)→Option ρ):Option ρ:=
  bnd (inR (ui.length) j) fun y=>
  bnd (idx ui j) fun y1=>
  bnd (inR (ui.length) i) fun y2=>
  bnd (idx ui i) fun y3=>
  bnd (inR (ui.length) i) fun y4=>
  bnd (idx ui i) fun y5=>
  bnd (inR (List.length (List.set ui (Int.toNat i) y1)) j) fun y6=>
  bnd (idx (List.set ui (Int.toNat i) y1) j) fun y7=>
  Z (List.set (List.set ui (Int.toNat i) y1) (Int.toNat j) y3)
def jm.c3s:Shape:=⟨[(0,sd63),(2,sd0),(3,sd0)],[(2000000,sd64)]⟩
def jm.c3r:Ck:=Ck.of (T:=List (Int)) jm.c3s (fun ρ X Z=>jm.c3 X.1 X.2.1 X.2.2.1 Z) (fun ρ X V Z=>Z 0 (Shape.inj jm.c3s (X.1,X.2.1,V,())))
def jm.cd_ (i:Int)(j:Int)(ui:List (Int))(Z:((Int)×(Int)×(List Int))⊕((Int)×(Int)×(List Int))→Option ρ):Option ρ:=
  br (decide (i<j))
   (bnd (jm.c3 i j ui some) fun y=>
    Z (.inl ((i64.wrap (i+1)),(i64.wrap (j-1)),y)))
   (Z (.inr (i,j,ui)))
def jm.cd_r:Ck:=Ck.ofLoop (S:=(Int)×(Int)×(List Int)) (T:=(Int)×(Int)×(List Int)) jm.c3s (fun X=>(X.1,X.2.1,X.2.2.1)) (fun ρ X Q Z=>jm.cd_ Q.1 Q.2.1 Q.2.2 Z) (fun ρ X V Z=>Z 2 (Shape.inj jm.c3s (V.1,V.2.1,V.2.2,())))
def jm (ui:List (Int)):Option ((List Int)×Unit):=
  bnd (iter (fun s↦jm.cd_ s.1 s.2.1 s.2.2 some) ((0:Int),i64.wrap ((ui.length:Int)-1),ui)) fun y=>
  some (y.2.2,())
def jm.mc:MCallee:=⟨71,jm.pre,jm.post,fun X=>jm X.1⟩
def jm.G:Env:=⟨28,tab,[],[0,2,3,9],[2000000],[(3,[⟨[],[],[15,16,17,18,19,20,21,22,23,24,25],[]⟩,⟨[],[],[14,16,17,18,19,20,21,22,23,24,25],[]⟩,⟨[],[],[14,15,17,18,19,20,21,22,23,24,25,26],[2000000]⟩,⟨[],[],[14,15,16,18,19,20,21,22,23,24,25,26],[2000000]⟩,⟨[],[],[14,15,16,17,19,22,23,24,25],[]⟩,⟨[],[],[14,15,16,17,18,22,23,24,25],[]⟩,⟨[4,5],[],[14,15,16,17,22,23,24,25],[]⟩,⟨[6,4,5],[],[14,15,16,17,22,23,24,25],[]⟩,⟨[],[],[14,15,16,17,18,19,20,21,23],[]⟩,⟨[],[],[14,15,16,17,18,19,20,21,22],[]⟩,⟨[8,9],[],[14,15,16,17,18,19,20,21],[]⟩,⟨[10,8,9],[],[14,15,16,17,18,19,20,21],[]⟩,⟨[0,1,4,5,6,7,11,10,8,9],[],[16,17],[]⟩,⟨[12,0,1,4,5,6,7,11,10,8,9],[2000000],[16,17],[]⟩,⟨[2,3,0,1,4,5,6,7,8,9,10,11,12,13],[],[],[]⟩,⟨[14,2,3,0,1,4,5,6,7,8,9,10,11,12,13],[2000000],[],[]⟩])],[(100001,jm.cd_r),(3,jm.c3r)],[],jP,[]⟩
theorem jm.p0:PcA jm.G Tryd.f71 0:=
  Jt (s:=jm.cd_r) (by kernel_rfl) (by kernel_rfl) (Je (sh:=jm.c3s) (I:=fun X Q=>(Q.1,Q.2.1,Q.2.2,())) (fun X=>rfl) (fun ρ X Q Z=>(jv (jc fun _=>jd) jd)) (fun ρ X t k=>(by kernel_rfl)) (fun X s=>by kernel_rfl))
theorem jm.p1:PcA jm.G Tryd.f71 1:=
  jE (s:=jm.c3r) (by kernel_rfl) (by kernel_rfl) (jG (sh:=jm.c3s) (fun ρ X Z=>(jc fun _=>(jc fun _=>(jc fun _=>(jc fun _=>(jc fun _=>(jc fun _=>(jc fun _=>(jc fun _=>jd))))))))) (fun ρ X t k=>(by kernel_rfl)) (fun X=>by kernel_rfl))
theorem jm.ok:MOk Tryd.prog 71 jm.mc:=kq (mc:=jm.mc) (G:=jm.G) jV mixed Tryd.func71 ⟨jR,jM,jC,jL⟩ (m:=2) (by kernel_rfl) ⟨⟨trivial,jm.p0⟩,jm.p1⟩ (by kernel_rfl) (fun _=>by kernel_rfl)
abbrev sd65:SD:=.one (.val .str)
abbrev sd66:SD:=.one (.own 3 0)
abbrev sd67:SD:=.one (.own 14 0)
def whole_Int_Text.cf_ (part:Int)(i:Int)(t14:List (Int))(Z:((Int)×(Int)×(List Int))⊕((Int)×(Int)×(List Int))→Option ρ):Option ρ:=
  br (decide (i≥0))
   (bnd (inR (t14.length) i) fun y=>
    bnd (idx t14 i) fun y1=>
    bnd (inR (t14.length) i) fun y2=>
    bnd (idx t14 i) fun y3=>
    Z (.inl ((Int.tmod (ibits BinOp.or IntKind.u64 (u64.wrap (part*2 ^32)) (IntKind.wrap IntKind.u64 y1)) (1000000000:Int)),(i64.wrap (i-1)),(List.set t14 (Int.toNat i) (u32.wrap (u64.wrap (Int.tdiv (ibits BinOp.or IntKind.u64 (u64.wrap (part*2 ^32)) (IntKind.wrap IntKind.u64 y1)) (1000000000:Int))))))))
   (Z (.inr (part,i,t14)))
def whole_Int_Text.cf_s:Shape:=⟨[(0,sd47),(1,sd11),(2,sd65),(3,sd66),(4,sd67),(5,sd17),(6,sd0)],[(1,sd16),(3,sd64),(14,sd40)]⟩
def whole_Int_Text.cf_r:Ck:=Ck.ofLoop (S:=(Int)×(Int)×(List Int)) (T:=(Int)×(Int)×(List Int)) whole_Int_Text.cf_s (fun X=>(X.2.2.1,X.2.2.2.1,(q4 X).2.2.2.1)) (fun ρ X Q Z=>whole_Int_Text.cf_ Q.1 Q.2.1 Q.2.2 Z) (fun ρ X V Z=>Z 4 (Shape.inj whole_Int_Text.cf_s (X.1,X.2.1,V.1,V.2.1,(q4 X).1,(q4 X).2.1,(q4 X).2.2.1,V.2.2,())))
def whole_Int_Text.cB_ (t14:List (Int))(Z:List (Int)→Option ρ):Option ρ:=
  bnd (inR (t14.length) (i64.wrap ((t14.length:Int)-1))) fun y=>
  bnd (idx t14 (i64.wrap ((t14.length:Int)-1))) fun y1=>
  br (y1==0)
   (bnd (okIf (decide ((0:Int)≤i64.wrap ((t14.length:Int)-1))&&decide (i64.wrap ((t14.length:Int)-1)≤(t14.length:Int)))) fun y2=>
    Z (List.take (Int.toNat (i64.wrap ((t14.length:Int)-1))) t14))
   (Z t14)
def whole_Int_Text.cB_r:Ck:=Ck.of (T:=List (Int)) whole_Int_Text.cf_s (fun ρ X Z=>whole_Int_Text.cB_ (q4 X).2.2.2.1 Z) (fun ρ X V Z=>Z 0 (Shape.inj whole_Int_Text.cf_s (X.1,X.2.1,X.2.2.1,X.2.2.2.1,(q4 X).1,(q4 X).2.1,(q4 X).2.2.1,V,())))
def whole_Int_Text.c16 (part:Int)(t7:Int)(t14:List (Int))(Z:Bool→Option ρ):Option ρ:=
  br (decide (t7<9))
   (br (decide (part>0))
     (Z true)
     (Z (decide ((t14.length:Int)>0))))
   (Z false)
def whole_Int_Text.c16s:Shape:=⟨[(0,sd47),(1,sd11),(2,sd65),(3,sd66),(4,sd67),(5,sd17),(6,sd0),(7,sd0)],[(1,sd16),(3,sd64),(14,sd40)]⟩
def whole_Int_Text.c16x0:Shape:=⟨[(0,sd47),(1,sd11),(2,sd65),(3,sd66),(4,sd67),(5,sd17),(6,sd0),(7,sd0),(63,sd1)],[(1,sd16),(3,sd64),(14,sd40)]⟩
def whole_Int_Text.c16r:Ck:=Ck.of (T:=Bool) whole_Int_Text.c16s (fun ρ X Z=>whole_Int_Text.c16 X.2.2.1 (q4 X).1 (q8 X).1 Z) (fun ρ X V Z=>Z 0 (Shape.inj whole_Int_Text.c16x0 (X.1,X.2.1,X.2.2.1,X.2.2.2.1,(q4 X).1,V,(q4 X).2)))
def whole_Int_Text.cs_ (part:Int)(t7:Int)(out:List (Int))(t14:List (Int))(Z:((Int)×(Int)×(List Int))⊕((Int)×(Int)×(List Int))→Option ρ):Option ρ:=
  bnd (whole_Int_Text.c16 part t7 t14 some) fun y=>
  br y
   (bnd (okIf (decide ((out.length+1)*1≤140737488355328)&&decide (out.length+1≤140737488355328))) fun y1=>
    Z (.inl ((u64.wrap (Int.tdiv part (10:Int))),(i64.wrap (t7+1)),(out++[u8.wrap (u64.wrap ((48:Int)+Int.tmod part (10:Int)))]))))
   (Z (.inr (part,t7,out)))
def whole_Int_Text.cs_r:Ck:=Ck.ofLoop (S:=(Int)×(Int)×(List Int)) (T:=(Int)×(Int)×(List Int)) whole_Int_Text.c16s (fun X=>(X.2.2.1,(q4 X).1,(q4 X).2.2.2.1)) (fun ρ X Q Z=>whole_Int_Text.cs_ Q.1 Q.2.1 Q.2.2 (q8 X).1 Z) (fun ρ X V Z=>Z 6 (Shape.inj whole_Int_Text.c16s (X.1,X.2.1,V.1,X.2.2.2.1,V.2.1,(q4 X).2.1,(q4 X).2.2.1,V.2.2,(q8 X))))
def whole_Int_Text.ce_ (out:List (Int))(t14:List (Int))(Z:((List Int)×(List Int))⊕((List Int)×(List Int))→Option ρ):Option ρ:=
  br (decide ((t14.length:Int)>0))
   (bnd (iter (fun s↦whole_Int_Text.cf_ s.1 s.2.1 s.2.2 some) ((0:Int),i64.wrap ((t14.length:Int)-1),t14)) fun y=>
    bnd (whole_Int_Text.cB_ y.2.2 some) fun y1=>
    bnd (iter (fun s↦whole_Int_Text.cs_ s.1 s.2.1 s.2.2 y1 some) (y.1,(0:Int),out)) fun y2=>
    Z (.inl (y2.2.2,y1)))
   (Z (.inr (out,t14)))
def whole_Int_Text.ce_s:Shape:=⟨[(0,sd47),(1,sd11),(2,sd65),(3,sd66),(4,sd67)],[(1,sd16),(3,sd64),(14,sd40)]⟩
def whole_Int_Text.ce_r:Ck:=Ck.ofLoop (S:=(List Int)×(List Int)) (T:=(List Int)×(List Int)) whole_Int_Text.ce_s (fun X=>((q4 X).1,(q4 X).2.1)) (fun ρ X Q Z=>whole_Int_Text.ce_ Q.1 Q.2 Z) (fun ρ X V Z=>Z 2 (Shape.inj whole_Int_Text.ce_s (X.1,X.2.1,X.2.2.1,X.2.2.2.1,V.1,V.2,())))
def whole_Int_Text.cD_ (a0:Bool)(out:List (Int))(Z:List (Int)→Option ρ):Option ρ:=
  br a0
   (bnd (okIf (decide ((out.length+1)*1≤140737488355328)&&decide (out.length+1≤140737488355328))) fun y=>
    Z (out++[(45:Int)]))
   (Z out)
def whole_Int_Text.cD_r:Ck:=Ck.of (T:=List (Int)) whole_Int_Text.ce_s (fun ρ X Z=>whole_Int_Text.cD_ X.2.2.1 (q4 X).1 Z) (fun ρ X V Z=>Z 0 (Shape.inj whole_Int_Text.ce_s (X.1,X.2.1,X.2.2.1,X.2.2.2.1,V,(q4 X).2)))
def whole_Int_Text (a:Bool×(List Int)):Option (List UInt8):=
  br ((↑(List.length a.2):Int)==0)
   (some (Array.toList (ByteArray.data (ByteArray.mk #[48]))))
   (bnd (Ja a.2) fun y=>
    bnd (iter (fun s↦whole_Int_Text.ce_ s.1 s.2 some) ([],y.1)) fun y1=>
    bnd (whole_Int_Text.cD_ a.1 y1.1 some) fun y2=>
    bnd (jm y2) fun y3=>
    some (List.map (fun n↦UInt8.ofNat (Int.toNat n)) y3.1))
def whole_Int_Text.ce:Go.Ql.Callee:=⟨[(.st (.pair .bool (.sl (.int .u32))))],[.str],fun X=>whole_Int_Text X⟩
def whole_Int_Text.G:Env:=⟨84,tab,[],[0,1,2,3,4,5,6,7,11,17,22,47,63,76],[3,14],[],[(281925,whole_Int_Text.cD_r),(100005,whole_Int_Text.ce_r),(100016,whole_Int_Text.cs_r),(16,whole_Int_Text.c16r),(253253,whole_Int_Text.cB_r),(100008,whole_Int_Text.cf_r)],[(70,Ja.mc),(71,jm.mc)],jP,[]⟩
theorem whole_Int_Text.p0:PcA whole_Int_Text.G Tryd.f54 0:=
  Jt (s:=whole_Int_Text.ce_r) (by kernel_rfl) (by kernel_rfl) (Je (sh:=whole_Int_Text.ce_s) (I:=fun X Q=>(X.1,X.2.1,X.2.2.1,X.2.2.2.1,Q.1,Q.2,())) (fun X=>rfl) (fun ρ X Q Z=>(jv (jc fun _=>(jc fun _=>(jc fun _=>jd))) jd)) (fun ρ X t k=>(by kernel_rfl)) (fun X s=>by kernel_rfl))
theorem whole_Int_Text.p1:PcA whole_Int_Text.G Tryd.f54 1:=
  Jt (s:=whole_Int_Text.cf_r) (by kernel_rfl) (by kernel_rfl) (Je (sh:=whole_Int_Text.cf_s) (I:=fun X Q=>(X.1,X.2.1,Q.1,Q.2.1,(q4 X).1,(q4 X).2.1,(q4 X).2.2.1,Q.2.2,())) (fun X=>rfl) (fun ρ X Q Z=>(jv (jc fun _=>(jc fun _=>(jc fun _=>(jc fun _=>jd)))) jd)) (fun ρ X t k=>(by kernel_rfl)) (fun X s=>by kernel_rfl))
theorem whole_Int_Text.p2:PcA whole_Int_Text.G Tryd.f54 2:=
  kj (s:=whole_Int_Text.cB_r) (by kernel_rfl) (by kernel_rfl) (jG (sh:=whole_Int_Text.cf_s) (fun ρ X Z=>(jc fun _=>(jc fun _=>(jv (jc fun _=>jd) jd)))) (fun ρ X t k=>(by kernel_rfl)) (fun X=>by kernel_rfl))
theorem whole_Int_Text.p3:PcA whole_Int_Text.G Tryd.f54 3:=
  Jt (s:=whole_Int_Text.cs_r) (by kernel_rfl) (by kernel_rfl) (Je (sh:=whole_Int_Text.c16s) (I:=fun X Q=>(X.1,X.2.1,Q.1,X.2.2.2.1,Q.2.1,(q4 X).2.1,(q4 X).2.2.1,Q.2.2,(q8 X))) (fun X=>rfl) (fun ρ X Q Z=>(jc fun _=>(jv (jc fun _=>jd) jd))) (fun ρ X t k=>(by kernel_rfl)) (fun X s=>by kernel_rfl))
theorem whole_Int_Text.p4:PcA whole_Int_Text.G Tryd.f54 4:=
  jE (s:=whole_Int_Text.c16r) (by kernel_rfl) (by kernel_rfl) (jG (sh:=whole_Int_Text.c16s) (fun ρ X Z=>(jv (jv jd jd) jd)) (fun ρ X t k=>(by kernel_rfl)) (fun X=>by kernel_rfl))
theorem whole_Int_Text.p5:PcA whole_Int_Text.G Tryd.f54 5:=
  kj (s:=whole_Int_Text.cD_r) (by kernel_rfl) (by kernel_rfl) (jG (sh:=whole_Int_Text.ce_s) (fun ρ X Z=>(jv (jc fun _=>jd) jd)) (fun ρ X t k=>(by kernel_rfl)) (fun X=>by kernel_rfl))
theorem whole_Int_Text.ok:CalleeOk Tryd.prog 54 whole_Int_Text.ce:=fn_ok (G:=whole_Int_Text.G) jV mixed Tryd.func54 ⟨jR,(JI Ja.ok (JI jm.ok jM)),jC,jL⟩ (m:=6) (by kernel_rfl) ⟨⟨⟨⟨⟨⟨trivial,whole_Int_Text.p0⟩,whole_Int_Text.p1⟩,whole_Int_Text.p2⟩,whole_Int_Text.p3⟩,whole_Int_Text.p4⟩,whole_Int_Text.p5⟩ (by kernel_rfl) (fun _=>by kernel_rfl)
abbrev sd68:SD:=.one (.own 6 0)
abbrev sd69:SD:=.one (.val (.sl (.st (.pair .bool (.sl (.int .u32))))))
abbrev sd70:SO:=.arr 0 false 9 .str
def jl.ch_ (last:Int)(t11:List (Bool×(List Int)))(t12:Int)(Z:Int→Option ρ):Option ρ:=
  bnd (idx t11 t12) fun y=>
  bnd (whole_Int_Sign (y.1,y.2)) fun y1=>
  br (y1 !=0)
   (Z t12)
   (Z last)
def jl.ch_s:Shape:=⟨[(0,sd18),(1,sd19),(2,sd65),(3,sd0),(11,sd22),(12,sd0)],[]⟩
def jl.ch_r:Ck:=Ck.of (T:=Int) jl.ch_s (fun ρ X Z=>jl.ch_ X.2.2.2.1 (q4 X).1 (q4 X).2.1 Z) (fun ρ X V Z=>Z 0 (Shape.inj jl.ch_s (X.1,X.2.1,X.2.2.1,V,(q4 X))))
def jl.ca_ (last:Int)(t11:List (Bool×(List Int)))(t12:Int)(Z:((Int)×(Int))⊕((Int)×(Int))→Option ρ):Option ρ:=
  br (decide (t12<8))
   (bnd (jl.ch_ last t11 t12 some) fun y=>
    Z (.inl (y,(i64.wrap (t12+1)))))
   (Z (.inr (last,t12)))
def jl.ca_r:Ck:=Ck.ofLoop (S:=(Int)×(Int)) (T:=(Int)×(Int)) jl.ch_s (fun X=>(X.2.2.2.1,(q4 X).2.1)) (fun ρ X Q Z=>jl.ca_ Q.1 (q4 X).1 Q.2 Z) (fun ρ X V Z=>Z 2 (Shape.inj jl.ch_s (X.1,X.2.1,X.2.2.1,V.1,(q4 X).1,V.2,())))
def jl.cg_ (t24:List (Bool×(List Int)))(t25:Int)(t26:Int)(parts:List (List UInt8))(Z:((Int)×(List (List UInt8)))⊕((Int)×(List (List UInt8)))→Option ρ):Option ρ:=
  br (decide (t26<t25))
   (bnd (idx t24 t26) fun y=>
    bnd (whole_Int_Text (y.1,y.2)) fun y1=>
    bnd (okIf (decide ((parts.length+1)*16≤140737488355328)&&decide (parts.length+1≤140737488355328))) fun y2=>
    Z (.inl ((i64.wrap (t26+1)),(parts++[y1]))))
   (Z (.inr (t26,parts)))
def jl.cg_s:Shape:=⟨[(0,sd18),(1,sd19),(2,sd65),(3,sd0),(6,sd68),(11,sd22),(12,sd0),(24,sd69),(25,sd0),(26,sd0)],[(6,sd70)]⟩
def jl.cg_r:Ck:=Ck.ofLoop (S:=(Int)×(List (List UInt8))) (T:=(Int)×(List (List UInt8))) jl.cg_s (fun X=>((q8 X).1,(q8 X).2.1)) (fun ρ X Q Z=>jl.cg_ (q4 X).2.2.1 (q4 X).2.2.2.1 Q.1 Q.2 Z) (fun ρ X V Z=>Z 4 (Shape.inj jl.cg_s (X.1,X.2.1,X.2.2.1,X.2.2.2.1,(q4 X).1,(q4 X).2.1,(q4 X).2.2.1,(q4 X).2.2.2.1,V.1,V.2,())))
def jl.cC_ (a_1:(List (Bool×(List Int)))×(Int))(text:List UInt8)(Z:List UInt8→Option ρ):Option ρ:=
  br (decide (a_1.2>0))
   (bnd (strconv_Itoa a_1.2) fun y=>
    bnd (okIf (decide (List.length (Array.toList (ByteArray.data (ByteArray.mk #[47])))+y.length≤9223372036854775807))) fun y1=>
    bnd (okIf (decide (text.length+List.length (Array.toList (ByteArray.data (ByteArray.mk #[47]))++y)≤9223372036854775807))) fun y2=>
    Z (text++(Array.toList (ByteArray.data (ByteArray.mk #[47]))++y)))
   (Z text)
def jl.cC_s:Shape:=⟨[(0,sd18),(1,sd19),(2,sd65),(3,sd0),(6,sd68),(9,sd65),(11,sd22),(12,sd0),(24,sd69),(25,sd0),(26,sd0)],[(6,sd70)]⟩
def jl.cC_r:Ck:=Ck.of (T:=List UInt8) jl.cC_s (fun ρ X Z=>jl.cC_ X.2.1 (q4 X).1 Z) (fun ρ X V Z=>Z 0 (Shape.inj jl.cC_s (X.1,X.2.1,X.2.2.1,X.2.2.2.1,V,(q4 X).2)))
def jl (a:(List (Bool×(List Int)))×(Int)):Option (List UInt8):=
  bnd (iter (fun s↦jl.ca_ s.1 a.1 s.2 some) ((0:Int),(0:Int))) fun y=>
  bnd (okIf (decide ((0:Int)≤i64.wrap (y.1+1))&&decide (i64.wrap (y.1+1)≤(↑(8:Nat):Int)))) fun y1=>
  bnd (iter (fun s↦jl.cg_ (List.take (Int.toNat (i64.wrap (y.1+1))) a.1) (↑(List.length (List.take (Int.toNat (i64.wrap (y.1+1))) a.1)):Int) s.1 s.2 some) ((0:Int),[])) fun y2=>
  bnd (strings_Join y2.2 (Array.toList (ByteArray.data (ByteArray.mk #[44])))) fun y3=>
  bnd (jl.cC_ a y3 some) fun y4=>
  some y4
def jl.ce:Go.Ql.Callee:=⟨[(.st (.pair (.ar 8 (.st (.pair .bool (.sl (.int .u32))))) (.int .i64)))],[.str],fun X=>jl X⟩
def jl.G:Env:=⟨48,tab,[(53,whole_Int_Sign.ce),(54,whole_Int_Text.ce),(55,strings_Join.ce),(56,strconv_Itoa.ce)],[0,1,2,3,4,5,6,8,9,11,12,13,18,24,25,26,27,40],[6,8000001],[],[(261445,jl.cC_r),(100010,jl.cg_r),(100003,jl.ca_r),(216392,jl.ch_r)],[],jP,[]⟩
theorem jl.p0:PcA jl.G Tryd.f38 0:=
  Jt (s:=jl.ca_r) (by kernel_rfl) (by kernel_rfl) (Je (sh:=jl.ch_s) (I:=fun X Q=>(X.1,X.2.1,X.2.2.1,Q.1,(q4 X).1,Q.2,())) (fun X=>rfl) (fun ρ X Q Z=>(jv (jc fun _=>jd) jd)) (fun ρ X t k=>(by kernel_rfl)) (fun X s=>by kernel_rfl))
theorem jl.p1:PcA jl.G Tryd.f38 1:=
  kj (s:=jl.ch_r) (by kernel_rfl) (by kernel_rfl) (jG (sh:=jl.ch_s) (fun ρ X Z=>(jc fun _=>(jc fun _=>(jv jd jd)))) (fun ρ X t k=>(by kernel_rfl)) (fun X=>by kernel_rfl))
theorem jl.p2:PcA jl.G Tryd.f38 2:=
  Jt (s:=jl.cg_r) (by kernel_rfl) (by kernel_rfl) (Je (sh:=jl.cg_s) (I:=fun X Q=>(X.1,X.2.1,X.2.2.1,X.2.2.2.1,(q4 X).1,(q4 X).2.1,(q4 X).2.2.1,(q4 X).2.2.2.1,Q.1,Q.2,())) (fun X=>rfl) (fun ρ X Q Z=>(jv (jc fun _=>(jc fun _=>(jc fun _=>jd))) jd)) (fun ρ X t k=>(by kernel_rfl)) (fun X s=>by kernel_rfl))
theorem jl.p3:PcA jl.G Tryd.f38 3:=
  kj (s:=jl.cC_r) (by kernel_rfl) (by kernel_rfl) (jG (sh:=jl.cC_s) (fun ρ X Z=>(jv (jc fun _=>(jc fun _=>(jc fun _=>jd))) jd)) (fun ρ X t k=>(by kernel_rfl)) (fun X=>by kernel_rfl))
theorem jl.ok:CalleeOk Tryd.prog 38 jl.ce:=fn_ok (G:=jl.G) jV mixed Tryd.func38 ⟨(jI whole_Int_Sign.ok (jI whole_Int_Text.ok (jI strings_Join.ok (jI strconv_Itoa.ok jR)))),jM,jC,jL⟩ (m:=4) (by kernel_rfl) ⟨⟨⟨⟨trivial,jl.p0⟩,jl.p1⟩,jl.p2⟩,jl.p3⟩ (by kernel_rfl) (fun _=>by kernel_rfl)
abbrev sd71:SD:=.one (.val (.sl .str))
abbrev sd72:SD:=.one (.own 8 0)
def jF.pre:Shape:=⟨[(0,sd37)],[(2000000,sd23)]⟩
def jF.post:Shape:=⟨[(0,sd71)],[(2000000,sd23)]⟩
def jF.ca_ (t9lo:Int)(t9n:Int)(t10:Int)(t11:Int)(t8:List (List UInt8))(ui:List ((List (Bool×(List Int)))×(Int)))(Z:((Int)×(List (List UInt8)))⊕((Int)×(List (List UInt8)))→Option ρ):Option ρ:=
  br (decide (t11<t10))
   (bnd (okIf (decide ((0:Ty.den (Ty.int IntKind.i64))≤t11)&&decide (t11<t9n))) fun y=>
    bnd (idx ui (t9lo+t11)) fun y1=>
    bnd (jl y1) fun y2=>
    bnd (inR (t8.length) t11) fun y3=>
    bnd (idx t8 t11) fun y4=>
    Z (.inl ((i64.wrap (t11+1)),(List.set t8 (Int.toNat t11) y2))))
   (Z (.inr (t11,t8)))
def jF.ca_s:Shape:=⟨[(0,sd37),(2,sd71),(3,sd72),(9,sd37),(10,sd0),(11,sd0)],[(8,sd70),(2000000,sd23)]⟩
def jF.ca_r:Ck:=Ck.ofLoop (S:=(Int)×(List (List UInt8))) (T:=(Int)×(List (List UInt8))) jF.ca_s (fun X=>((q4 X).2.2.1,(q4 X).2.2.2.1)) (fun ρ X Q Z=>jF.ca_ X.2.2.2.1 (q4 X).1 (q4 X).2.1 Q.1 Q.2 (q8 X).1 Z) (fun ρ X V Z=>Z 2 (Shape.inj jF.ca_s (X.1,X.2.1,X.2.2.1,X.2.2.2.1,(q4 X).1,(q4 X).2.1,V.1,V.2,(q8 X))))
def jF (vlo:Int) (vn:Int) (ui:List ((List (Bool×(List Int)))×(Int))):Option ((List (List UInt8))×(List ((List (Bool×(List Int)))×(Int)))×Unit):=
  bnd (okIf (decide ((0:Int)≤(↑(List.length (part vlo vn ui)):Int))&&decide ((↑(List.length (part vlo vn ui)):Int)≤(↑(List.length (part vlo vn ui)):Int))&&decide ((↑(List.length (part vlo vn ui)):Int)*(↑(16:Nat):Int)≤140737488355328)&&decide ((↑(List.length (part vlo vn ui)):Int)≤140737488355328))) fun y=>
  bnd (iter (fun s↦jF.ca_ vlo vn (↑(List.length (part vlo vn ui)):Int) s.1 s.2 ui some) ((0:Int),List.replicate (Int.toNat (↑(List.length (part vlo vn ui)):Int)) [])) fun y1=>
  some (y1.2,ui,())
def jF.mc:MCallee:=⟨25,jF.pre,jF.post,fun X=>jF X.1 X.2.1 X.2.2.1⟩
def jF.G:Env:=⟨23,tab,[(38,jl.ce)],[0,2,3,4,5,9,10,11,12],[5,8,2000000],[],[(100003,jF.ca_r)],[],jP,[]⟩
theorem jF.p0:PcA jF.G Tryd.f25 0:=
  Jt (s:=jF.ca_r) (by kernel_rfl) (by kernel_rfl) (Je (sh:=jF.ca_s) (I:=fun X Q=>(X.1,X.2.1,X.2.2.1,X.2.2.2.1,(q4 X).1,(q4 X).2.1,Q.1,Q.2,(q8 X))) (fun X=>rfl) (fun ρ X Q Z=>(jv (jc fun _=>(jc fun _=>(jc fun _=>(jc fun _=>(jc fun _=>jd))))) jd)) (fun ρ X t k=>(by kernel_rfl)) (fun X s=>by kernel_rfl))
theorem jF.ok:MOk Tryd.prog 25 jF.mc:=kq (mc:=jF.mc) (G:=jF.G) jV mixed Tryd.func25 ⟨(jI jl.ok jR),jM,jC,jL⟩ (m:=1) (by kernel_rfl) ⟨trivial,jF.p0⟩ (by kernel_rfl) (fun _=>by kernel_rfl)
abbrev sd73:SO:=.box [.val (.sl .str),.val (.sl (.int .i64)),.val (.int .i64)]
abbrev sd74:SO:=.box [.val (.sl .str),.own 2014 0,.val (.int .i64)]
def jD.c3  (Z:Unit→Option ρ):Option ρ:=
  Z ()
def jD.c3s:Shape:=⟨[(0,sd10),(1,sd0),(2,sd8),(3,sd36),(6,sd31),(7,sd21),(8,sd60),(9,sd61)],[(3,sd4),(6,sd73),(7,sd12),(9,sd12),(14,sd62),(1014,sd23),(2014,sd28)]⟩
def jD.c3r:Ck:=Ck.of (T:=Unit) jD.c3s (fun ρ X Z=>jD.c3  Z) (fun ρ X V Z=>Z 0 (Shape.inj jD.c3s (X.1,X.2.1,X.2.2.1,X.2.2.2.1,(q4 X).1,(q4 X).2.1,[],[],(0:Int),(q8 X).2.2.2.1,(q4 (q8 X)).1,(q8 X).2.2.2)))
def jD.c4 (uh:List ((List (Bool×(List Int)))×(Int)))(Z:(List (List UInt8))×(List ((List (Bool×(List Int)))×(Int)))→Option ρ):Option ρ:=
  bnd (jF (0:Int) (uh.length:Int) uh) fun y=>
  Z (y.1,y.2.1)
def jD.c4x0:Shape:=⟨[(0,sd10),(1,sd0),(2,sd8),(3,sd36),(6,sd31),(7,sd21),(8,sd60),(9,sd61)],[(3,sd4),(6,sd74),(7,sd12),(9,sd12),(14,sd62),(1014,sd23),(2014,sd28)]⟩
def jD.c4r:Ck:=Ck.of (T:=(List (List UInt8))×(List ((List (Bool×(List Int)))×(Int)))) jD.c3s (fun ρ X Z=>jD.c4 (q8 (q8 X)).2.2.1 Z) (fun ρ X V Z=>Z 0 (Shape.inj jD.c4x0 (X.1,X.2.1,X.2.2.1,X.2.2.2.1,(q4 X).1,(q4 X).2.1,V.1,(q8 (q8 X)).1,(0:Int),(0:Int),(q8 X).2.2.2.1,(q4 (q8 X)).1,(q4 (q8 X)).2.1,(q4 (q8 X)).2.2.1,(q4 (q8 X)).2.2.2.1,(q8 (q8 X)).1,(q8 (q8 X)).2.1,V.2,(q8 (q8 X)).2.2.2)))
def jD.c3v1  (Z:Unit→Option ρ):Option ρ:=
  Z ()
def jD.c3v1s:Shape:=⟨[(0,sd10),(1,sd0),(2,sd8),(3,sd36),(6,sd31),(7,sd21),(8,sd29),(9,sd61)],[(3,sd4),(6,sd73),(7,sd12),(9,sd12)]⟩
def jD.c3v1r:Ck:=Ck.of (T:=Unit) jD.c3v1s (fun ρ X Z=>jD.c3v1  Z) (fun ρ X V Z=>Z 0 (Shape.inj jD.c3v1s (X.1,X.2.1,X.2.2.1,X.2.2.2.1,(q4 X).1,(q4 X).2.1,(q4 X).2.2.1,[],[],(0:Int),(q4 (q8 X)).1,(q4 (q8 X)).2.1,(q4 (q8 X)))))
def jD.c3v1o:Ck:=Ck.or jD.c3v1s jD.c3v1r jD.c3r
def jD.c4v1  (Z:Unit→Option ρ):Option ρ:=
  none
def jD.c4v1r:Ck:=Ck.of (T:=Unit) jD.c3v1s (fun ρ X Z=>jD.c4v1  Z) (fun ρ X V Z=>none)
def jD.c4v1o:Ck:=Ck.or jD.c3v1s jD.c4v1r jD.c4r
def jD (c:(Int)×((Int)×(List ((Int)×((Int)×((List Int)×((Int)×((Int)×(List Int))))))))) (t1:Int) (tape:List (Int)):Option (((List (List UInt8))×((List Int)×(Int)))×((Int)×(Int))):=
  bnd (ji (c.1,c.2.1,c.2.2) t1 tape) fun y=>
  sel y
   (fun u=>br (u.1.1 !=0)
     (bnd (jD.c3 some) fun y1=>
      some (([],[],(0:Int)),u.1.1,u.1.2))
     (bnd (jD.c4 u.2.2.2.2.2.2.1 some) fun y2=>
      some ((y2.1,u.2.2.2.2.2.2.2.1,u.2.2.2.2.1),(0:Int),(0:Int))))
   (fun v=>br (v.2.1.1 !=0)
     (bnd (jD.c3v1 some) fun y3=>
      some (([],[],(0:Int)),v.2.1.1,v.2.1.2))
     (bnd (jD.c4v1 some) fun y4=>
      none))
def jD.ce:Go.Ql.Callee:=⟨[(.st (.pair (.int .i64) (.pair (.int .i64) (.sl (.st (.pair (.int .i64) (.pair (.int .i64) (.pair (.sl (.int .i64)) (.pair (.int .i64) (.pair (.int .i64) (.sl (.int .i64)))))))))))),(.int .i64),(.sl (.int .i64))],[(.st (.pair (.sl .str) (.pair (.sl (.int .i64)) (.int .i64)))),(.st (.pair (.int .i64) (.int .i64)))],fun X=>jD X.1 X.2.1 X.2.2⟩
def jD.G:Env:=⟨37,tab,[],[0,1,2,3,6,7,8,9,19],[14,1014,2014],[(4,[⟨[],[],[27,28,29,30,31,32,33,34,36],[]⟩,⟨[0],[],[27,28,29,30,31,32,33,34,36],[]⟩,⟨[1,0],[],[27,28,29,30,31,32,33,34,36],[]⟩,⟨[2,1,0],[],[27,28,29,30,31,32,33,34,36],[]⟩,⟨[3,2,1,0],[1014],[27,28,29,30,31,32,33,34,36],[]⟩,⟨[],[],[22,23,24,25,26,31,32,33,34,36],[1014]⟩,⟨[5],[],[22,23,24,25,26,31,32,33,34,36],[1014]⟩,⟨[6,5],[],[22,23,24,25,26,31,32,33,34,36],[1014]⟩,⟨[7,6,5],[],[22,23,24,25,26,31,32,33,34,36],[1014]⟩,⟨[],[],[22,23,24,25,26,27,28,29,30,36],[1014]⟩,⟨[9],[],[22,23,24,25,26,27,28,29,30,36],[1014]⟩,⟨[10,9],[],[22,23,24,25,26,27,28,29,30,36],[1014]⟩,⟨[11,10,9],[],[22,23,24,25,26,27,28,29,30,36],[1014]⟩,⟨[4,3,2,1,0,8,7,6,5,12,11,10,9],[],[36],[]⟩,⟨[],[],[22,23,24,25,26,27,28,29,30,31,32,33,34,35],[1014,6]⟩,⟨[13,4,3,2,1,0,8,7,6,5,12,11,10,9],[6],[36],[]⟩,⟨[14,15,13,4,3,2,1,0,8,7,6,5,12,11,10,9],[7],[],[]⟩]),
  (3,[⟨[],[],[21],[]⟩,⟨[],[],[20],[6]⟩,⟨[0],[6],[21],[]⟩,⟨[1,2,0],[7],[],[]⟩])],[(4,jD.c4v1o),(3,jD.c3v1o)],[(25,jF.mc)],jP,[(24,ji.ma)]⟩
theorem jD.p0:PcA jD.G Tryd.f9 0:=
  jE (s:=jD.c3v1o) (by kernel_rfl) (by kernel_rfl) (sums_or (jG (sh:=jD.c3v1s) (fun ρ X Z=>jd) (fun ρ X t k=>(by kernel_rfl)) (fun X=>by kernel_rfl)) (jG (sh:=jD.c3s) (fun ρ X Z=>jd) (fun ρ X t k=>(by kernel_rfl)) (fun X=>by kernel_rfl)))
theorem jD.p1:PcA jD.G Tryd.f9 1:=
  jE (s:=jD.c4v1o) (by kernel_rfl) (by kernel_rfl) (sums_or (jG (sh:=jD.c3v1s) (fun ρ X Z=>nat_none) (fun ρ X t k=>nat_none) (fun X=>by kernel_rfl)) (jG (sh:=jD.c3s) (fun ρ X Z=>(jc fun _=>jd)) (fun ρ X t k=>(by kernel_rfl)) (fun X=>by kernel_rfl)))
theorem jD.ok:CalleeOk Tryd.prog 9 jD.ce:=fn_ok (G:=jD.G) jV mixed Tryd.func9 ⟨jR,(JI jF.ok jM),jC,(alts_cons ji.ok jL)⟩ (m:=2) (by kernel_rfl) ⟨⟨trivial,jD.p0⟩,jD.p1⟩ (by kernel_rfl) (fun _=>by kernel_rfl)
def jJ.c6 (a:List (List UInt8))(b:List (List UInt8))(i:Int)(Z:Bool→Option ρ):Option ρ:=
  bnd (idx a i) fun y=>
  bnd (idx b i) fun y1=>
  Z (!y==y1)
def jJ.c6s:Shape:=⟨[(0,sd71),(1,sd71),(4,sd1),(5,sd0)],[]⟩
def jJ.c6x0:Shape:=⟨[(0,sd71),(1,sd71),(4,sd1),(5,sd0),(25,sd1)],[]⟩
def jJ.c6r:Ck:=Ck.of (T:=Bool) jJ.c6s (fun ρ X Z=>jJ.c6 X.1 X.2.1 X.2.2.2.1 Z) (fun ρ X V Z=>Z 0 (Shape.inj jJ.c6x0 (X.1,X.2.1,X.2.2.1,X.2.2.2.1,V,())))
def jJ.cb_ (a:List (List UInt8))(b:List (List UInt8))(i:Int)(Z:(Int)⊕((Int)⊕(Int))→Option ρ):Option ρ:=
  br (decide (i<(a.length:Int)))
   (bnd (jJ.c6 a b i some) fun y=>
    br y
     (Z (.inr (.inl i)))
     (Z (.inl (i64.wrap (i+1)))))
   (Z (.inr (.inr i)))
def jJ.cb_r:Ck:=Ck.ofLoop (S:=Int) (T:=(Int)⊕(Int)) jJ.c6s (fun X=>X.2.2.2.1) (fun ρ X Q Z=>jJ.cb_ X.1 X.2.1 Q Z) (fun ρ X V Z=>sel V (fun V=>Z 1 (Shape.inj jJ.c6s (X.1,X.2.1,false,V,()))) (fun V=>Z 2 (Shape.inj jJ.c6s (X.1,X.2.1,X.2.2.1,V,()))))
def jJ (a:List (List UInt8)) (b:List (List UInt8)):Option Bool:=
  br ((a.length:Int) !=(b.length:Int))
   (some false)
   (bnd (iter (fun s↦jJ.cb_ a b s some) (0:Int)) fun y=>
    sel y
     (fun u=>some false)
     (fun v=>some true))
def jJ.ce:Go.Ql.Callee:=⟨[(.sl .str),(.sl .str)],[.bool],fun X=>jJ X.1 X.2⟩
def jJ.G:Env:=⟨26,tab,[],[0,1,4,5,10,14,25],[],[(6,[⟨[],[],[18,21,22,23,24],[]⟩,⟨[],[],[17,21,22,23,24],[]⟩,⟨[0,1],[],[21,22,23,24],[]⟩,⟨[2,0,1],[],[21,22,23,24],[]⟩,⟨[],[],[17,18,19,20,22],[]⟩,⟨[],[],[17,18,19,20,21],[]⟩,⟨[4,5],[],[17,18,19,20],[]⟩,⟨[6,4,5],[],[17,18,19,20],[]⟩,⟨[3,2,0,1,7,6,4,5],[],[],[]⟩])],[(100004,jJ.cb_r),(6,jJ.c6r)],[],jP,[]⟩
theorem jJ.p0:PcA jJ.G Tryd.f12 0:=
  Jt (s:=jJ.cb_r) (by kernel_rfl) (by kernel_rfl) (Je (sh:=jJ.c6s) (I:=fun X Q=>(X.1,X.2.1,X.2.2.1,Q,())) (fun X=>rfl) (fun ρ X Q Z=>(jv (jc fun _=>(jv jd jd)) jd)) (fun ρ X t k=>(kl (fun _=>(by kernel_rfl)) (fun _=>(by kernel_rfl)))) (fun X s=>by kernel_rfl))
theorem jJ.p1:PcA jJ.G Tryd.f12 1:=
  jE (s:=jJ.c6r) (by kernel_rfl) (by kernel_rfl) (jG (sh:=jJ.c6s) (fun ρ X Z=>(jc fun _=>(jc fun _=>jd))) (fun ρ X t k=>(by kernel_rfl)) (fun X=>by kernel_rfl))
theorem jJ.ok:CalleeOk Tryd.prog 12 jJ.ce:=fn_ok (G:=jJ.G) jV mixed Tryd.func12 ⟨jR,jM,jC,jL⟩ (m:=2) (by kernel_rfl) ⟨⟨trivial,jJ.p0⟩,jJ.p1⟩ (by kernel_rfl) (fun _=>by kernel_rfl)
def jN.c6 (a:List (Int))(b:List (Int))(i:Int)(Z:Bool→Option ρ):Option ρ:=
  bnd (idx a i) fun y=>
  bnd (idx b i) fun y1=>
  Z (y !=y1)
def jN.c6s:Shape:=⟨[(0,sd8),(1,sd8),(4,sd1),(5,sd0)],[]⟩
def jN.c6x0:Shape:=⟨[(0,sd8),(1,sd8),(4,sd1),(5,sd0),(25,sd1)],[]⟩
def jN.c6r:Ck:=Ck.of (T:=Bool) jN.c6s (fun ρ X Z=>jN.c6 X.1 X.2.1 X.2.2.2.1 Z) (fun ρ X V Z=>Z 0 (Shape.inj jN.c6x0 (X.1,X.2.1,X.2.2.1,X.2.2.2.1,V,())))
def jN.cb_ (a:List (Int))(b:List (Int))(i:Int)(Z:(Int)⊕((Int)⊕(Int))→Option ρ):Option ρ:=
  br (decide (i<(a.length:Int)))
   (bnd (jN.c6 a b i some) fun y=>
    br y
     (Z (.inr (.inl i)))
     (Z (.inl (i64.wrap (i+1)))))
   (Z (.inr (.inr i)))
def jN.cb_r:Ck:=Ck.ofLoop (S:=Int) (T:=(Int)⊕(Int)) jN.c6s (fun X=>X.2.2.2.1) (fun ρ X Q Z=>jN.cb_ X.1 X.2.1 Q Z) (fun ρ X V Z=>sel V (fun V=>Z 1 (Shape.inj jN.c6s (X.1,X.2.1,false,V,()))) (fun V=>Z 2 (Shape.inj jN.c6s (X.1,X.2.1,X.2.2.1,V,()))))
def jN (a:List (Int)) (b:List (Int)):Option Bool:=
  br ((a.length:Int) !=(b.length:Int))
   (some false)
   (bnd (iter (fun s↦jN.cb_ a b s some) (0:Int)) fun y=>
    sel y
     (fun u=>some false)
     (fun v=>some true))
def jN.ce:Go.Ql.Callee:=⟨[(.sl (.int .i64)),(.sl (.int .i64))],[.bool],fun X=>jN X.1 X.2⟩
def jN.G:Env:=⟨26,tab,[],[0,1,4,5,10,14,25],[],[(6,[⟨[],[],[18,21,22,23,24],[]⟩,⟨[],[],[17,21,22,23,24],[]⟩,⟨[0,1],[],[21,22,23,24],[]⟩,⟨[2,0,1],[],[21,22,23,24],[]⟩,⟨[],[],[17,18,19,20,22],[]⟩,⟨[],[],[17,18,19,20,21],[]⟩,⟨[4,5],[],[17,18,19,20],[]⟩,⟨[6,4,5],[],[17,18,19,20],[]⟩,⟨[3,2,0,1,7,6,4,5],[],[],[]⟩])],[(100004,jN.cb_r),(6,jN.c6r)],[],jP,[]⟩
theorem jN.p0:PcA jN.G Tryd.f33 0:=
  Jt (s:=jN.cb_r) (by kernel_rfl) (by kernel_rfl) (Je (sh:=jN.c6s) (I:=fun X Q=>(X.1,X.2.1,X.2.2.1,Q,())) (fun X=>rfl) (fun ρ X Q Z=>(jv (jc fun _=>(jv jd jd)) jd)) (fun ρ X t k=>(kl (fun _=>(by kernel_rfl)) (fun _=>(by kernel_rfl)))) (fun X s=>by kernel_rfl))
theorem jN.p1:PcA jN.G Tryd.f33 1:=
  jE (s:=jN.c6r) (by kernel_rfl) (by kernel_rfl) (jG (sh:=jN.c6s) (fun ρ X Z=>(jc fun _=>(jc fun _=>jd))) (fun ρ X t k=>(by kernel_rfl)) (fun X=>by kernel_rfl))
theorem jN.ok:CalleeOk Tryd.prog 33 jN.ce:=fn_ok (G:=jN.G) jV mixed Tryd.func33 ⟨jR,jM,jC,jL⟩ (m:=2) (by kernel_rfl) ⟨⟨trivial,jN.p0⟩,jN.p1⟩ (by kernel_rfl) (fun _=>by kernel_rfl)
abbrev sd75:SD:=.one (.val (.st (.pair (.sl .str) (.pair (.sl (.int .i64)) (.int .i64)))))
def Ji.c1 (a0:List (List UInt8))(a1:List (Int))(a2:Int)(b0:List (List UInt8))(b1:List (Int))(b2:Int)(Z:Bool→Option ρ):Option ρ:=
  bnd (jJ a0 b0) fun y=>
  br y
   (bnd (jN a1 b1) fun y1=>
    br y1
     (Z (a2==b2))
     (Z false))
   (Z false)
def Ji.c1s:Shape:=⟨[(0,sd75),(1,sd75),(2,sd5),(3,sd36),(4,sd1)],[(2,sd73),(3,sd73)]⟩
def Ji.c1r:Ck:=Ck.of (T:=Bool) Ji.c1s (fun ρ X Z=>Ji.c1 X.2.2.2.1 (q4 X).1 (q4 X).2.1 (q4 X).2.2.1 (q4 X).2.2.2.1 (q8 X).1 Z) (fun ρ X V Z=>Z 0 (Shape.inj Ji.c1s (X.1,X.2.1,V,X.2.2.2)))
def Ji (a:(List (List UInt8))×((List Int)×(Int))) (b:(List (List UInt8))×((List Int)×(Int))):Option Bool:=
  bnd (Ji.c1 a.1 a.2.1 a.2.2 b.1 b.2.1 b.2.2 some) fun y=>
  some y
def Ji.ce:Go.Ql.Callee:=⟨[(.st (.pair (.sl .str) (.pair (.sl (.int .i64)) (.int .i64)))),(.st (.pair (.sl .str) (.pair (.sl (.int .i64)) (.int .i64))))],[.bool],fun X=>Ji X.1 X.2⟩
def Ji.G:Env:=⟨24,tab,[(12,jJ.ce),(33,jN.ce)],[0,1,2,3,4],[],[],[(1,Ji.c1r)],[],jP,[]⟩
theorem Ji.p0:PcA Ji.G Tryd.f15 0:=
  jE (s:=Ji.c1r) (by kernel_rfl) (by kernel_rfl) (jG (sh:=Ji.c1s) (fun ρ X Z=>(jc fun _=>(jv (jc fun _=>(jv jd jd)) jd))) (fun ρ X t k=>(by kernel_rfl)) (fun X=>by kernel_rfl))
theorem Ji.ok:CalleeOk Tryd.prog 15 Ji.ce:=fn_ok (G:=Ji.G) jV mixed Tryd.func15 ⟨(jI jJ.ok (jI jN.ok jR)),jM,jC,jL⟩ (m:=1) (by kernel_rfl) ⟨trivial,Ji.p0⟩ (by kernel_rfl) (fun _=>by kernel_rfl)
def jT.c2 (s0:List (List UInt8))(s1:List (Int))(s2:Int)(f0:Int)(Z:Bool→Option ρ):Option ρ:=
  br (f0==0)
   (bnd (Ji (s0,s1,s2) ([Array.toList (ByteArray.data (ByteArray.mk #[48])),Array.toList (ByteArray.data (ByteArray.mk #[48])),Array.toList (ByteArray.data (ByteArray.mk #[48])),Array.toList (ByteArray.data (ByteArray.mk #[48,44,48,44,49,44,48,44,48,44,48,44,45,49,47,49]))],[(1:Int)],(1:Int))) fun y=>
    Z y)
   (Z false)
def jT.c2s:Shape:=⟨[(0,sd1),(1,sd11),(2,sd5)],[(1,sd73),(2,sd12)]⟩
def jT.c2r:Ck:=Ck.of (T:=Bool) jT.c2s (fun ρ X Z=>jT.c2 X.2.1 X.2.2.1 X.2.2.2.1 (q4 X).1 Z) (fun ρ X V Z=>Z 0 (Shape.inj jT.c2s (V,X.2)))
def jT  : Option Bool:=
  bnd JW fun y=>
  bnd (jD y (0:Int) [(1:Int)]) fun y1=>
  bnd (jT.c2 y1.1.1 y1.1.2.1 y1.1.2.2 y1.2.1 some) fun y2=>
  some y2
def jT.ce:Go.Ql.Callee:=⟨[],[.bool],fun X=>jT⟩
def jT.G:Env:=⟨19,tab,[(14,JW.ce),(9,jD.ce),(15,Ji.ce)],[0,1,2],[],[],[(2,jT.c2r)],[],jP,[]⟩
theorem jT.p0:PcA jT.G Tryd.f5 0:=
  jE (s:=jT.c2r) (by kernel_rfl) (by kernel_rfl) (jG (sh:=jT.c2s) (fun ρ X Z=>(jv (jc fun _=>jd) jd)) (fun ρ X t k=>(by kernel_rfl)) (fun X=>by kernel_rfl))
theorem jT.ok:CalleeOk Tryd.prog 5 jT.ce:=fn_ok (G:=jT.G) jV mixed Tryd.func5 ⟨(jI JW.ok (jI jD.ok (jI Ji.ok jR))),jM,jC,jL⟩ (m:=1) (by kernel_rfl) ⟨trivial,jT.p0⟩ (by kernel_rfl) (fun _=>by kernel_rfl)
def jO.c7 (o0:Int)(o5:List (Int))(Z:Bool→Option ρ):Option ρ:=
  br (o0==5)
   (Z true)
   (br (o0==6)
     (Z true)
     (Z (decide ((o5.length:Int)>0))))
def jO.c7s:Shape:=⟨[(0,sd10),(1,sd11),(2,sd5),(3,sd36),(4,sd0),(5,sd30),(13,sd13),(14,sd0),(15,sd0)],[(1,sd4),(2,sd12),(3,sd12),(5,sd6)]⟩
def jO.c7x0:Shape:=⟨[(0,sd10),(1,sd11),(2,sd5),(3,sd36),(4,sd0),(5,sd30),(13,sd13),(14,sd0),(15,sd0),(33,sd1)],[(1,sd4),(2,sd12),(3,sd12),(5,sd6)]⟩
def jO.c7r:Ck:=Ck.of (T:=Bool) jO.c7s (fun ρ X Z=>jO.c7 (q4 (q8 X)).1 (q8 (q8 X)).2.1 Z) (fun ρ X V Z=>Z 0 (Shape.inj jO.c7x0 (X.1,X.2.1,X.2.2.1,X.2.2.2.1,(q4 X).1,V,(q4 X).2)))
def jO.ce_ (t13:List ((Int)×((Int)×((List Int)×((Int)×((Int)×(List Int)))))))(t14:Int)(t15:Int)(Z:(Int)⊕(((Int)×(Int)×(Int))⊕(Int))→Option ρ):Option ρ:=
  br (decide (t15<t14))
   (bnd (idx t13 t15) fun y=>
    bnd (jO.c7 y.1 y.2.2.2.2.2 some) fun y1=>
    br y1
     (bnd (Jq (15:Int) t15) fun y2=>
      Z (.inr (.inl (t15,y2.1,y2.2))))
     (Z (.inl (i64.wrap (t15+1)))))
   (Z (.inr (.inr t15)))
def jO.ce_s:Shape:=⟨[(0,sd10),(1,sd11),(2,sd5),(3,sd36),(13,sd13),(14,sd0),(15,sd0)],[(1,sd4),(2,sd12),(3,sd12)]⟩
def jO.ce_r:Ck:=Ck.ofLoop (S:=Int) (T:=((Int)×(Int)×(Int))⊕(Int)) jO.ce_s (fun X=>X.2.2.2.1) (fun ρ X Q Z=>jO.ce_ X.2.1 X.2.2.1 Q Z) (fun ρ X V Z=>sel V (fun V=>Z 1 (Shape.inj jO.ce_s (X.1,X.2.1,X.2.2.1,V.1,(q4 X).1,(q4 X).2.1,(q4 X).2.2.1,V.2.1,V.2.2,(q8 X).2))) (fun V=>Z 2 (Shape.inj jO.ce_s (X.1,X.2.1,X.2.2.1,V,(q4 X)))))
def jO (c:(Int)×((Int)×(List ((Int)×((Int)×((List Int)×((Int)×((Int)×(List Int))))))))):Option ((Int)×(Int)):=
  bnd (jw (c.1,c.2.1,c.2.2)) fun y=>
  br (y.1 !=0)
   (some (y.1,y.2))
   (bnd (iter (fun s↦jO.ce_ c.2.2 (↑(List.length c.2.2):Int) s some) (0:Int)) fun y1=>
    sel y1
     (fun u=>some (u.2.1,u.2.2))
     (fun v=>some ((0:Int),(0:Int))))
def jO.ce:Go.Ql.Callee:=⟨[(.st (.pair (.int .i64) (.pair (.int .i64) (.sl (.st (.pair (.int .i64) (.pair (.int .i64) (.pair (.sl (.int .i64)) (.pair (.int .i64) (.pair (.int .i64) (.sl (.int .i64))))))))))))],[(.st (.pair (.int .i64) (.int .i64)))],fun X=>jO X⟩
def jO.G:Env:=⟨38,tab,[(20,jw.ce),(21,Jq.ce)],[0,1,2,3,4,5,10,13,14,15,16,33],[],[],[(100005,jO.ce_r),(7,jO.c7r)],[],jP,[]⟩
theorem jO.p0:PcA jO.G Tryd.f16 0:=
  Jt (s:=jO.ce_r) (by kernel_rfl) (by kernel_rfl) (Je (sh:=jO.ce_s) (I:=fun X Q=>(X.1,X.2.1,X.2.2.1,Q,(q4 X))) (fun X=>rfl) (fun ρ X Q Z=>(jv (jc fun _=>(jc fun _=>(jv (jc fun _=>jd) jd))) jd)) (fun ρ X t k=>(kl (fun _=>(by kernel_rfl)) (fun _=>(by kernel_rfl)))) (fun X s=>by kernel_rfl))
theorem jO.p1:PcA jO.G Tryd.f16 1:=
  jE (s:=jO.c7r) (by kernel_rfl) (by kernel_rfl) (jG (sh:=jO.c7s) (fun ρ X Z=>(jv jd (jv jd jd))) (fun ρ X t k=>(by kernel_rfl)) (fun X=>by kernel_rfl))
theorem jO.ok:CalleeOk Tryd.prog 16 jO.ce:=fn_ok (G:=jO.G) jV mixed Tryd.func16 ⟨(jI jw.ok (jI Jq.ok jR)),jM,jC,jL⟩ (m:=2) (by kernel_rfl) ⟨⟨trivial,jO.p0⟩,jO.p1⟩ (by kernel_rfl) (fun _=>by kernel_rfl)
def Jf.pre:Shape:=⟨[(0,sd8)],[]⟩
def Jf.post:Shape:=⟨[(0,sd24)],[(0,sd28)]⟩
def Jf (s:List (Int)):Option ((List Int)×Unit):=
  br (List.isEmpty s)
   (both
     (some ([],()))
     (bnd (okIf (decide (((0:Nat)+s.length)*8≤140737488355328)&&decide ((0:Nat)+s.length≤140737488355328))) fun y=>
      some (s,())))
   (bnd (okIf (decide (((0:Nat)+s.length)*8≤140737488355328)&&decide ((0:Nat)+s.length≤140737488355328))) fun y1=>
    some (s,()))
def Jf.mc:MCallee:=⟨35,Jf.pre,Jf.post,fun X=>Jf X.1⟩
def Jf.G:Env:=⟨8,tab,[],[0,2,4],[2,5],[],[],[],jP,[]⟩
theorem Jf.ok:MOk Tryd.prog 35 Jf.mc:=kq (mc:=Jf.mc) (G:=Jf.G) jV mixed Tryd.func35 ⟨jR,jM,jC,jL⟩ (m:=0) (by kernel_rfl) trivial (by kernel_rfl) (fun _=>by kernel_rfl)
def jU.c1 (o2:List (Int))(o5:List (Int))(Z:(List Int)×(List Int)→Option ρ):Option ρ:=
  bnd (Jf o2) fun y=>
  bnd (Jf o5) fun y1=>
  Z (y.1,y1.1)
def jU.c1s:Shape:=⟨[(0,sd2),(1,sd11),(2,sd5)],[(1,sd6),(2,sd6)]⟩
def jU.c1r:Ck:=Ck.of (T:=(List Int)×(List Int)) jU.c1s (fun ρ X Z=>jU.c1 X.2.2.2.1 (q4 X).2.2.1 Z) (fun ρ X V Z=>Z 0 (Shape.inj jU.c1s (X.1,X.2.1,X.2.2.1,V.1,(q4 X).1,(q4 X).2.1,V.2,(q4 X).2.2.2)))
def jU (o:(Int)×((Int)×((List Int)×((Int)×((Int)×(List Int)))))):Option ((Int)×((Int)×((List Int)×((Int)×((Int)×(List Int)))))):=
  bnd (jU.c1 o.2.2.1 o.2.2.2.2.2 some) fun y=>
  some (o.1,o.2.1,y.1,o.2.2.2.1,o.2.2.2.2.1,y.2)
def jU.ce:Go.Ql.Callee:=⟨[(.st (.pair (.int .i64) (.pair (.int .i64) (.pair (.sl (.int .i64)) (.pair (.int .i64) (.pair (.int .i64) (.sl (.int .i64))))))))],[(.st (.pair (.int .i64) (.pair (.int .i64) (.pair (.sl (.int .i64)) (.pair (.int .i64) (.pair (.int .i64) (.sl (.int .i64))))))))],fun X=>jU X⟩
def jU.G:Env:=⟨12,tab,[],[0,1,2],[],[(1,[⟨[],[],[6,7],[]⟩,⟨[0],[],[6,7],[]⟩,⟨[1,0],[5],[6,7],[]⟩,⟨[],[],[3,4,5],[5]⟩,⟨[3],[],[3,4,5],[5]⟩,⟨[4,3,2,1,0],[8],[9],[]⟩,⟨[0,1,2,3,4],[],[8],[8]⟩,⟨[6,0,1,2,3,4,5],[1],[],[]⟩,⟨[0,1,2,3,4,5,6,7],[],[],[]⟩,⟨[8,0,1,2,3,4,5,6,7],[1],[],[]⟩])],[(1,jU.c1r)],[(35,Jf.mc)],jP,[]⟩
theorem jU.p0:PcA jU.G Tryd.f23 0:=
  jE (s:=jU.c1r) (by kernel_rfl) (by kernel_rfl) (jG (sh:=jU.c1s) (fun ρ X Z=>(jc fun _=>(jc fun _=>jd))) (fun ρ X t k=>(by kernel_rfl)) (fun X=>by kernel_rfl))
theorem jU.ok:CalleeOk Tryd.prog 23 jU.ce:=fn_ok (G:=jU.G) jV mixed Tryd.func23 ⟨jR,(JI Jf.ok jM),jC,jL⟩ (m:=1) (by kernel_rfl) ⟨trivial,jU.p0⟩ (by kernel_rfl) (fun _=>by kernel_rfl)
def Jw (o:(Int)×((Int)×((List Int)×((Int)×((Int)×(List Int)))))):Option ((Int)×((Int)×((List Int)×((Int)×((Int)×(List Int)))))):=
  some (o.1,Int.tmod (i64.wrap ((16:Int)-o.2.1)) (16:Int),o.2.2.1,o.2.2.2.1,o.2.2.2.2.1,o.2.2.2.2.2)
def Jw.ce:Go.Ql.Callee:=⟨[(.st (.pair (.int .i64) (.pair (.int .i64) (.pair (.sl (.int .i64)) (.pair (.int .i64) (.pair (.int .i64) (.sl (.int .i64))))))))],[(.st (.pair (.int .i64) (.pair (.int .i64) (.pair (.sl (.int .i64)) (.pair (.int .i64) (.pair (.int .i64) (.sl (.int .i64))))))))],fun X=>Jw X⟩
def Jw.G:Env:=⟨9,tab,[],[0,1,2],[],[],[],[],jP,[]⟩
theorem Jw.ok:CalleeOk Tryd.prog 18 Jw.ce:=fn_ok (G:=Jw.G) jV mixed Tryd.func18 ⟨jR,jM,jC,jL⟩ (m:=0) (by kernel_rfl) trivial (by kernel_rfl) (fun _=>by kernel_rfl)
abbrev sd76:SD:=.one (.fn 18)
abbrev sd77:SD:=.agg [.val (.int .i64),.val (.int .i64),.own 2 0]
abbrev sd78:SO:=.arr 0 false 46 (.st (.pair (.int .i64) (.pair (.int .i64) (.pair (.sl (.int .i64)) (.pair (.int .i64) (.pair (.int .i64) (.sl (.int .i64))))))))
abbrev sd79:SO:=.box [.val (.int .i64),.val (.int .i64),.own 3004 0]
abbrev sd80:SO:=.box [.val (.int .i64),.val (.int .i64),.own 3005 0]
def jA.pre:Shape:=⟨[(0,sd10),(1,sd76)],[]⟩
def jA.post:Shape:=⟨[(0,sd77)],[(2,sd78)]⟩
def jA.c5 (o0:Int)(o1:Int)(o2:List (Int))(o3:Int)(o4:Int)(o5:List (Int))(un:List ((Int)×((Int)×((List Int)×((Int)×((Int)×(List Int)))))))(Z:List ((Int)×((Int)×((List Int)×((Int)×((Int)×(List Int))))))→Option ρ):Option ρ:=
  bnd (jU (o0,o1,o2,o3,o4,o5)) fun y=>
  bnd (Jw y) fun y1=>
  bnd (okIf (decide ((un.length+1)*80≤140737488355328)&&decide (un.length+1≤140737488355328))) fun y2=>
  Z (un++[y1])
def jA.c5s:Shape:=⟨[(0,sd10),(1,sd76),(2,sd5),(4,sd15),(5,sd30),(7,sd21),(14,sd13),(15,sd0),(16,sd0)],[(2,sd4),(4,sd79),(5,sd80),(7,sd6),(3004,sd78),(3005,sd78)]⟩
def jA.c5r:Ck:=Ck.of (T:=List ((Int)×((Int)×((List Int)×((Int)×((Int)×(List Int))))))) jA.c5s (fun ρ X Z=>jA.c5 (q8 X).2.2.2.1 (q4 (q8 X)).1 (q4 (q8 X)).2.1 (q4 (q8 X)).2.2.1 (q4 (q8 X)).2.2.2.1 (q8 (q8 X)).1 (q8 (q8 X)).2.2.1 Z) (fun ρ X V Z=>Z 0 (Shape.inj jA.c5s (X.1,X.2.1,X.2.2.1,X.2.2.2.1,(q4 X).1,(q4 X).2.1,(q4 X).2.2.1,(q4 X).2.2.2.1,(q8 X).1,(q8 X).2.1,(q8 X).2.2.1,(q8 X).2.2.2.1,(q4 (q8 X)).1,(q4 (q8 X)).2.1,(q4 (q8 X)).2.2.1,(q4 (q8 X)).2.2.2.1,(q8 (q8 X)).1,(q8 (q8 X)).2.1,V,())))
def jA.ca_ (t14:List ((Int)×((Int)×((List Int)×((Int)×((Int)×(List Int)))))))(t15:Int)(t16:Int)(un:List ((Int)×((Int)×((List Int)×((Int)×((Int)×(List Int)))))))(Z:((Int)×(List ((Int)×((Int)×((List Int)×((Int)×((Int)×(List Int))))))))⊕((Int)×(List ((Int)×((Int)×((List Int)×((Int)×((Int)×(List Int))))))))→Option ρ):Option ρ:=
  br (decide (t16<t15))
   (bnd (idx t14 t16) fun y=>
    bnd (jA.c5 y.1 y.2.1 y.2.2.1 y.2.2.2.1 y.2.2.2.2.1 y.2.2.2.2.2 un some) fun y1=>
    Z (.inl ((i64.wrap (t16+1)),y1)))
   (Z (.inr (t16,un)))
def jA.ca_s:Shape:=⟨[(0,sd10),(1,sd76),(2,sd5),(4,sd15),(5,sd30),(14,sd13),(15,sd0),(16,sd0)],[(2,sd4),(4,sd79),(5,sd80),(3004,sd78),(3005,sd78)]⟩
def jA.ca_r:Ck:=Ck.ofLoop (S:=(Int)×(List ((Int)×((Int)×((List Int)×((Int)×((Int)×(List Int)))))))) (T:=(Int)×(List ((Int)×((Int)×((List Int)×((Int)×((Int)×(List Int)))))))) jA.ca_s (fun X=>(X.2.2.2.1,(q4 (q8 X)).1)) (fun ρ X Q Z=>jA.ca_ X.2.1 X.2.2.1 Q.1 Q.2 Z) (fun ρ X V Z=>Z 2 (Shape.inj jA.ca_s (X.1,X.2.1,X.2.2.1,V.1,(q4 X).1,(q4 X).2.1,(q4 X).2.2.1,(q4 X).2.2.2.1,(q8 X).1,(q8 X).2.1,(q8 X).2.2.1,(q8 X).2.2.2.1,V.2,())))
def jA (c:(Int)×((Int)×(List ((Int)×((Int)×((List Int)×((Int)×((Int)×(List Int))))))))):Option ((Int)×(Int)×(List ((Int)×((Int)×((List Int)×((Int)×((Int)×(List Int)))))))×Unit):=
  bnd (iter (fun s↦jA.ca_ c.2.2 (↑(List.length c.2.2):Int) s.1 s.2 some) ((0:Int),[])) fun y=>
  some (c.1,c.2.1,y.2,())
def jA.mc:MCallee:=⟨17,jA.pre,jA.post,fun X=>jA X.1⟩
def jA.G:Env:=⟨31,tab,[(23,jU.ce),(18,Jw.ce)],[0,1,2,4,5,7,14,15,16,17],[2,4,5,12,3002,3004,3005],[(5,[⟨[],[],[22,23,24,25,26],[26]⟩,⟨[0],[],[22,23,24,25,26],[26]⟩,⟨[],[],[20,21,23,24],[]⟩,⟨[],[],[20,21,22],[]⟩,⟨[3],[],[20,21,22],[]⟩,⟨[2,4,3],[],[20,21],[]⟩,⟨[5,2,4,3],[26],[20,21],[]⟩,⟨[1,0,6,5,2,4,3],[3005],[],[]⟩,⟨[0,1,2,3,4,5,6,7],[],[],[]⟩,⟨[8,0,1,2,3,4,5,6,7],[5],[],[]⟩])],[(100003,jA.ca_r),(5,jA.c5r)],[],jP,[]⟩
theorem jA.p0:PcA jA.G Tryd.f17 0:=
  Jt (s:=jA.ca_r) (by kernel_rfl) (by kernel_rfl) (Je (sh:=jA.ca_s) (I:=fun X Q=>(X.1,X.2.1,X.2.2.1,Q.1,(q4 X).1,(q4 X).2.1,(q4 X).2.2.1,(q4 X).2.2.2.1,(q8 X).1,(q8 X).2.1,(q8 X).2.2.1,(q8 X).2.2.2.1,Q.2,())) (fun X=>rfl) (fun ρ X Q Z=>(jv (jc fun _=>(jc fun _=>jd)) jd)) (fun ρ X t k=>(by kernel_rfl)) (fun X s=>by kernel_rfl))
theorem jA.p1:PcA jA.G Tryd.f17 1:=
  jE (s:=jA.c5r) (by kernel_rfl) (by kernel_rfl) (jG (sh:=jA.c5s) (fun ρ X Z=>(jc fun _=>(jc fun _=>(jc fun _=>jd)))) (fun ρ X t k=>(by kernel_rfl)) (fun X=>by kernel_rfl))
theorem jA.ok:MOk Tryd.prog 17 jA.mc:=kq (mc:=jA.mc) (G:=jA.G) jV mixed Tryd.func17 ⟨(jI jU.ok (jI Jw.ok jR)),jM,jC,jL⟩ (m:=2) (by kernel_rfl) ⟨⟨trivial,jA.p0⟩,jA.p1⟩ (by kernel_rfl) (fun _=>by kernel_rfl)
def jk.pre:Shape:=⟨[(0,sd63)],[(2000000,sd78)]⟩
def jk.post:Shape:=⟨[],[(2000000,sd78)]⟩
def jk.c3 (i:Int)(j:Int)(ui:List ((Int)×((Int)×((List Int)×((Int)×((Int)×(List Int)))))))(Z:List ((Int)×((Int)×((List Int)×((Int)×((Int)×(List Int))))))→Option ρ):Option ρ:=
  bnd (inR (ui.length) j) fun y=>
  bnd (idx ui j) fun y1=>
  bnd (inR (ui.length) i) fun y2=>
  bnd (idx ui i) fun y3=>
  bnd (inR (ui.length) i) fun y4=>
  bnd (idx ui i) fun y5=>
  bnd (inR (List.length (List.set ui (Int.toNat i) y1)) j) fun y6=>
  bnd (idx (List.set ui (Int.toNat i) y1) j) fun y7=>
  Z (List.set (List.set ui (Int.toNat i) y1) (Int.toNat j) y3)
def jk.c3s:Shape:=⟨[(0,sd63),(2,sd0),(3,sd0)],[(2000000,sd78)]⟩
def jk.c3r:Ck:=Ck.of (T:=List ((Int)×((Int)×((List Int)×((Int)×((Int)×(List Int))))))) jk.c3s (fun ρ X Z=>jk.c3 X.1 X.2.1 X.2.2.1 Z) (fun ρ X V Z=>Z 0 (Shape.inj jk.c3s (X.1,X.2.1,V,())))
def jk.cd_ (i:Int)(j:Int)(ui:List ((Int)×((Int)×((List Int)×((Int)×((Int)×(List Int)))))))(Z:((Int)×(Int)×(List ((Int)×((Int)×((List Int)×((Int)×((Int)×(List Int))))))))⊕((Int)×(Int)×(List ((Int)×((Int)×((List Int)×((Int)×((Int)×(List Int))))))))→Option ρ):Option ρ:=
  br (decide (i<j))
   (bnd (jk.c3 i j ui some) fun y=>
    Z (.inl ((i64.wrap (i+1)),(i64.wrap (j-1)),y)))
   (Z (.inr (i,j,ui)))
def jk.cd_r:Ck:=Ck.ofLoop (S:=(Int)×(Int)×(List ((Int)×((Int)×((List Int)×((Int)×((Int)×(List Int)))))))) (T:=(Int)×(Int)×(List ((Int)×((Int)×((List Int)×((Int)×((Int)×(List Int)))))))) jk.c3s (fun X=>(X.1,X.2.1,X.2.2.1)) (fun ρ X Q Z=>jk.cd_ Q.1 Q.2.1 Q.2.2 Z) (fun ρ X V Z=>Z 2 (Shape.inj jk.c3s (V.1,V.2.1,V.2.2,())))
def jk (ui:List ((Int)×((Int)×((List Int)×((Int)×((Int)×(List Int))))))):Option ((List ((Int)×((Int)×((List Int)×((Int)×((Int)×(List Int)))))))×Unit):=
  bnd (iter (fun s↦jk.cd_ s.1 s.2.1 s.2.2 some) ((0:Int),i64.wrap ((ui.length:Int)-1),ui)) fun y=>
  some (y.2.2,())
def jk.mc:MCallee:=⟨19,jk.pre,jk.post,fun X=>jk X.1⟩
def jk.G:Env:=⟨28,tab,[],[0,2,3,9],[2000000],[(3,[⟨[],[],[15,16,17,18,19,20,21,22,23,24,25],[]⟩,⟨[],[],[14,16,17,18,19,20,21,22,23,24,25],[]⟩,⟨[],[],[14,15,17,18,19,20,21,22,23,24,25,26],[2000000]⟩,⟨[],[],[14,15,16,18,19,20,21,22,23,24,25,26],[2000000]⟩,⟨[],[],[14,15,16,17,19,22,23,24,25],[]⟩,⟨[],[],[14,15,16,17,18,22,23,24,25],[]⟩,⟨[4,5],[],[14,15,16,17,22,23,24,25],[]⟩,⟨[6,4,5],[],[14,15,16,17,22,23,24,25],[]⟩,⟨[],[],[14,15,16,17,18,19,20,21,23],[]⟩,⟨[],[],[14,15,16,17,18,19,20,21,22],[]⟩,⟨[8,9],[],[14,15,16,17,18,19,20,21],[]⟩,⟨[10,8,9],[],[14,15,16,17,18,19,20,21],[]⟩,⟨[0,1,4,5,6,7,11,10,8,9],[],[16,17],[]⟩,⟨[12,0,1,4,5,6,7,11,10,8,9],[2000000],[16,17],[]⟩,⟨[2,3,0,1,4,5,6,7,8,9,10,11,12,13],[],[],[]⟩,⟨[14,2,3,0,1,4,5,6,7,8,9,10,11,12,13],[2000000],[],[]⟩])],[(100001,jk.cd_r),(3,jk.c3r)],[],jP,[]⟩
theorem jk.p0:PcA jk.G Tryd.f19 0:=
  Jt (s:=jk.cd_r) (by kernel_rfl) (by kernel_rfl) (Je (sh:=jk.c3s) (I:=fun X Q=>(Q.1,Q.2.1,Q.2.2,())) (fun X=>rfl) (fun ρ X Q Z=>(jv (jc fun _=>jd) jd)) (fun ρ X t k=>(by kernel_rfl)) (fun X s=>by kernel_rfl))
theorem jk.p1:PcA jk.G Tryd.f19 1:=
  jE (s:=jk.c3r) (by kernel_rfl) (by kernel_rfl) (jG (sh:=jk.c3s) (fun ρ X Z=>(jc fun _=>(jc fun _=>(jc fun _=>(jc fun _=>(jc fun _=>(jc fun _=>(jc fun _=>(jc fun _=>jd))))))))) (fun ρ X t k=>(by kernel_rfl)) (fun X=>by kernel_rfl))
theorem jk.ok:MOk Tryd.prog 19 jk.mc:=kq (mc:=jk.mc) (G:=jk.G) jV mixed Tryd.func19 ⟨jR,jM,jC,jL⟩ (m:=2) (by kernel_rfl) ⟨⟨trivial,jk.p0⟩,jk.p1⟩ (by kernel_rfl) (fun _=>by kernel_rfl)
def Jb.c3  (Z:Unit→Option ρ):Option ρ:=
  Z ()
def Jb.c3s:Shape:=⟨[(0,sd10),(1,sd11),(2,sd5),(3,sd36),(4,sd15)],[(1,sd4),(2,sd4),(3,sd12),(4,sd12)]⟩
def Jb.c3r:Ck:=Ck.of (T:=Unit) Jb.c3s (fun ρ X Z=>Jb.c3  Z) (fun ρ X V Z=>Z 0 (Shape.inj Jb.c3s (X.1,X.2.1,X.2.2.1,X.2.2.2.1,(0:Int),(0:Int),[],(q8 X).2.1,(q8 X).2.2.1,(q8 X).2)))
def Jb (c:(Int)×((Int)×(List ((Int)×((Int)×((List Int)×((Int)×((Int)×(List Int))))))))):Option (((Int)×((Int)×(List ((Int)×((Int)×((List Int)×((Int)×((Int)×(List Int)))))))))×((Int)×(Int))):=
  bnd (jO (c.1,c.2.1,c.2.2)) fun y=>
  br (y.1 !=0)
   (bnd (Jb.c3 some) fun y1=>
    some (((0:Int),(0:Int),[]),y.1,y.2))
   (bnd (jA (c.1,c.2.1,c.2.2)) fun y2=>
    bnd (jk y2.2.2.1) fun y3=>
    some ((y2.1,y2.2.1,y3.1),(0:Int),(0:Int)))
def Jb.ce:Go.Ql.Callee:=⟨[(.st (.pair (.int .i64) (.pair (.int .i64) (.sl (.st (.pair (.int .i64) (.pair (.int .i64) (.pair (.sl (.int .i64)) (.pair (.int .i64) (.pair (.int .i64) (.sl (.int .i64))))))))))))],[(.st (.pair (.int .i64) (.pair (.int .i64) (.sl (.st (.pair (.int .i64) (.pair (.int .i64) (.pair (.sl (.int .i64)) (.pair (.int .i64) (.pair (.int .i64) (.sl (.int .i64)))))))))))),(.st (.pair (.int .i64) (.int .i64)))],fun X=>Jb X⟩
def Jb.G:Env:=⟨20,tab,[(16,jO.ce)],[0,1,2,3,4,5,10],[5,2014,3005],[(3,[⟨[],[],[12],[]⟩,⟨[],[],[11],[2]⟩,⟨[0],[2],[12],[]⟩,⟨[1,2,0],[3],[],[]⟩])],[(3,Jb.c3r)],[(17,jA.mc),(19,jk.mc)],jP,[]⟩
theorem Jb.p0:PcA Jb.G Tryd.f6 0:=
  jE (s:=Jb.c3r) (by kernel_rfl) (by kernel_rfl) (jG (sh:=Jb.c3s) (fun ρ X Z=>jd) (fun ρ X t k=>(by kernel_rfl)) (fun X=>by kernel_rfl))
theorem Jb.ok:CalleeOk Tryd.prog 6 Jb.ce:=fn_ok (G:=Jb.G) jV mixed Tryd.func6 ⟨(jI jO.ok jR),(JI jA.ok (JI jk.ok jM)),jC,jL⟩ (m:=1) (by kernel_rfl) ⟨trivial,Jb.p0⟩ (by kernel_rfl) (fun _=>by kernel_rfl)
def JS (c:(Int)×((Int)×(List ((Int)×((Int)×((List Int)×((Int)×((Int)×(List Int))))))))):Option ((Int)×(Int)):=
  bnd (jO (c.1,c.2.1,c.2.2)) fun y=>
  some (y.1,y.2)
def JS.ce:Go.Ql.Callee:=⟨[(.st (.pair (.int .i64) (.pair (.int .i64) (.sl (.st (.pair (.int .i64) (.pair (.int .i64) (.pair (.sl (.int .i64)) (.pair (.int .i64) (.pair (.int .i64) (.sl (.int .i64))))))))))))],[(.st (.pair (.int .i64) (.int .i64)))],fun X=>JS X⟩
def JS.G:Env:=⟨5,tab,[(16,jO.ce)],[0,1,2],[],[],[],[],jP,[]⟩
theorem JS.ok:CalleeOk Tryd.prog 7 JS.ce:=fn_ok (G:=JS.G) jV mixed Tryd.func7 ⟨(jI jO.ok jR),jM,jC,jL⟩ (m:=0) (by kernel_rfl) trivial (by kernel_rfl) (fun _=>by kernel_rfl)
def JH (o:(Int)×((Int)×((List Int)×((Int)×((Int)×(List Int)))))):Option ((Int)×((Int)×((List Int)×((Int)×((Int)×(List Int)))))):=
  some (o.1,o.2.1,o.2.2.1,o.2.2.2.1,o.2.2.2.2.1,o.2.2.2.2.2)
def JH.ce:Go.Ql.Callee:=⟨[(.st (.pair (.int .i64) (.pair (.int .i64) (.pair (.sl (.int .i64)) (.pair (.int .i64) (.pair (.int .i64) (.sl (.int .i64))))))))],[(.st (.pair (.int .i64) (.pair (.int .i64) (.pair (.sl (.int .i64)) (.pair (.int .i64) (.pair (.int .i64) (.sl (.int .i64))))))))],fun X=>JH X⟩
def JH.G:Env:=⟨4,tab,[],[0,1,2],[],[],[],[],jP,[]⟩
theorem JH.ok:CalleeOk Tryd.prog 22 JH.ce:=fn_ok (G:=JH.G) jV mixed Tryd.func22 ⟨jR,jM,jC,jL⟩ (m:=0) (by kernel_rfl) trivial (by kernel_rfl) (fun _=>by kernel_rfl)
abbrev sd81:SD:=.one (.fn 22)
def ju.pre:Shape:=⟨[(0,sd10),(1,sd81)],[]⟩
def ju.post:Shape:=⟨[(0,sd77)],[(2,sd78)]⟩
def ju.c5 (o0:Int)(o1:Int)(o2:List (Int))(o3:Int)(o4:Int)(o5:List (Int))(un:List ((Int)×((Int)×((List Int)×((Int)×((Int)×(List Int)))))))(Z:List ((Int)×((Int)×((List Int)×((Int)×((Int)×(List Int))))))→Option ρ):Option ρ:=
  bnd (jU (o0,o1,o2,o3,o4,o5)) fun y=>
  bnd (JH y) fun y1=>
  bnd (okIf (decide ((un.length+1)*80≤140737488355328)&&decide (un.length+1≤140737488355328))) fun y2=>
  Z (un++[y1])
def ju.c5s:Shape:=⟨[(0,sd10),(1,sd81),(2,sd5),(4,sd15),(5,sd30),(7,sd21),(14,sd13),(15,sd0),(16,sd0)],[(2,sd4),(4,sd79),(5,sd80),(7,sd6),(3004,sd78),(3005,sd78)]⟩
def ju.c5r:Ck:=Ck.of (T:=List ((Int)×((Int)×((List Int)×((Int)×((Int)×(List Int))))))) ju.c5s (fun ρ X Z=>ju.c5 (q8 X).2.2.2.1 (q4 (q8 X)).1 (q4 (q8 X)).2.1 (q4 (q8 X)).2.2.1 (q4 (q8 X)).2.2.2.1 (q8 (q8 X)).1 (q8 (q8 X)).2.2.1 Z) (fun ρ X V Z=>Z 0 (Shape.inj ju.c5s (X.1,X.2.1,X.2.2.1,X.2.2.2.1,(q4 X).1,(q4 X).2.1,(q4 X).2.2.1,(q4 X).2.2.2.1,(q8 X).1,(q8 X).2.1,(q8 X).2.2.1,(q8 X).2.2.2.1,(q4 (q8 X)).1,(q4 (q8 X)).2.1,(q4 (q8 X)).2.2.1,(q4 (q8 X)).2.2.2.1,(q8 (q8 X)).1,(q8 (q8 X)).2.1,V,())))
def ju.ca_ (t14:List ((Int)×((Int)×((List Int)×((Int)×((Int)×(List Int)))))))(t15:Int)(t16:Int)(un:List ((Int)×((Int)×((List Int)×((Int)×((Int)×(List Int)))))))(Z:((Int)×(List ((Int)×((Int)×((List Int)×((Int)×((Int)×(List Int))))))))⊕((Int)×(List ((Int)×((Int)×((List Int)×((Int)×((Int)×(List Int))))))))→Option ρ):Option ρ:=
  br (decide (t16<t15))
   (bnd (idx t14 t16) fun y=>
    bnd (ju.c5 y.1 y.2.1 y.2.2.1 y.2.2.2.1 y.2.2.2.2.1 y.2.2.2.2.2 un some) fun y1=>
    Z (.inl ((i64.wrap (t16+1)),y1)))
   (Z (.inr (t16,un)))
def ju.ca_s:Shape:=⟨[(0,sd10),(1,sd81),(2,sd5),(4,sd15),(5,sd30),(14,sd13),(15,sd0),(16,sd0)],[(2,sd4),(4,sd79),(5,sd80),(3004,sd78),(3005,sd78)]⟩
def ju.ca_r:Ck:=Ck.ofLoop (S:=(Int)×(List ((Int)×((Int)×((List Int)×((Int)×((Int)×(List Int)))))))) (T:=(Int)×(List ((Int)×((Int)×((List Int)×((Int)×((Int)×(List Int)))))))) ju.ca_s (fun X=>(X.2.2.2.1,(q4 (q8 X)).1)) (fun ρ X Q Z=>ju.ca_ X.2.1 X.2.2.1 Q.1 Q.2 Z) (fun ρ X V Z=>Z 2 (Shape.inj ju.ca_s (X.1,X.2.1,X.2.2.1,V.1,(q4 X).1,(q4 X).2.1,(q4 X).2.2.1,(q4 X).2.2.2.1,(q8 X).1,(q8 X).2.1,(q8 X).2.2.1,(q8 X).2.2.2.1,V.2,())))
def ju (c:(Int)×((Int)×(List ((Int)×((Int)×((List Int)×((Int)×((Int)×(List Int))))))))):Option ((Int)×(Int)×(List ((Int)×((Int)×((List Int)×((Int)×((Int)×(List Int)))))))×Unit):=
  bnd (iter (fun s↦ju.ca_ c.2.2 (↑(List.length c.2.2):Int) s.1 s.2 some) ((0:Int),[])) fun y=>
  some (c.1,c.2.1,y.2,())
def ju.mc:MCallee:=⟨17,ju.pre,ju.post,fun X=>ju X.1⟩
def ju.G:Env:=⟨31,tab,[(23,jU.ce),(22,JH.ce)],[0,1,2,4,5,7,14,15,16,17],[2,4,5,12,3002,3004,3005],[(5,[⟨[],[],[22,23,24,25,26],[26]⟩,⟨[0],[],[22,23,24,25,26],[26]⟩,⟨[],[],[20,21,23,24],[]⟩,⟨[],[],[20,21,22],[]⟩,⟨[3],[],[20,21,22],[]⟩,⟨[2,4,3],[],[20,21],[]⟩,⟨[5,2,4,3],[26],[20,21],[]⟩,⟨[1,0,6,5,2,4,3],[3005],[],[]⟩,⟨[0,1,2,3,4,5,6,7],[],[],[]⟩,⟨[8,0,1,2,3,4,5,6,7],[5],[],[]⟩])],[(100003,ju.ca_r),(5,ju.c5r)],[],jP,[]⟩
theorem ju.p0:PcA ju.G Tryd.f17 0:=
  Jt (s:=ju.ca_r) (by kernel_rfl) (by kernel_rfl) (Je (sh:=ju.ca_s) (I:=fun X Q=>(X.1,X.2.1,X.2.2.1,Q.1,(q4 X).1,(q4 X).2.1,(q4 X).2.2.1,(q4 X).2.2.2.1,(q8 X).1,(q8 X).2.1,(q8 X).2.2.1,(q8 X).2.2.2.1,Q.2,())) (fun X=>rfl) (fun ρ X Q Z=>(jv (jc fun _=>(jc fun _=>jd)) jd)) (fun ρ X t k=>(by kernel_rfl)) (fun X s=>by kernel_rfl))
theorem ju.p1:PcA ju.G Tryd.f17 1:=
  jE (s:=ju.c5r) (by kernel_rfl) (by kernel_rfl) (jG (sh:=ju.c5s) (fun ρ X Z=>(jc fun _=>(jc fun _=>(jc fun _=>jd)))) (fun ρ X t k=>(by kernel_rfl)) (fun X=>by kernel_rfl))
theorem ju.ok:MOk Tryd.prog 17 ju.mc:=kq (mc:=ju.mc) (G:=ju.G) jV mixed Tryd.func17 ⟨(jI jU.ok (jI JH.ok jR)),jM,jC,jL⟩ (m:=2) (by kernel_rfl) ⟨⟨trivial,ju.p0⟩,ju.p1⟩ (by kernel_rfl) (fun _=>by kernel_rfl)
abbrev sd82:SD:=.one (.ref 10 0)
abbrev sd83:SO:=.box [.val (.int .i64),.val (.int .i64),.own 2050 0]
def jp.c3  (Z:Unit→Option ρ):Option ρ:=
  Z ()
def jp.c3s:Shape:=⟨[(0,sd10),(1,sd10),(2,sd5),(3,sd36),(4,sd15),(5,sd30),(6,sd31)],[(2,sd4),(3,sd4),(4,sd4),(5,sd12),(6,sd12)]⟩
def jp.c3r:Ck:=Ck.of (T:=Unit) jp.c3s (fun ρ X Z=>jp.c3  Z) (fun ρ X V Z=>Z 0 (Shape.inj jp.c3s (X.1,X.2.1,X.2.2.1,X.2.2.2.1,(q4 X).1,(q4 X).2.1,(q4 X).2.2.1,(q4 X).2.2.2.1,(0:Int),(0:Int),[],(q4 (q8 X)).2.1,(q4 (q8 X)).2.2.1,(q4 (q8 X)).2)))
def jp.c6  (Z:Unit→Option ρ):Option ρ:=
  Z ()
def jp.c6s:Shape:=⟨[(0,sd10),(1,sd10),(2,sd5),(3,sd36),(4,sd15),(5,sd30),(6,sd31),(7,sd21)],[(2,sd4),(3,sd4),(4,sd4),(5,sd12),(6,sd12),(7,sd12)]⟩
def jp.c6r:Ck:=Ck.of (T:=Unit) jp.c6s (fun ρ X Z=>jp.c6  Z) (fun ρ X V Z=>Z 0 (Shape.inj jp.c6s (X.1,X.2.1,X.2.2.1,X.2.2.2.1,(q4 X).1,(q4 X).2.1,(q4 X).2.2.1,(q4 X).2.2.2.1,(0:Int),(0:Int),[],(q4 (q8 X)).2.2.2.1,(q8 (q8 X)).1,(q4 (q8 X)).2)))
def jp.c7 (a0:Int)(a1:Int)(b0:Int)(b1:Int)(Z:Bool→Option ρ):Option ρ:=
  br (a0 !=b0)
   (Z true)
   (Z (a1 !=b1))
def jp.c7x0:Shape:=⟨[(0,sd10),(1,sd10),(2,sd5),(3,sd36),(4,sd15),(5,sd30),(6,sd31),(7,sd21),(36,sd1)],[(2,sd4),(3,sd4),(4,sd4),(5,sd12),(6,sd12),(7,sd12)]⟩
def jp.c7r:Ck:=Ck.of (T:=Bool) jp.c6s (fun ρ X Z=>jp.c7 X.2.2.1 X.2.2.2.1 (q4 X).2.1 (q4 X).2.2.1 Z) (fun ρ X V Z=>Z 0 (Shape.inj jp.c7x0 (X.1,X.2.1,V,X.2.2)))
def jp.c15 (o0:Int)(o1:Int)(o2:List (Int))(o3:Int)(o4:Int)(o5:List (Int))(um:List ((Int)×((Int)×((List Int)×((Int)×((Int)×(List Int)))))))(Z:List ((Int)×((Int)×((List Int)×((Int)×((Int)×(List Int))))))→Option ρ):Option ρ:=
  bnd (jU (o0,o1,o2,o3,o4,o5)) fun y=>
  bnd (okIf (decide ((um.length+1)*80≤140737488355328)&&decide (um.length+1≤140737488355328))) fun y1=>
  Z (um++[y])
def jp.c15s:Shape:=⟨[(0,sd10),(1,sd10),(2,sd5),(3,sd36),(4,sd15),(5,sd30),(6,sd31),(7,sd21),(8,sd48),(10,sd82),(52,sd13),(53,sd0),(54,sd0)],[(2,sd4),(3,sd4),(4,sd4),(5,sd12),(6,sd12),(7,sd12),(8,sd83),(10,sd6),(2050,sd78),(3008,sd78)]⟩
def jp.c15r:Ck:=Ck.of (T:=List ((Int)×((Int)×((List Int)×((Int)×((Int)×(List Int))))))) jp.c15s (fun ρ X Z=>jp.c15 (q4 (q8 (q8 X))).2.2.1 (q4 (q8 (q8 X))).2.2.2.1 (q8 (q8 (q8 X))).1 (q8 (q8 (q8 X))).2.1 (q8 (q8 (q8 X))).2.2.1 (q8 (q8 (q8 X))).2.2.2.1 (q4 (q8 (q8 (q8 X)))).1 Z) (fun ρ X V Z=>uP X fun a X=>uP X fun b X=>uP X fun t52 X=>uP X fun t53 X=>uP X fun t54 X=>uP X fun a0 X=>uP X fun a1 X=>uP X fun a2 X=>uP X fun b0 X=>uP X fun b1 X=>uP X fun b2 X=>uP X fun t40 X=>uP X fun t41 X=>uP X fun t42 X=>uP X fun t50 X=>uP X fun t51 X=>uP X fun f0 X=>uP X fun f1 X=>uP X fun f0_1 X=>uP X fun f1_1 X=>uP X fun out0 X=>uP X fun out1 X=>uP X fun o0 X=>uP X fun o1 X=>uP X fun o2 X=>uP X fun o3 X=>uP X fun o4 X=>uP X fun o5 X=>uP X fun um X=>uP X fun uo X=>Z 0 (Shape.inj jp.c15s (a,b,t52,t53,t54,a0,a1,a2,b0,b1,b2,t40,t41,t42,t50,t51,f0,f1,f0_1,f1_1,out0,out1,o0,o1,o2,o3,o4,o5,V,uo,())))
def jp.cp_ (t52:List ((Int)×((Int)×((List Int)×((Int)×((Int)×(List Int)))))))(t53:Int)(t54:Int)(um:List ((Int)×((Int)×((List Int)×((Int)×((Int)×(List Int)))))))(Z:((Int)×(List ((Int)×((Int)×((List Int)×((Int)×((Int)×(List Int))))))))⊕((Int)×(List ((Int)×((Int)×((List Int)×((Int)×((Int)×(List Int))))))))→Option ρ):Option ρ:=
  br (decide (t54<t53))
   (bnd (idx t52 t54) fun y=>
    bnd (jp.c15 y.1 y.2.1 y.2.2.1 y.2.2.2.1 y.2.2.2.2.1 y.2.2.2.2.2 um some) fun y1=>
    Z (.inl ((i64.wrap (t54+1)),y1)))
   (Z (.inr (t54,um)))
def jp.cp_s:Shape:=⟨[(0,sd10),(1,sd10),(2,sd5),(3,sd36),(4,sd15),(5,sd30),(6,sd31),(7,sd21),(8,sd48),(52,sd13),(53,sd0),(54,sd0)],[(2,sd4),(3,sd4),(4,sd4),(5,sd12),(6,sd12),(7,sd12),(8,sd83),(2050,sd78),(3008,sd78)]⟩
def jp.cp_r:Ck:=Ck.ofLoop (S:=(Int)×(List ((Int)×((Int)×((List Int)×((Int)×((Int)×(List Int)))))))) (T:=(Int)×(List ((Int)×((Int)×((List Int)×((Int)×((Int)×(List Int)))))))) jp.cp_s (fun X=>((q4 X).1,(q4 (q8 (q8 X))).2.2.1)) (fun ρ X Q Z=>jp.cp_ X.2.2.1 X.2.2.2.1 Q.1 Q.2 Z) (fun ρ X V Z=>uP X fun a X=>uP X fun b X=>uP X fun t52 X=>uP X fun t53 X=>uP X fun t54 X=>uP X fun a0 X=>uP X fun a1 X=>uP X fun a2 X=>uP X fun b0 X=>uP X fun b1 X=>uP X fun b2 X=>uP X fun t40 X=>uP X fun t41 X=>uP X fun t42 X=>uP X fun t50 X=>uP X fun t51 X=>uP X fun f0 X=>uP X fun f1 X=>uP X fun f0_1 X=>uP X fun f1_1 X=>uP X fun out0 X=>uP X fun out1 X=>uP X fun um X=>uP X fun uo X=>Z 2 (Shape.inj jp.cp_s (a,b,t52,t53,V.1,a0,a1,a2,b0,b1,b2,t40,t41,t42,t50,t51,f0,f1,f0_1,f1_1,out0,out1,V.2,uo,())))
def jp (a:(Int)×((Int)×(List ((Int)×((Int)×((List Int)×((Int)×((Int)×(List Int))))))))) (b:(Int)×((Int)×(List ((Int)×((Int)×((List Int)×((Int)×((Int)×(List Int))))))))):Option (((Int)×((Int)×(List ((Int)×((Int)×((List Int)×((Int)×((Int)×(List Int)))))))))×((Int)×(Int))):=
  bnd (jw (a.1,a.2.1,a.2.2)) fun y=>
  br (y.1 !=0)
   (bnd (jp.c3 some) fun y1=>
    some (((0:Int),(0:Int),[]),y.1,y.2))
   (bnd (jw (b.1,b.2.1,b.2.2)) fun y2=>
    br (y2.1 !=0)
     (bnd (jp.c6 some) fun y3=>
      some (((0:Int),(0:Int),[]),y2.1,y2.2))
     (bnd (jp.c7 a.1 a.2.1 b.1 b.2.1 some) fun y4=>
      br y4
       (bnd (Jq (16:Int) (0:Int)) fun y5=>
        some (((0:Int),(0:Int),[]),y5.1,y5.2))
       (br (decide (i64.wrap ((↑(List.length a.2.2):Int)+(↑(List.length b.2.2):Int))>4096))
         (bnd (Jq (2:Int) (0:Int)) fun y6=>
          some (((0:Int),(0:Int),[]),y6.1,y6.2))
         (bnd (ju (a.1,a.2.1,a.2.2)) fun y7=>
          bnd (iter (fun s↦jp.cp_ b.2.2 (↑(List.length b.2.2):Int) s.1 s.2 some) ((0:Int),y7.2.2.1)) fun y8=>
          some ((y7.1,y7.2.1,y8.2),(0:Int),(0:Int))))))
def jp.ce:Go.Ql.Callee:=⟨[(.st (.pair (.int .i64) (.pair (.int .i64) (.sl (.st (.pair (.int .i64) (.pair (.int .i64) (.pair (.sl (.int .i64)) (.pair (.int .i64) (.pair (.int .i64) (.sl (.int .i64)))))))))))),(.st (.pair (.int .i64) (.pair (.int .i64) (.sl (.st (.pair (.int .i64) (.pair (.int .i64) (.pair (.sl (.int .i64)) (.pair (.int .i64) (.pair (.int .i64) (.sl (.int .i64))))))))))))],[(.st (.pair (.int .i64) (.pair (.int .i64) (.sl (.st (.pair (.int .i64) (.pair (.int .i64) (.pair (.sl (.int .i64)) (.pair (.int .i64) (.pair (.int .i64) (.sl (.int .i64)))))))))))),(.st (.pair (.int .i64) (.int .i64)))],fun X=>jp X.1 X.2⟩
def jp.G:Env:=⟨68,tab,[(20,jw.ce),(21,Jq.ce),(23,jU.ce)],[0,1,2,3,4,5,6,7,8,10,15,22,36,46,52,53,54,55],[8,2050,3008],[(15,[⟨[],[],[60,61,62],[62]⟩,⟨[0],[],[60,61,62],[62]⟩,⟨[],[],[58,59],[]⟩,⟨[2],[],[58,59],[]⟩,⟨[3,2],[62],[58,59],[]⟩,⟨[1,0,4,3,2],[2050],[],[]⟩,⟨[0,1,2,3,4,5],[],[],[]⟩,⟨[6,0,1,2,3,4,5],[8],[],[]⟩]),
  (6,[⟨[],[],[24],[]⟩,⟨[],[],[23],[4]⟩,⟨[0],[4],[24],[]⟩,⟨[1,2,0],[5],[],[]⟩]),
  (3,[⟨[],[],[17],[]⟩,⟨[],[],[16],[4]⟩,⟨[0],[4],[17],[]⟩,⟨[1,2,0],[5],[],[]⟩])],[(100013,jp.cp_r),(15,jp.c15r),(7,jp.c7r),(6,jp.c6r),(3,jp.c3r)],[(17,ju.mc)],jP,[]⟩
theorem jp.p0:PcA jp.G Tryd.f8 0:=
  jE (s:=jp.c3r) (by kernel_rfl) (by kernel_rfl) (jG (sh:=jp.c3s) (fun ρ X Z=>jd) (fun ρ X t k=>(by kernel_rfl)) (fun X=>by kernel_rfl))
theorem jp.p1:PcA jp.G Tryd.f8 1:=
  jE (s:=jp.c6r) (by kernel_rfl) (by kernel_rfl) (jG (sh:=jp.c6s) (fun ρ X Z=>jd) (fun ρ X t k=>(by kernel_rfl)) (fun X=>by kernel_rfl))
theorem jp.p2:PcA jp.G Tryd.f8 2:=
  jE (s:=jp.c7r) (by kernel_rfl) (by kernel_rfl) (jG (sh:=jp.c6s) (fun ρ X Z=>(jv jd jd)) (fun ρ X t k=>(by kernel_rfl)) (fun X=>by kernel_rfl))
theorem jp.p3:PcA jp.G Tryd.f8 3:=
  Jt (s:=jp.cp_r) (by kernel_rfl) (by kernel_rfl) (Je (sh:=jp.cp_s) (I:=fun X Q=>(X.1,X.2.1,X.2.2.1,X.2.2.2.1,Q.1,(q4 X).2.1,(q4 X).2.2.1,(q4 X).2.2.2.1,(q8 X).1,(q8 X).2.1,(q8 X).2.2.1,(q8 X).2.2.2.1,(q4 (q8 X)).1,(q4 (q8 X)).2.1,(q4 (q8 X)).2.2.1,(q4 (q8 X)).2.2.2.1,(q8 (q8 X)).1,(q8 (q8 X)).2.1,(q8 (q8 X)).2.2.1,(q8 (q8 X)).2.2.2.1,(q4 (q8 (q8 X))).1,(q4 (q8 (q8 X))).2.1,Q.2,(q4 (q8 (q8 X))).2.2.2)) (fun X=>rfl) (fun ρ X Q Z=>(jv (jc fun _=>(jc fun _=>jd)) jd)) (fun ρ X t k=>(by kernel_rfl)) (fun X s=>by kernel_rfl))
theorem jp.p4:PcA jp.G Tryd.f8 4:=
  jE (s:=jp.c15r) (by kernel_rfl) (by kernel_rfl) (jG (sh:=jp.c15s) (fun ρ X Z=>(jc fun _=>(jc fun _=>jd))) (fun ρ X t k=>(by kernel_rfl)) (fun X=>by kernel_rfl))
theorem jp.ok:CalleeOk Tryd.prog 8 jp.ce:=fn_ok (G:=jp.G) jV mixed Tryd.func8 ⟨(jI jw.ok (jI Jq.ok (jI jU.ok jR))),(JI ju.ok jM),jC,jL⟩ (m:=5) (by kernel_rfl) ⟨⟨⟨⟨⟨trivial,jp.p0⟩,jp.p1⟩,jp.p2⟩,jp.p3⟩,jp.p4⟩ (by kernel_rfl) (fun _=>by kernel_rfl)
def jZ.c4 (x:Int)(i:Int)(a:List UInt8)(Z:Bool→Option ρ):Option ρ:=
  br (!(i==x)==(a==Array.toList (ByteArray.data (ByteArray.mk #[49]))))
   (Z true)
   (br (i !=x)
     (Z (!a==Array.toList (ByteArray.data (ByteArray.mk #[48]))))
     (Z false))
def jZ.c4s:Shape:=⟨[(0,sd71),(1,sd0),(4,sd1),(5,sd0),(6,sd65),(7,sd71),(8,sd0),(9,sd0)],[]⟩
def jZ.c4x0:Shape:=⟨[(0,sd71),(1,sd0),(4,sd1),(5,sd0),(6,sd65),(7,sd71),(8,sd0),(9,sd0),(28,sd1)],[]⟩
def jZ.c4r:Ck:=Ck.of (T:=Bool) jZ.c4s (fun ρ X Z=>jZ.c4 X.2.1 X.2.2.2.1 (q4 X).1 Z) (fun ρ X V Z=>Z 0 (Shape.inj jZ.c4x0 (X.1,X.2.1,X.2.2.1,X.2.2.2.1,(q4 X).1,(q4 X).2.1,(q4 X).2.2.1,(q4 X).2.2.2.1,V,())))
def jZ.cc_ (x:Int)(t7:List (List UInt8))(t8:Int)(t9:Int)(Z:(Int)⊕((Int)⊕(Int))→Option ρ):Option ρ:=
  br (decide (t9<t8))
   (bnd (idx t7 t9) fun y=>
    bnd (jZ.c4 x t9 y some) fun y1=>
    br y1
     (Z (.inr (.inl t9)))
     (Z (.inl (i64.wrap (t9+1)))))
   (Z (.inr (.inr t9)))
def jZ.cc_s:Shape:=⟨[(0,sd71),(1,sd0),(4,sd1),(7,sd71),(8,sd0),(9,sd0)],[]⟩
def jZ.cc_r:Ck:=Ck.ofLoop (S:=Int) (T:=(Int)⊕(Int)) jZ.cc_s (fun X=>(q4 X).2.1) (fun ρ X Q Z=>jZ.cc_ X.2.1 X.2.2.2.1 (q4 X).1 Q Z) (fun ρ X V Z=>sel V (fun V=>Z 1 (Shape.inj jZ.cc_s (X.1,X.2.1,false,X.2.2.2.1,(q4 X).1,V,()))) (fun V=>Z 2 (Shape.inj jZ.cc_s (X.1,X.2.1,X.2.2.1,X.2.2.2.1,(q4 X).1,V,()))))
def jZ (amps:List (List UInt8)) (x:Int):Option Bool:=
  bnd (iter (fun s↦jZ.cc_ x amps (amps.length:Int) s some) (0:Int)) fun y=>
  sel y
   (fun u=>some false)
   (fun v=>some (decide (x<(amps.length:Int))))
def jZ.ce:Go.Ql.Callee:=⟨[(.sl .str),(.int .i64)],[.bool],fun X=>jZ X.1 X.2⟩
def jZ.G:Env:=⟨34,tab,[],[0,1,4,5,6,7,8,9,10,28],[],[],[(100002,jZ.cc_r),(4,jZ.c4r)],[],jP,[]⟩
theorem jZ.p0:PcA jZ.G Tryd.f10 0:=
  Jt (s:=jZ.cc_r) (by kernel_rfl) (by kernel_rfl) (Je (sh:=jZ.cc_s) (I:=fun X Q=>(X.1,X.2.1,X.2.2.1,X.2.2.2.1,(q4 X).1,Q,())) (fun X=>rfl) (fun ρ X Q Z=>(jv (jc fun _=>(jc fun _=>(jv jd jd))) jd)) (fun ρ X t k=>(kl (fun _=>(by kernel_rfl)) (fun _=>(by kernel_rfl)))) (fun X s=>by kernel_rfl))
theorem jZ.p1:PcA jZ.G Tryd.f10 1:=
  jE (s:=jZ.c4r) (by kernel_rfl) (by kernel_rfl) (jG (sh:=jZ.c4s) (fun ρ X Z=>(jv jd (jv jd jd))) (fun ρ X t k=>(by kernel_rfl)) (fun X=>by kernel_rfl))
theorem jZ.ok:CalleeOk Tryd.prog 10 jZ.ce:=fn_ok (G:=jZ.G) jV mixed Tryd.func10 ⟨jR,jM,jC,jL⟩ (m:=2) (by kernel_rfl) ⟨⟨trivial,jZ.p0⟩,jZ.p1⟩ (by kernel_rfl) (fun _=>by kernel_rfl)
def jK.cc_ (s:List (Int))(v:Int)(t7:Int)(t8:Int)(Z:(Int)⊕(((Int)×(Int))⊕(Int))→Option ρ):Option ρ:=
  br (decide (t8<t7))
   (bnd (idx s t8) fun y=>
    br (v==y)
     (Z (.inr (.inl (t8,t8))))
     (Z (.inl (i64.wrap (t8+1)))))
   (Z (.inr (.inr t8)))
def jK.cc_s:Shape:=⟨[(0,sd8),(1,sd0),(4,sd0),(7,sd0),(8,sd0)],[]⟩
def jK.cc_r:Ck:=Ck.ofLoop (S:=Int) (T:=((Int)×(Int))⊕(Int)) jK.cc_s (fun X=>(q4 X).1) (fun ρ X Q Z=>jK.cc_ X.1 X.2.1 X.2.2.2.1 Q Z) (fun ρ X V Z=>sel V (fun V=>Z 1 (Shape.inj jK.cc_s (X.1,X.2.1,V.1,X.2.2.2.1,V.2,()))) (fun V=>Z 2 (Shape.inj jK.cc_s (X.1,X.2.1,X.2.2.1,X.2.2.2.1,V,()))))
def jK (s:List (Int)) (v:Int):Option (Int):=
  bnd (iter (fun s_1↦jK.cc_ s v (s.length:Int) s_1 some) (0:Int)) fun y=>
  sel y
   (fun u=>some u.1)
   (fun v_1=>some (-1:Int))
def jK.ce:Go.Ql.Callee:=⟨[(.sl (.int .i64)),(.int .i64)],[(.int .i64)],fun X=>jK X.1 X.2⟩
def jK.G:Env:=⟨19,tab,[],[0,1,4,5,7,8,9,16],[],[],[(100002,jK.cc_r)],[],jP,[]⟩
theorem jK.p0:PcA jK.G Tryd.f39 0:=
  Jt (s:=jK.cc_r) (by kernel_rfl) (by kernel_rfl) (Je (sh:=jK.cc_s) (I:=fun X Q=>(X.1,X.2.1,X.2.2.1,X.2.2.2.1,Q,())) (fun X=>rfl) (fun ρ X Q Z=>(jv (jc fun _=>(jv jd jd)) jd)) (fun ρ X t k=>(kl (fun _=>(by kernel_rfl)) (fun _=>(by kernel_rfl)))) (fun X s=>by kernel_rfl))
theorem jK.ok:CalleeOk Tryd.prog 39 jK.ce:=fn_ok (G:=jK.G) jV mixed Tryd.func39 ⟨jR,jM,jC,jL⟩ (m:=1) (by kernel_rfl) ⟨trivial,jK.p0⟩ (by kernel_rfl) (fun _=>by kernel_rfl)
def Jh (s:List (Int)) (v:Int):Option Bool:=
  bnd (jK s v) fun y=>
  some (decide (y≥0))
def Jh.ce:Go.Ql.Callee:=⟨[(.sl (.int .i64)),(.int .i64)],[.bool],fun X=>Jh X.1 X.2⟩
def Jh.G:Env:=⟨9,tab,[(39,jK.ce)],[0,1,4],[],[],[],[],jP,[]⟩
theorem Jh.ok:CalleeOk Tryd.prog 26 Jh.ce:=fn_ok (G:=Jh.G) jV mixed Tryd.func26 ⟨(jI jK.ok jR),jM,jC,jL⟩ (m:=0) (by kernel_rfl) trivial (by kernel_rfl) (fun _=>by kernel_rfl)
def Jp.pre:Shape:=⟨[(0,sd2),(1,sd3)],[(1000100,sd54)]⟩
def Jp.post:Shape:=⟨[(0,sd2)],[(1000100,sd54)]⟩
def Jp (o:(Int)×((Int)×((List Int)×((Int)×((Int)×(List Int)))))) (ua:Int):Option (((Int)×((Int)×((List Int)×((Int)×((Int)×(List Int))))))×(Int)×Unit):=
  br (o.1==1)
   (some (((4:Int),o.2.1,[],ua,(0:Int),[]),ua,()))
   (bnd (okIf (decide (((1:Nat)+List.length o.2.2.1)*8≤140737488355328)&&decide ((1:Nat)+List.length o.2.2.1≤140737488355328))) fun y=>
    some ((o.1,o.2.1,[ua]++o.2.2.1,o.2.2.2.1,o.2.2.2.2.1,o.2.2.2.2.2),ua,()))
def Jp.mc:MCallee:=⟨27,Jp.pre,Jp.post,fun X=>Jp X.1 X.2.1⟩
def Jp.G:Env:=⟨18,tab,[],[0,1,2,3,6],[12],[],[],[],jP,[]⟩
theorem Jp.ok:MOk Tryd.prog 27 Jp.mc:=kq (mc:=Jp.mc) (G:=Jp.G) jV mixed Tryd.func27 ⟨jR,jM,jC,jL⟩ (m:=0) (by kernel_rfl) trivial (by kernel_rfl) (fun _=>by kernel_rfl)
abbrev sd84:SD:=.one (.clo 1000100)
abbrev sd85:SO:=.clo 27 [] [.ref 1000101 0]
def jy.pre:Shape:=⟨[(0,sd10),(1,sd84)],[(1000100,sd85),(1000101,sd54)]⟩
def jy.post:Shape:=⟨[(0,sd10)],[(1000100,sd85),(1000101,sd54)]⟩
def jy.c5 (o0:Int)(o1:Int)(o2:List (Int))(o3:Int)(o4:Int)(o5:List (Int))(un:List ((Int)×((Int)×((List Int)×((Int)×((Int)×(List Int)))))))(ub:Int)(Z:(List ((Int)×((Int)×((List Int)×((Int)×((Int)×(List Int)))))))×(Int)→Option ρ):Option ρ:=
  bnd (jU (o0,o1,o2,o3,o4,o5)) fun y=>
  bnd (Jp y ub) fun y1=>
  bnd (okIf (decide ((un.length+1)*80≤140737488355328)&&decide (un.length+1≤140737488355328))) fun y2=>
  Z ((un++[y1.1]),y1.2.1)
def jy.c5s:Shape:=⟨[(0,sd10),(1,sd84),(2,sd5),(4,sd15),(5,sd30),(7,sd21),(14,sd13),(15,sd0),(16,sd0)],[(2,sd4),(4,sd4),(5,sd80),(7,sd6),(3005,sd78),(1000100,sd85),(1000101,sd54)]⟩
def jy.c5r:Ck:=Ck.of (T:=(List ((Int)×((Int)×((List Int)×((Int)×((Int)×(List Int)))))))×(Int)) jy.c5s (fun ρ X Z=>jy.c5 (q4 (q8 X)).1 (q4 (q8 X)).2.1 (q4 (q8 X)).2.2.1 (q4 (q8 X)).2.2.2.1 (q8 (q8 X)).1 (q8 (q8 X)).2.1 (q8 (q8 X)).2.2.1 (q8 (q8 X)).2.2.2.1 Z) (fun ρ X V Z=>Z 0 (Shape.inj jy.c5s (X.1,X.2.1,X.2.2.1,X.2.2.2.1,(q4 X).1,(q4 X).2.1,(q4 X).2.2.1,(q4 X).2.2.2.1,(q8 X).1,(q8 X).2.1,(q8 X).2.2.1,(q8 X).2.2.2.1,(q4 (q8 X)).1,(q4 (q8 X)).2.1,(q4 (q8 X)).2.2.1,(q4 (q8 X)).2.2.2.1,(q8 (q8 X)).1,(q8 (q8 X)).2.1,V.1,V.2,())))
def jy.ca_ (t14:List ((Int)×((Int)×((List Int)×((Int)×((Int)×(List Int)))))))(t15:Int)(t16:Int)(un:List ((Int)×((Int)×((List Int)×((Int)×((Int)×(List Int)))))))(ub:Int)(Z:((Int)×(List ((Int)×((Int)×((List Int)×((Int)×((Int)×(List Int)))))))×(Int))⊕((Int)×(List ((Int)×((Int)×((List Int)×((Int)×((Int)×(List Int)))))))×(Int))→Option ρ):Option ρ:=
  br (decide (t16<t15))
   (bnd (idx t14 t16) fun y=>
    bnd (jy.c5 y.1 y.2.1 y.2.2.1 y.2.2.2.1 y.2.2.2.2.1 y.2.2.2.2.2 un ub some) fun y1=>
    Z (.inl ((i64.wrap (t16+1)),y1.1,y1.2)))
   (Z (.inr (t16,un,ub)))
def jy.ca_s:Shape:=⟨[(0,sd10),(1,sd84),(2,sd5),(4,sd15),(5,sd30),(14,sd13),(15,sd0),(16,sd0)],[(2,sd4),(4,sd4),(5,sd80),(3005,sd78),(1000100,sd85),(1000101,sd54)]⟩
def jy.ca_r:Ck:=Ck.ofLoop (S:=(Int)×(List ((Int)×((Int)×((List Int)×((Int)×((Int)×(List Int)))))))×(Int)) (T:=(Int)×(List ((Int)×((Int)×((List Int)×((Int)×((Int)×(List Int)))))))×(Int)) jy.ca_s (fun X=>(X.2.2.2.1,(q4 (q8 X)).1,(q4 (q8 X)).2.1)) (fun ρ X Q Z=>jy.ca_ X.2.1 X.2.2.1 Q.1 Q.2.1 Q.2.2 Z) (fun ρ X V Z=>Z 2 (Shape.inj jy.ca_s (X.1,X.2.1,X.2.2.1,V.1,(q4 X).1,(q4 X).2.1,(q4 X).2.2.1,(q4 X).2.2.2.1,(q8 X).1,(q8 X).2.1,(q8 X).2.2.1,(q8 X).2.2.2.1,V.2.1,V.2.2,())))
def jy (c:(Int)×((Int)×(List ((Int)×((Int)×((List Int)×((Int)×((Int)×(List Int))))))))) (ub:Int):Option (((Int)×((Int)×(List ((Int)×((Int)×((List Int)×((Int)×((Int)×(List Int)))))))))×(Int)×Unit):=
  bnd (iter (fun s↦jy.ca_ c.2.2 (↑(List.length c.2.2):Int) s.1 s.2.1 s.2.2 some) ((0:Int),[],ub)) fun y=>
  some ((c.1,c.2.1,y.2.1),y.2.2,())
def jy.mc:MCallee:=⟨17,jy.pre,jy.post,fun X=>jy X.1 X.2.1⟩
def jy.G:Env:=⟨31,tab,[(23,jU.ce)],[0,1,2,4,5,7,14,15,16,17],[2,5,12,3002,3005],[(5,[⟨[],[],[22,23,24,25,26],[1000101,26]⟩,⟨[0],[],[22,23,24,25,26],[1000101,26]⟩,⟨[],[],[20,21,23,24],[]⟩,⟨[],[],[20,21,22],[]⟩,⟨[3],[],[20,21,22],[]⟩,⟨[2,4,3],[1000101],[20,21],[]⟩,⟨[5,2,4,3],[26],[20,21],[]⟩,⟨[1,0,6,5,2,4,3],[3005],[],[]⟩,⟨[0,1,2,3,4,5,6,7],[],[],[]⟩,⟨[8,0,1,2,3,4,5,6,7],[5],[],[]⟩])],[(100003,jy.ca_r),(5,jy.c5r)],[(27,Jp.mc)],jP,[]⟩
theorem jy.p0:PcA jy.G Tryd.f17 0:=
  Jt (s:=jy.ca_r) (by kernel_rfl) (by kernel_rfl) (Je (sh:=jy.ca_s) (I:=fun X Q=>(X.1,X.2.1,X.2.2.1,Q.1,(q4 X).1,(q4 X).2.1,(q4 X).2.2.1,(q4 X).2.2.2.1,(q8 X).1,(q8 X).2.1,(q8 X).2.2.1,(q8 X).2.2.2.1,Q.2.1,Q.2.2,())) (fun X=>rfl) (fun ρ X Q Z=>(jv (jc fun _=>(jc fun _=>jd)) jd)) (fun ρ X t k=>(by kernel_rfl)) (fun X s=>by kernel_rfl))
theorem jy.p1:PcA jy.G Tryd.f17 1:=
  jE (s:=jy.c5r) (by kernel_rfl) (by kernel_rfl) (jG (sh:=jy.c5s) (fun ρ X Z=>(jc fun _=>(jc fun _=>(jc fun _=>jd)))) (fun ρ X t k=>(by kernel_rfl)) (fun X=>by kernel_rfl))
theorem jy.ok:MOk Tryd.prog 17 jy.mc:=kq (mc:=jy.mc) (G:=jy.G) jV mixed Tryd.func17 ⟨(jI jU.ok jR),(JI Jp.ok jM),jC,jL⟩ (m:=2) (by kernel_rfl) ⟨⟨trivial,jy.p0⟩,jy.p1⟩ (by kernel_rfl) (fun _=>by kernel_rfl)
def jj.c3  (Z:Unit→Option ρ):Option ρ:=
  Z ()
def jj.c3s:Shape:=⟨[(0,sd10),(1,sd0),(2,sd5),(3,sd36),(4,sd15),(5,sd30),(6,sd31)],[(2,sd4),(3,sd54),(4,sd4),(5,sd12),(6,sd12)]⟩
def jj.c3r:Ck:=Ck.of (T:=Unit) jj.c3s (fun ρ X Z=>jj.c3  Z) (fun ρ X V Z=>Z 0 (Shape.inj jj.c3s (X.1,X.2.1,X.2.2.1,X.2.2.2.1,(q4 X).1,(q4 X).2.1,(0:Int),(0:Int),[],(q8 X).2.2.2.1,(q4 (q8 X)).1,(q8 X).2.2.2)))
def jj.c4 (c0:Int)(q0:Int)(Z:Bool→Option ρ):Option ρ:=
  br (decide (q0<0))
   (Z true)
   (Z (decide (q0≥c0)))
def jj.c4x0:Shape:=⟨[(0,sd10),(1,sd0),(2,sd5),(3,sd36),(4,sd15),(5,sd30),(6,sd31),(24,sd1)],[(2,sd4),(3,sd54),(4,sd4),(5,sd12),(6,sd12)]⟩
def jj.c4r:Ck:=Ck.of (T:=Bool) jj.c3s (fun ρ X Z=>jj.c4 X.2.2.1 (q4 X).2.1 Z) (fun ρ X V Z=>Z 0 (Shape.inj jj.c4x0 (X.1,X.2.1,V,X.2.2)))
def jj.c8  (Z:Unit→Option ρ):Option ρ:=
  Z ()
def jj.c8s:Shape:=⟨[(0,sd10),(1,sd0),(2,sd5),(3,sd36),(4,sd15),(5,sd30),(6,sd31),(7,sd21)],[(2,sd4),(3,sd54),(4,sd4),(5,sd12),(6,sd12),(7,sd12)]⟩
def jj.c8r:Ck:=Ck.of (T:=Unit) jj.c8s (fun ρ X Z=>jj.c8  Z) (fun ρ X V Z=>Z 0 (Shape.inj jj.c8s (X.1,X.2.1,X.2.2.1,X.2.2.2.1,(q4 X).1,(q4 X).2.1,(0:Int),(0:Int),[],(q4 (q8 X)).2.1,(q4 (q8 X)).2.2.1,(q8 X).2.2.2)))
def jj.c12 (q0:Int)(o0:Int)(o2:List (Int))(o3:Int)(Z:Bool→Option ρ):Option ρ:=
  br (o0 !=1)
   (br (o3==q0)
     (Z true)
     (bnd (Jh o2 q0) fun y=>
      Z y))
   (Z false)
def jj.c12s:Shape:=⟨[(0,sd10),(1,sd0),(2,sd5),(3,sd36),(4,sd15),(5,sd30),(6,sd31),(7,sd21),(8,sd0),(9,sd61),(35,sd13),(36,sd0),(37,sd0)],[(2,sd4),(3,sd54),(4,sd4),(5,sd12),(6,sd12),(7,sd12),(9,sd6)]⟩
def jj.c12x0:Shape:=⟨[(0,sd10),(1,sd0),(2,sd5),(3,sd36),(4,sd15),(5,sd30),(6,sd31),(7,sd21),(8,sd0),(9,sd61),(35,sd13),(36,sd0),(37,sd0),(56,sd1)],[(2,sd4),(3,sd54),(4,sd4),(5,sd12),(6,sd12),(7,sd12),(9,sd6)]⟩
def jj.c12r:Ck:=Ck.of (T:=Bool) jj.c12s (fun ρ X Z=>jj.c12 (q8 X).2.1 (q8 (q8 X)).2.2.2.1 (q4 (q8 (q8 X))).2.1 (q4 (q8 (q8 X))).2.2.1 Z) (fun ρ X V Z=>Z 0 (Shape.inj jj.c12x0 (X.1,X.2.1,X.2.2.1,X.2.2.2.1,(q4 X).1,(q4 X).2.1,V,(q4 X).2.2)))
def jj.cg_ (t35:List ((Int)×((Int)×((List Int)×((Int)×((Int)×(List Int)))))))(t36:Int)(t37:Int)(q0:Int)(Z:(Int)⊕(((Int)×(Int)×(Int))⊕(Int))→Option ρ):Option ρ:=
  br (decide (t37<t36))
   (bnd (idx t35 t37) fun y=>
    bnd (jj.c12 q0 y.1 y.2.2.1 y.2.2.2.1 some) fun y1=>
    br y1
     (bnd (Jq (12:Int) t37) fun y2=>
      Z (.inr (.inl (t37,y2.1,y2.2))))
     (Z (.inl (i64.wrap (t37+1)))))
   (Z (.inr (.inr t37)))
def jj.cg_s:Shape:=⟨[(0,sd10),(1,sd0),(2,sd5),(3,sd36),(4,sd15),(5,sd30),(6,sd31),(7,sd21),(35,sd13),(36,sd0),(37,sd0)],[(2,sd4),(3,sd54),(4,sd4),(5,sd12),(6,sd12),(7,sd12)]⟩
def jj.cg_r:Ck:=Ck.ofLoop (S:=Int) (T:=((Int)×(Int)×(Int))⊕(Int)) jj.cg_s (fun X=>(q4 X).1) (fun ρ X Q Z=>jj.cg_ X.2.2.1 X.2.2.2.1 Q (q8 X).1 Z) (fun ρ X V Z=>sel V (fun V=>Z 1 (Shape.inj jj.cg_s (X.1,X.2.1,X.2.2.1,X.2.2.2.1,V.1,(q4 X).2.1,(q4 X).2.2.1,(q4 X).2.2.2.1,(q8 X).1,(0:Int),(0:Int),[],V.2.1,V.2.2,(q4 (q8 X)).2.2))) (fun V=>Z 2 (Shape.inj jj.cg_s (X.1,X.2.1,X.2.2.1,X.2.2.2.1,V,(q4 X).2))))
def jj (c:(Int)×((Int)×(List ((Int)×((Int)×((List Int)×((Int)×((Int)×(List Int))))))))) (q:Int):Option (((Int)×((Int)×(List ((Int)×((Int)×((List Int)×((Int)×((Int)×(List Int)))))))))×((Int)×(Int))):=
  bnd (jw (c.1,c.2.1,c.2.2)) fun y=>
  br (y.1 !=0)
   (bnd (jj.c3 some) fun y1=>
    some (((0:Int),(0:Int),[]),y.1,y.2))
   (bnd (jj.c4 c.1 q some) fun y2=>
    br y2
     (bnd (Jq (10:Int) (0:Int)) fun y3=>
      some (((0:Int),(0:Int),[]),y3.1,y3.2))
     (bnd (jO (c.1,c.2.1,c.2.2)) fun y4=>
      br (y4.1 !=0)
       (bnd (jj.c8 some) fun y5=>
        some (((0:Int),(0:Int),[]),y4.1,y4.2))
       (bnd (iter (fun s↦jj.cg_ c.2.2 (↑(List.length c.2.2):Int) s q some) (0:Int)) fun y6=>
        sel y6
         (fun u=>some (((0:Int),(0:Int),[]),u.2.1,u.2.2))
         (fun v=>bnd (jy (c.1,c.2.1,c.2.2) q) fun y7=>
          some ((y7.1.1,y7.1.2.1,y7.1.2.2),(0:Int),(0:Int))))))
def jj.ce:Go.Ql.Callee:=⟨[(.st (.pair (.int .i64) (.pair (.int .i64) (.sl (.st (.pair (.int .i64) (.pair (.int .i64) (.pair (.sl (.int .i64)) (.pair (.int .i64) (.pair (.int .i64) (.sl (.int .i64)))))))))))),(.int .i64)],[(.st (.pair (.int .i64) (.pair (.int .i64) (.sl (.st (.pair (.int .i64) (.pair (.int .i64) (.pair (.sl (.int .i64)) (.pair (.int .i64) (.pair (.int .i64) (.sl (.int .i64)))))))))))),(.st (.pair (.int .i64) (.int .i64)))],fun X=>jj X.1 X.2⟩
def jj.G:Env:=⟨65,tab,[(20,jw.ce),(21,Jq.ce),(16,jO.ce),(26,Jh.ce)],[0,1,2,3,4,5,6,7,8,9,14,24,31,35,36,37,38,56],[],[(8,[⟨[],[],[33],[]⟩,⟨[],[],[32],[4]⟩,⟨[0],[4],[33],[]⟩,⟨[1,2,0],[5],[],[]⟩]),
  (3,[⟨[],[],[16],[]⟩,⟨[],[],[15],[4]⟩,⟨[0],[4],[16],[]⟩,⟨[1,2,0],[5],[],[]⟩])],[(100010,jj.cg_r),(12,jj.c12r),(8,jj.c8r),(4,jj.c4r),(3,jj.c3r)],[(17,jy.mc)],jP,[]⟩
theorem jj.p0:PcA jj.G Tryd.f11 0:=
  jE (s:=jj.c3r) (by kernel_rfl) (by kernel_rfl) (jG (sh:=jj.c3s) (fun ρ X Z=>jd) (fun ρ X t k=>(by kernel_rfl)) (fun X=>by kernel_rfl))
theorem jj.p1:PcA jj.G Tryd.f11 1:=
  jE (s:=jj.c4r) (by kernel_rfl) (by kernel_rfl) (jG (sh:=jj.c3s) (fun ρ X Z=>(jv jd jd)) (fun ρ X t k=>(by kernel_rfl)) (fun X=>by kernel_rfl))
theorem jj.p2:PcA jj.G Tryd.f11 2:=
  jE (s:=jj.c8r) (by kernel_rfl) (by kernel_rfl) (jG (sh:=jj.c8s) (fun ρ X Z=>jd) (fun ρ X t k=>(by kernel_rfl)) (fun X=>by kernel_rfl))
theorem jj.p3:PcA jj.G Tryd.f11 3:=
  Jt (s:=jj.cg_r) (by kernel_rfl) (by kernel_rfl) (Je (sh:=jj.cg_s) (I:=fun X Q=>(X.1,X.2.1,X.2.2.1,X.2.2.2.1,Q,(q4 X).2)) (fun X=>rfl) (fun ρ X Q Z=>(jv (jc fun _=>(jc fun _=>(jv (jc fun _=>jd) jd))) jd)) (fun ρ X t k=>(kl (fun _=>(by kernel_rfl)) (fun _=>(by kernel_rfl)))) (fun X s=>by kernel_rfl))
theorem jj.p4:PcA jj.G Tryd.f11 4:=
  jE (s:=jj.c12r) (by kernel_rfl) (by kernel_rfl) (jG (sh:=jj.c12s) (fun ρ X Z=>(jv (jv jd (jc fun _=>jd)) jd)) (fun ρ X t k=>(by kernel_rfl)) (fun X=>by kernel_rfl))
theorem jj.ok:CalleeOk Tryd.prog 11 jj.ce:=fn_ok (G:=jj.G) jV mixed Tryd.func11 ⟨(jI jw.ok (jI Jq.ok (jI jO.ok (jI Jh.ok jR)))),(JI jy.ok jM),jC,jL⟩ (m:=5) (by kernel_rfl) ⟨⟨⟨⟨⟨trivial,jj.p0⟩,jj.p1⟩,jj.p2⟩,jj.p3⟩,jj.p4⟩ (by kernel_rfl) (fun _=>by kernel_rfl)
abbrev sd86:SD:=.one (.ref 11 0)
abbrev sd87:SD:=.one (.ref 12 0)
abbrev sd88:SD:=.one (.ref 13 0)
abbrev sd89:SD:=.one (.ref 15 0)
def jf.c5 (c0:Int)(c1:Int)(c2:List ((Int)×((Int)×((List Int)×((Int)×((Int)×(List Int)))))))(f0:Int)(f1:Int)(Z:Bool→Option ρ):Option ρ:=
  bnd (JS (c0,c1,c2)) fun y=>
  Z (Ty.eqT (Ty.pair (Ty.int IntKind.i64) (Ty.int IntKind.i64)) (f0,f1) y)
def jf.c5s:Shape:=⟨[(0,sd10),(1,sd0),(2,sd0),(3,sd36),(6,sd1),(7,sd21),(8,sd48)],[(3,sd4),(7,sd4),(8,sd12)]⟩
def jf.c5r:Ck:=Ck.of (T:=Bool) jf.c5s (fun ρ X Z=>jf.c5 (q4 X).1 (q4 X).2.1 (q4 X).2.2.1 (q8 X).2.2.1 (q8 X).2.2.2.1 Z) (fun ρ X V Z=>Z 0 (Shape.inj jf.c5s (X.1,X.2.1,X.2.2.1,V,(q4 X))))
def jf.c7 (t2:Int)(c0:Int)(f0_1:Int)(Z:Bool→Option ρ):Option ρ:=
  br (f0_1==0)
   (br (decide (t2≥0))
     (bnd (okIf (decide ((0:Int)≤c0))) fun y=>
      Z (decide (t2<i64.wrap ((1:Int)*2^Min.min (Int.toNat c0) (64:Nat)))))
     (Z false))
   (Z false)
def jf.c7s:Shape:=⟨[(0,sd10),(1,sd0),(2,sd0),(3,sd36),(6,sd1),(7,sd21),(8,sd48),(9,sd61),(10,sd82)],[(3,sd4),(7,sd4),(8,sd12),(9,sd4),(10,sd12)]⟩
def jf.c7x0:Shape:=⟨[(0,sd10),(1,sd0),(2,sd0),(3,sd36),(6,sd1),(7,sd21),(8,sd48),(9,sd61),(10,sd82),(49,sd1)],[(3,sd4),(7,sd4),(8,sd12),(9,sd4),(10,sd12)]⟩
def jf.c7r:Ck:=Ck.of (T:=Bool) jf.c7s (fun ρ X Z=>jf.c7 X.2.2.1 (q4 X).1 (q4 (q8 X)).2.2.2.1 Z) (fun ρ X V Z=>Z 0 (Shape.inj jf.c7x0 (X.1,X.2.1,X.2.2.1,X.2.2.2.1,V,(q4 X))))
def jf.c9 (t2:Int)(s0:List (List UInt8))(f0_2:Int)(Z:Bool→Option ρ):Option ρ:=
  br (f0_2 !=0)
   (Z true)
   (bnd (jZ s0 t2) fun y=>
    Z (!y))
def jf.c9s:Shape:=⟨[(0,sd10),(1,sd0),(2,sd0),(3,sd36),(6,sd1),(7,sd21),(8,sd48),(9,sd61),(10,sd82),(11,sd86),(12,sd87)],[(3,sd4),(7,sd4),(8,sd12),(9,sd4),(10,sd12),(11,sd73),(12,sd12)]⟩
def jf.c9x0:Shape:=⟨[(0,sd10),(1,sd0),(2,sd0),(3,sd36),(6,sd1),(7,sd21),(8,sd48),(9,sd61),(10,sd82),(11,sd86),(12,sd87),(65,sd1)],[(3,sd4),(7,sd4),(8,sd12),(9,sd4),(10,sd12),(11,sd73),(12,sd12)]⟩
def jf.c9r:Ck:=Ck.of (T:=Bool) jf.c9s (fun ρ X Z=>jf.c9 X.2.2.1 (q8 (q8 X)).2.1 (q4 (q8 (q8 X))).1 Z) (fun ρ X V Z=>Z 0 (Shape.inj jf.c9x0 (X.1,X.2.1,X.2.2.1,X.2.2.2.1,V,(q4 X))))
def jf.cq_ (t2:Int)(c0:Int)(c1:Int)(c2:List ((Int)×((Int)×((List Int)×((Int)×((Int)×(List Int)))))))(back0:Int)(back1:Int)(back2:List ((Int)×((Int)×((List Int)×((Int)×((Int)×(List Int)))))))(Z:(Unit)⊕(Unit)→Option ρ):Option ρ:=
  bnd (jp (c0,c1,c2) (back0,back1,back2)) fun y=>
  bnd (jf.c7 t2 c0 y.2.1 some) fun y1=>
  br y1
   (bnd (jD (y.1.1,y.1.2.1,y.1.2.2) t2 []) fun y2=>
    bnd (jf.c9 t2 y2.1.1 y2.2.1 some) fun y3=>
    br y3
     (Z (.inl ()))
     (Z (.inr ())))
   (Z (.inr ()))
def jf.cq_r:Ck:=Ck.of (T:=(Unit)⊕(Unit)) jf.c5s (fun ρ X Z=>jf.cq_ X.2.2.1 (q4 X).1 (q4 X).2.1 (q4 X).2.2.1 (q4 X).2.2.2.1 (q8 X).1 (q8 X).2.1 Z) (fun ρ X V Z=>sel V (fun V=>Z 1 (Shape.inj jf.c5s (X.1,X.2.1,X.2.2.1,false,(q4 X)))) (fun V=>Z 0 (Shape.inj jf.c5s X)))
def jf.c12 (t2:Int)(c0:Int)(f0:Int)(Z:Bool→Option ρ):Option ρ:=
  br (f0 !=0)
   (Z true)
   (br (decide (t2<0))
     (Z true)
     (bnd (okIf (decide ((0:Int)≤c0))) fun y=>
      Z (decide (t2≥i64.wrap ((1:Int)*2^Min.min (Int.toNat c0) (64:Nat))))))
def jf.c12s:Shape:=⟨[(0,sd10),(1,sd0),(2,sd0),(3,sd36),(6,sd1),(7,sd21),(8,sd48),(13,sd88)],[(3,sd4),(7,sd4),(8,sd12),(13,sd4)]⟩
def jf.c12x0:Shape:=⟨[(0,sd10),(1,sd0),(2,sd0),(3,sd36),(6,sd1),(7,sd21),(8,sd48),(13,sd88),(85,sd1)],[(3,sd4),(7,sd4),(8,sd12),(13,sd4)]⟩
def jf.c12r:Ck:=Ck.of (T:=Bool) jf.c12s (fun ρ X Z=>jf.c12 X.2.2.1 (q4 X).1 (q8 X).2.2.1 Z) (fun ρ X V Z=>Z 0 (Shape.inj jf.c12x0 (X.1,X.2.1,X.2.2.1,X.2.2.2.1,V,(q4 X))))
def jf.c20 (f0:Int)(s0:List (List UInt8))(t0:List (List UInt8))(Z:Bool→Option ρ):Option ρ:=
  br (f0==0)
   (bnd (jJ s0 t0) fun y=>
    Z y)
   (Z false)
def jf.c20s:Shape:=⟨[(0,sd10),(1,sd0),(2,sd0),(3,sd36),(6,sd1),(7,sd21),(8,sd48),(13,sd88),(14,sd60),(15,sd89)],[(3,sd4),(7,sd4),(8,sd12),(13,sd4),(14,sd73),(15,sd73)]⟩
def jf.c20r:Ck:=Ck.of (T:=Bool) jf.c20s (fun ρ X Z=>jf.c20 (q8 X).2.2.1 (q4 (q8 X)).2.2.2.1 (q8 (q8 X)).2.2.1 Z) (fun ρ X V Z=>Z 0 (Shape.inj jf.c20s (X.1,X.2.1,X.2.2.1,V,(q4 X))))
def jf (c:(Int)×((Int)×(List ((Int)×((Int)×((List Int)×((Int)×((Int)×(List Int))))))))) (q:Int) (t2:Int):Option Bool:=
  bnd jT fun y=>
  br (!y)
   (some false)
   (bnd (Jb (c.1,c.2.1,c.2.2)) fun y1=>
    br (y1.2.1 !=0)
     (bnd (jf.c5 c.1 c.2.1 c.2.2 y1.2.1 y1.2.2 some) fun y2=>
      some y2)
     (bnd (jf.cq_ t2 c.1 c.2.1 c.2.2 y1.1.1 y1.1.2.1 y1.1.2.2 some) fun y3=>
      sel y3
       (fun u=>some false)
       (fun v=>bnd (jj (c.1,c.2.1,c.2.2) q) fun y4=>
        bnd (jf.c12 t2 c.1 y4.2.1 some) fun y5=>
        br y5
         (some true)
         (bnd (jD (y4.1.1,y4.1.2.1,y4.1.2.2) t2 []) fun y6=>
          br (y6.2.1 !=0)
           (some false)
           (bnd (okIf (decide ((0:Int)≤q))) fun y7=>
            br (ibits BinOp.and IntKind.i64 (Int.fdiv t2 ((2:Int)^Min.min (Int.toNat q) (64:Nat))) (1:Int)==0)
             (bnd (jZ y6.1.1 t2) fun y8=>
              some y8)
             (bnd (jD (c.1,c.2.1,c.2.2) t2 []) fun y9=>
              bnd (jf.c20 y9.2.1 y6.1.1 y9.1.1 some) fun y10=>
              some y10))))))
def jf.ce:Go.Ql.Callee:=⟨[(.st (.pair (.int .i64) (.pair (.int .i64) (.sl (.st (.pair (.int .i64) (.pair (.int .i64) (.pair (.sl (.int .i64)) (.pair (.int .i64) (.pair (.int .i64) (.sl (.int .i64)))))))))))),(.int .i64),(.int .i64)],[.bool],fun X=>jf X.1 X.2.1 X.2.2⟩
def jf.G:Env:=⟨120,tab,[(5,jT.ce),(6,Jb.ce),(7,JS.ce),(8,jp.ce),(9,jD.ce),(10,jZ.ce),(11,jj.ce),(12,jJ.ce)],[0,1,2,3,6,7,8,9,10,11,12,13,14,15,17,25,49,65,85,94,99],[],[(5,[⟨[],[],[27,28],[]⟩,⟨[],[],[26],[]⟩,⟨[1],[],[26],[]⟩,⟨[0,2,1],[],[],[]⟩,⟨[3,0,2,1],[],[],[]⟩])],[(20,jf.c20r),(12,jf.c12r),(224591,jf.cq_r),(9,jf.c9r),(7,jf.c7r),(5,jf.c5r)],[],jP,[]⟩
theorem jf.p0:PcA jf.G Tryd.f3 0:=
  jE (s:=jf.c5r) (by kernel_rfl) (by kernel_rfl) (jG (sh:=jf.c5s) (fun ρ X Z=>(jc fun _=>jd)) (fun ρ X t k=>(by kernel_rfl)) (fun X=>by kernel_rfl))
theorem jf.p1:PcA jf.G Tryd.f3 1:=
  kj (s:=jf.cq_r) (by kernel_rfl) (by kernel_rfl) (jG (sh:=jf.c5s) (fun ρ X Z=>(jc fun _=>(jc fun _=>(jv (jc fun _=>(jc fun _=>(jv jd jd))) jd)))) (fun ρ X t k=>(kl (fun _=>(by kernel_rfl)) (fun _=>(by kernel_rfl)))) (fun X=>by kernel_rfl))
theorem jf.p2:PcA jf.G Tryd.f3 2:=
  jE (s:=jf.c7r) (by kernel_rfl) (by kernel_rfl) (jG (sh:=jf.c7s) (fun ρ X Z=>(jv (jv (jc fun _=>jd) jd) jd)) (fun ρ X t k=>(by kernel_rfl)) (fun X=>by kernel_rfl))
theorem jf.p3:PcA jf.G Tryd.f3 3:=
  jE (s:=jf.c9r) (by kernel_rfl) (by kernel_rfl) (jG (sh:=jf.c9s) (fun ρ X Z=>(jv jd (jc fun _=>jd))) (fun ρ X t k=>(by kernel_rfl)) (fun X=>by kernel_rfl))
theorem jf.p4:PcA jf.G Tryd.f3 4:=
  jE (s:=jf.c12r) (by kernel_rfl) (by kernel_rfl) (jG (sh:=jf.c12s) (fun ρ X Z=>(jv jd (jv jd (jc fun _=>jd)))) (fun ρ X t k=>(by kernel_rfl)) (fun X=>by kernel_rfl))
theorem jf.p5:PcA jf.G Tryd.f3 5:=
  jE (s:=jf.c20r) (by kernel_rfl) (by kernel_rfl) (jG (sh:=jf.c20s) (fun ρ X Z=>(jv (jc fun _=>jd) jd)) (fun ρ X t k=>(by kernel_rfl)) (fun X=>by kernel_rfl))
theorem jf.ok:CalleeOk Tryd.prog 3 jf.ce:=fn_ok (G:=jf.G) jV mixed Tryd.func3 ⟨(jI jT.ok (jI Jb.ok (jI JS.ok (jI jp.ok (jI jD.ok (jI jZ.ok (jI jj.ok (jI jJ.ok jR)))))))),jM,jC,jL⟩ (m:=6) (by kernel_rfl) ⟨⟨⟨⟨⟨⟨trivial,jf.p0⟩,jf.p1⟩,jf.p2⟩,jf.p3⟩,jf.p4⟩,jf.p5⟩ (by kernel_rfl) (fun _=>by kernel_rfl)
end
end W
end
