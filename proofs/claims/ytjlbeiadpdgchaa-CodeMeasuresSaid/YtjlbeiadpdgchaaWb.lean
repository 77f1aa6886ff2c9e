/- Lifted functions, part 2: each with its contract. -/
import Derived.Test.YtjlbeiadpdgchaaWa
import Derived.Test.YtjlbeiadpdgchaaProg
set_option linter.all false
section
set_option maxHeartbeats 4000000
set_option maxRecDepth 100000
namespace W
open Go Go.Ql Go.Proofs
noncomputable section
variable {ρ:Type}
abbrev tb48:SD:=.one (.own 30 0)
def jS.cc_ (gens:List (List UInt8))(one:List UInt8)(t6:Int)(Z:((List UInt8)×Int)⊕((List UInt8)×Int)→Option ρ):Option ρ:=
 bnd (idx gens (0:Int)) fun y=>
 br (decide (t6<(↑(List.length y):Int)))
 (bnd (okIf (decide (List.length one+List.length (Array.toList (ByteArray.data (ByteArray.mk #[73])))≤(9223372036854775807:Nat)))) fun y_1=>
 Z (.inl ((one++Array.toList (ByteArray.data (ByteArray.mk #[73]))),(IntKind.i64.wrap (t6+(1:Int))))))
 (Z (.inr (one,t6)))
def jS.cc_s:Shape:=⟨[(0,tb21),(2,tb21),(3,tb21),(4,tb5),(5,tb4),(6,tb5)],[]⟩
def jS.cc_r:Ck:=Ck.ofLoop (S:=(List UInt8)×Int) (T:=(List UInt8)×Int) jS.cc_s (fun X=>((q4 X).1,(q4 X).2.1)) (fun ρ X Q Z=>jS.cc_ X.1 Q.1 Q.2 Z) (fun ρ X V Z=>Z 4 (Shape.inj jS.cc_s (X.1,X.2.1,X.2.2.1,X.2.2.2.1,V.1,V.2,())))
def jS.cE_ (gens:List (List UInt8))(out:List (List UInt8))(i:Int)(Z:List (List UInt8)→Option ρ):Option ρ:=
 br (i==(0:Int))
 (bnd (iter (fun s↦jS.cc_ gens s.1 s.2 some) (Array.toList (ByteArray.data (ByteArray.mk #[])),(0:Int))) fun y=>
 Z ([y.1]))
 (Z out)
def jS.cE_s:Shape:=⟨[(0,tb21),(2,tb21),(3,tb21),(4,tb5)],[]⟩
def jS.cE_r:Ck:=Ck.of (T:=List (List UInt8)) jS.cE_s (fun ρ X Z=>jS.cE_ X.1 X.2.2.1 X.2.2.2.1 Z) (fun ρ X V Z=>Z 0 (Shape.inj jS.cE_s (X.1,X.2.1,V,X.2.2.2)))
def jS.c16 (gens:List (List UInt8))(out:List (List UInt8))(i:Int)(t8:Int)(t30:List (List UInt8))(Z:List (List UInt8)→Option ρ):Option ρ:=
 bnd (idx out t8) fun y=>
 bnd (idx gens i) fun y_1=>
 bnd (jn y y_1) fun y_2=>
 bnd (okIf (decide ((List.length t30+(1:Nat))*(16:Nat)≤(140737488355328:Nat))&&decide (List.length t30+(1:Nat)≤(140737488355328:Nat)))) fun y_3=>
 Z (t30++[y_2])
def jS.c16s:Shape:=⟨[(0,tb21),(2,tb21),(3,tb21),(4,tb5),(7,tb48),(8,tb5)],[(30,tb47)]⟩
def jS.c16r:Ck:=Ck.of (T:=List (List UInt8)) jS.c16s (fun ρ X Z=>jS.c16 X.1 X.2.2.1 X.2.2.2.1 (q4 X).1 (q4 X).2.1 Z) (fun ρ X V Z=>Z 0 (Shape.inj jS.c16s (X.1,X.2.1,X.2.2.1,X.2.2.2.1,(q4 X).1,V,())))
def jS.ck_ (gens:List (List UInt8))(out:List (List UInt8))(i:Int)(t8:Int)(t30:List (List UInt8))(Z:(Int×(List (List UInt8)))⊕(Int×(List (List UInt8)))→Option ρ):Option ρ:=
 br (decide (t8<(↑(List.length out):Int)))
 (bnd (jS.c16 gens out i t8 t30 some) fun y=>
 Z (.inl ((IntKind.i64.wrap (t8+(1:Int))),y)))
 (Z (.inr (t8,t30)))
def jS.ck_r:Ck:=Ck.ofLoop (S:=Int×(List (List UInt8))) (T:=Int×(List (List UInt8))) jS.c16s (fun X=>((q4 X).1,(q4 X).2.1)) (fun ρ X Q Z=>jS.ck_ X.1 X.2.2.1 X.2.2.2.1 Q.1 Q.2 Z) (fun ρ X V Z=>Z 6 (Shape.inj jS.c16s (X.1,X.2.1,X.2.2.1,X.2.2.2.1,V.1,V.2,())))
def jS.ca_ (gens:List (List UInt8))(out:List (List UInt8))(i:Int)(Z:((List (List UInt8))×Int)⊕((List (List UInt8))×Int)→Option ρ):Option ρ:=
 br (decide (i<(↑(List.length gens):Int)))
 (bnd (jS.cE_ gens out i some) fun y=>
 bnd (okIf (decide (((0:Nat)+List.length y)*(16:Nat)≤(140737488355328:Nat))&&decide ((0:Nat)+List.length y≤(140737488355328:Nat)))) fun y_1=>
 bnd (iter (fun s↦jS.ck_ gens y i s.1 s.2 some) ((0:Int),y)) fun y_2=>
 Z (.inl (y_2.2,(IntKind.i64.wrap (i+(1:Int))))))
 (Z (.inr (out,i)))
def jS.ca_r:Ck:=Ck.ofLoop (S:=(List (List UInt8))×Int) (T:=(List (List UInt8))×Int) jS.cE_s (fun X=>(X.2.2.1,X.2.2.2.1)) (fun ρ X Q Z=>jS.ca_ X.1 Q.1 Q.2 Z) (fun ρ X V Z=>Z 2 (Shape.inj jS.cE_s (X.1,X.2.1,V.1,V.2,())))
def jS (gens:List (List UInt8)):Option (List (List UInt8)):=
 bnd (iter (fun s↦jS.ca_ gens s.1 s.2 some) ([],(0:Int))) fun y=>
 some y.1
def jS.ce:Go.Ql.Callee:=⟨[(.sl .str)],[(.sl .str)],fun X=>jS X⟩
def jS.G:Env:=⟨51,tab,[(110,jn.ce)],[0,2,3,4,5,6,7,8,12,16,22,34],[30,5000049],[(16,[⟨[],[],[38,39,40,41,42,43,44,45,46,47],[47]⟩,⟨[],[],[37,39,42,43,44,45],[]⟩,⟨[],[],[37,38,42,43,44,45],[]⟩,⟨[1,2],[],[37,42,43,44,45],[]⟩,⟨[3,1,2],[],[37,42,43,44,45],[]⟩,⟨[],[],[37,38,39,40,41,43],[]⟩,⟨[],[],[37,38,39,40,41,42],[]⟩,⟨[5,6],[],[37,38,39,40,41],[]⟩,⟨[7,5,6],[],[37,38,39,40,41],[]⟩,⟨[4,3,1,2,8,7,5,6],[],[37],[]⟩,⟨[9,4,3,1,2,8,7,5,6],[47],[37],[]⟩,⟨[0,10,9,4,3,1,2,8,7,5,6],[30],[],[]⟩,⟨[11,0,10,9,4,3,1,2,8,7,5,6],[],[],[]⟩])],[(100003,jS.ca_r),(100014,jS.ck_r),(16,jS.c16r),(220502,jS.cE_r),(100008,jS.cc_r)],[],Jd⟩
theorem jS.p0:PcA jS.G Try.f74 0:=
 Jo (s:=jS.ca_r) (by kernel_rfl) (by kernel_rfl) (Jg (sh:=jS.cE_s) (I:=fun X Q=>(X.1,X.2.1,Q.1,Q.2,())) (fun X=>rfl) (fun ρ X Q Z=>(jo (je fun _=>(je fun _=>(je fun _=>jd))) jd)) (fun ρ X t k=>(by kernel_rfl)) (fun X s=>by kernel_rfl))
theorem jS.p1:PcA jS.G Try.f74 1:=
 kq (s:=jS.cE_r) (by kernel_rfl) (by kernel_rfl) (jC (sh:=jS.cE_s) (fun ρ X Z=>(jo (je fun _=>jd) jd)) (fun ρ X t k=>(by kernel_rfl)) (fun X=>by kernel_rfl))
theorem jS.p2:PcA jS.G Try.f74 2:=
 Jo (s:=jS.cc_r) (by kernel_rfl) (by kernel_rfl) (Jg (sh:=jS.cc_s) (I:=fun X Q=>(X.1,X.2.1,X.2.2.1,X.2.2.2.1,Q.1,Q.2,())) (fun X=>rfl) (fun ρ X Q Z=>(je fun _=>(jo (je fun _=>jd) jd))) (fun ρ X t k=>(by kernel_rfl)) (fun X s=>by kernel_rfl))
theorem jS.p3:PcA jS.G Try.f74 3:=
 Jo (s:=jS.ck_r) (by kernel_rfl) (by kernel_rfl) (Jg (sh:=jS.c16s) (I:=fun X Q=>(X.1,X.2.1,X.2.2.1,X.2.2.2.1,Q.1,Q.2,())) (fun X=>rfl) (fun ρ X Q Z=>(jo (je fun _=>jd) jd)) (fun ρ X t k=>(by kernel_rfl)) (fun X s=>by kernel_rfl))
theorem jS.p4:PcA jS.G Try.f74 4:=
 jB (s:=jS.c16r) (by kernel_rfl) (by kernel_rfl) (jC (sh:=jS.c16s) (fun ρ X Z=>(je fun _=>(je fun _=>(je fun _=>(je fun _=>jd))))) (fun ρ X t k=>(by kernel_rfl)) (fun X=>by kernel_rfl))
theorem jS.ok:CalleeOk Try.prog 74 jS.ce:=fn_ok (G:=jS.G) Jn mixed Try.func74 ⟨(jX jn.ok Je),jY,jN⟩ (m:=5) (by kernel_rfl) ⟨⟨⟨⟨⟨trivial,jS.p0⟩,jS.p1⟩,jS.p2⟩,jS.p3⟩,jS.p4⟩ (by kernel_rfl) (fun _=>by kernel_rfl)
def jl.c1 (c0:Int)(Z:Bool→Option ρ):Option ρ:=
 br (decide (c0<(1:Int)))
 (Z true)
 (Z (decide (c0>(12:Int))))
def jl.c1s:Shape:=⟨[(0,tb0),(1,tb1),(2,tb2)],[(1,tb3),(2,tb19)]⟩
def jl.c1x0:Shape:=⟨[(0,tb0),(1,tb1),(2,tb2),(22,tb7)],[(1,tb3),(2,tb19)]⟩
def jl.c1r:Ck:=Ck.of (T:=Bool) jl.c1s (fun ρ X Z=>jl.c1 X.2.1 Z) (fun ρ X V Z=>Z 0 (Shape.inj jl.c1x0 (X.1,V,X.2)))
def jl.c8 (i:Int)(c0:Int)(c1:List (List UInt8))(Z:Bool×Bool×(List UInt8)→Option ρ):Option ρ:=
 bnd (idx c1 i) fun y=>
 bnd (jM y c0) fun y_1=>
 Z (y_1.2,y_1.1.1,y_1.1.2)
def jl.c8s:Shape:=⟨[(0,tb0),(1,tb1),(2,tb2),(3,tb5)],[(1,tb3),(2,tb19)]⟩
def jl.c8x0:Shape:=⟨[(0,tb0),(1,tb1),(2,tb2),(3,tb5),(5,tb7)],[(1,tb3),(2,tb19),(4,tb45)]⟩
def jl.c8r:Ck:=Ck.of (T:=Bool×Bool×(List UInt8)) jl.c8s (fun ρ X Z=>jl.c8 X.2.1 X.2.2.1 X.2.2.2.1 Z) (fun ρ X V Z=>Z 0 (Shape.inj jl.c8x0 (X.1,X.2.1,V.1,X.2.2.1,X.2.2.2.1,(q4 X).1,(q4 X).2.1,V.2.1,V.2.2,())))
def jl.ch_ (i:Int)(c0:Int)(c1:List (List UInt8))(Z:Int⊕((Int×Int×Int)⊕Int)→Option ρ):Option ρ:=
 br (decide (i<(↑(List.length c1):Int)))
 (bnd (jl.c8 i c0 c1 some) fun y=>
 br (!y.1)
 (bnd (ki (33:Int) i) fun y_1=>
 Z (.inr (.inl (i,y_1.1,y_1.2))))
 (Z (.inl (IntKind.i64.wrap (i+(1:Int))))))
 (Z (.inr (.inr i)))
def jl.ch_r:Ck:=Ck.ofLoop (S:=Int) (T:=(Int×Int×Int)⊕Int) jl.c8s (fun X=>X.2.1) (fun ρ X Q Z=>jl.ch_ Q X.2.2.1 X.2.2.2.1 Z) (fun ρ X V Z=>sel V (fun V=>Z 1 (Shape.inj jl.c8s (X.1,V.1,X.2.2.1,X.2.2.2.1,V.2.1,V.2.2,()))) (fun V=>Z 2 (Shape.inj jl.c8s (X.1,V,X.2.2))))
def jl.c18 (l:List (List UInt8))(i_1:Int)(t8:Int)(Z:Bool→Option ρ):Option ρ:=
 bnd (idx l i_1) fun y=>
 bnd (idx l t8) fun y_1=>
 bnd (Jk y y_1) fun y_2=>
 Z y_2
def jl.c18s:Shape:=⟨[(0,tb0),(1,tb1),(2,tb2),(3,tb5),(6,tb21),(7,tb5),(8,tb5)],[(1,tb3),(2,tb19)]⟩
def jl.c18x0:Shape:=⟨[(0,tb0),(1,tb1),(2,tb2),(3,tb5),(6,tb21),(7,tb5),(8,tb5),(75,tb7)],[(1,tb3),(2,tb19)]⟩
def jl.c18r:Ck:=Ck.of (T:=Bool) jl.c18s (fun ρ X Z=>jl.c18 X.2.2.1 X.2.2.2.1 (q4 X).1 Z) (fun ρ X V Z=>Z 0 (Shape.inj jl.c18x0 (X.1,X.2.1,X.2.2.1,X.2.2.2.1,(q4 X).1,V,(q4 X).2)))
def jl.cl_ (l:List (List UInt8))(i_1:Int)(t8:Int)(Z:Int⊕((Int×Int×Int)⊕Int)→Option ρ):Option ρ:=
 br (decide (t8<i_1))
 (bnd (jl.c18 l i_1 t8 some) fun y=>
 br y
 (bnd (ki (34:Int) i_1) fun y_1=>
 Z (.inr (.inl (t8,y_1.1,y_1.2))))
 (Z (.inl (IntKind.i64.wrap (t8+(1:Int))))))
 (Z (.inr (.inr t8)))
def jl.cl_r:Ck:=Ck.ofLoop (S:=Int) (T:=(Int×Int×Int)⊕Int) jl.c18s (fun X=>(q4 X).1) (fun ρ X Q Z=>jl.cl_ X.2.2.1 X.2.2.2.1 Q Z) (fun ρ X V Z=>sel V (fun V=>Z 1 (Shape.inj jl.c18s (X.1,X.2.1,X.2.2.1,X.2.2.2.1,V.1,(q4 X).2.1,(q4 X).2.2.1,V.2.1,V.2.2,()))) (fun V=>Z 6 (Shape.inj jl.c18s (X.1,X.2.1,X.2.2.1,X.2.2.2.1,V,(q4 X).2))))
def jl.cf_ (l:List (List UInt8))(i_1:Int)(Z:Int⊕((Int×Int×Int)⊕Int)→Option ρ):Option ρ:=
 br (decide (i_1<(↑(List.length l):Int)))
 (bnd (iter (fun s↦jl.cl_ l i_1 s some) (0:Int)) fun y=>
 sel y
 (fun u=>Z (.inr (.inl (i_1,u.2.1,u.2.2))))
 (fun v=>Z (.inl (IntKind.i64.wrap (i_1+(1:Int))))))
 (Z (.inr (.inr i_1)))
def jl.cf_s:Shape:=⟨[(0,tb0),(1,tb1),(2,tb2),(3,tb5),(6,tb21),(7,tb5)],[(1,tb3),(2,tb19)]⟩
def jl.cf_r:Ck:=Ck.ofLoop (S:=Int) (T:=(Int×Int×Int)⊕Int) jl.cf_s (fun X=>X.2.2.2.1) (fun ρ X Q Z=>jl.cf_ X.2.2.1 Q Z) (fun ρ X V Z=>sel V (fun V=>Z 1 (Shape.inj jl.cf_s (X.1,X.2.1,X.2.2.1,V.1,(q4 X).1,(q4 X).2.1,V.2.1,V.2.2,()))) (fun V=>Z 4 (Shape.inj jl.cf_s (X.1,X.2.1,X.2.2.1,V,(q4 X)))))
def jl.cO_ (one:List UInt8)(i_2:Int)(c0:Int)(Z:((List UInt8)×Int)⊕((List UInt8)×Int)→Option ρ):Option ρ:=
 br (decide (i_2<c0))
 (bnd (okIf (decide (List.length one+List.length (Array.toList (ByteArray.data (ByteArray.mk #[73])))≤(9223372036854775807:Nat)))) fun y=>
 Z (.inl ((one++Array.toList (ByteArray.data (ByteArray.mk #[73]))),(IntKind.i64.wrap (i_2+(1:Int))))))
 (Z (.inr (one,i_2)))
def jl.cO_s:Shape:=⟨[(0,tb0),(1,tb1),(2,tb2),(3,tb5),(6,tb21),(7,tb5),(9,tb4),(10,tb5)],[(1,tb3),(2,tb19)]⟩
def jl.cO_r:Ck:=Ck.ofLoop (S:=(List UInt8)×Int) (T:=(List UInt8)×Int) jl.cO_s (fun X=>((q4 X).1,(q4 X).2.1)) (fun ρ X Q Z=>jl.cO_ Q.1 Q.2 (q4 X).2.2.1 Z) (fun ρ X V Z=>Z 8 (Shape.inj jl.cO_s (X.1,X.2.1,X.2.2.1,X.2.2.2.1,V.1,V.2,(q4 X).2.2)))
def jl.c33 (l:List (List UInt8))(i_3:Int)(known:Bool)(g:List (List UInt8))(t14:Int)(Z:Bool→Option ρ):Option ρ:=
 br known
 (Z true)
 (bnd (idx g t14) fun y=>
 bnd (idx l i_3) fun y_1=>
 Z (y==y_1))
def jl.c33s:Shape:=⟨[(0,tb0),(1,tb1),(2,tb2),(3,tb5),(6,tb21),(7,tb5),(9,tb4),(10,tb5),(11,tb5),(12,tb7),(13,tb21),(14,tb5)],[(1,tb3),(2,tb19)]⟩
def jl.c33r:Ck:=Ck.of (T:=Bool) jl.c33s (fun ρ X Z=>jl.c33 X.2.2.1 (q4 X).2.2.1 (q4 X).2.2.2.1 (q8 X).1 (q8 X).2.1 Z) (fun ρ X V Z=>Z 0 (Shape.inj jl.c33s (X.1,X.2.1,X.2.2.1,X.2.2.2.1,(q4 X).1,(q4 X).2.1,(q4 X).2.2.1,V,(q8 X))))
def jl.cP_ (l:List (List UInt8))(i_3:Int)(known:Bool)(g:List (List UInt8))(t14:Int)(Z:(Bool×Int)⊕(Bool×Int)→Option ρ):Option ρ:=
 br (decide (t14<(↑(List.length g):Int)))
 (bnd (jl.c33 l i_3 known g t14 some) fun y=>
 Z (.inl (y,(IntKind.i64.wrap (t14+(1:Int))))))
 (Z (.inr (known,t14)))
def jl.cP_r:Ck:=Ck.ofLoop (S:=Bool×Int) (T:=Bool×Int) jl.c33s (fun X=>((q4 X).2.2.2.1,(q8 X).2.1)) (fun ρ X Q Z=>jl.cP_ X.2.2.1 (q4 X).2.2.1 Q.1 (q8 X).1 Q.2 Z) (fun ρ X V Z=>Z 12 (Shape.inj jl.c33s (X.1,X.2.1,X.2.2.1,X.2.2.2.1,(q4 X).1,(q4 X).2.1,(q4 X).2.2.1,V.1,(q8 X).1,V.2,(q8 X).2.2)))
def jl.ct_ (l:List (List UInt8))(one:List UInt8)(i_3:Int)(Z:Int⊕((Int×Int×Int)⊕Int)→Option ρ):Option ρ:=
 br (decide (i_3<(↑(List.length l):Int)))
 (bnd (idx l i_3) fun y=>
 bnd (okIf (decide ((0:Int)≤i_3)&&decide (i_3≤(↑(List.length l):Int)))) fun y_1=>
 bnd (jS (List.take (Int.toNat i_3) l)) fun y_2=>
 bnd (iter (fun s↦jl.cP_ l i_3 s.1 y_2 s.2 some) (y==one,(0:Int))) fun y_3=>
 br y_3.1
 (bnd (ki (35:Int) i_3) fun y_4=>
 Z (.inr (.inl (i_3,y_4.1,y_4.2))))
 (Z (.inl (IntKind.i64.wrap (i_3+(1:Int))))))
 (Z (.inr (.inr i_3)))
def jl.ct_s:Shape:=⟨[(0,tb0),(1,tb1),(2,tb2),(3,tb5),(6,tb21),(7,tb5),(9,tb4),(10,tb5),(11,tb5)],[(1,tb3),(2,tb19)]⟩
def jl.ct_r:Ck:=Ck.ofLoop (S:=Int) (T:=(Int×Int×Int)⊕Int) jl.ct_s (fun X=>(q4 X).2.2.1) (fun ρ X Q Z=>jl.ct_ X.2.2.1 (q4 X).1 Q Z) (fun ρ X V Z=>sel V (fun V=>Z 1 (Shape.inj jl.ct_s (X.1,X.2.1,X.2.2.1,X.2.2.2.1,(q4 X).1,(q4 X).2.1,V.1,(q4 X).2.2.2.1,(q8 X).1,V.2.1,V.2.2,()))) (fun V=>Z 10 (Shape.inj jl.ct_s (X.1,X.2.1,X.2.2.1,X.2.2.2.1,(q4 X).1,(q4 X).2.1,V,(q4 X).2.2.2))))
def jl (c:Int×(List (List UInt8))):Option (Int×Int):=
 bnd (jl.c1 c.1 some) fun y=>
 br y
 (bnd (ki (6:Int) (0:Int)) fun y_1=>
 some (y_1.1,y_1.2))
 (br (decide ((↑(List.length c.2):Int)>c.1))
 (bnd (ki (21:Int) (0:Int)) fun y_2=>
 some (y_2.1,y_2.2))
 (bnd (iter (fun s↦jl.ch_ s c.1 c.2 some) (0:Int)) fun y_3=>
 sel y_3
 (fun u=>some (u.2.1,u.2.2))
 (fun v=>bnd (ku c.2) fun y_4=>
 bnd (iter (fun s↦jl.cf_ y_4 s some) (0:Int)) fun y_5=>
 sel y_5
 (fun u_1=>some (u_1.2.1,u_1.2.2))
 (fun v_1=>bnd (iter (fun s↦jl.cO_ s.1 s.2 c.1 some) (Array.toList (ByteArray.data (ByteArray.mk #[])),(0:Int))) fun y6=>
 bnd (iter (fun s↦jl.ct_ y_4 y6.1 s some) (0:Int)) fun y7=>
 sel y7
 (fun u_2=>some (u_2.2.1,u_2.2.2))
 (fun v_2=>some ((0:Int),(0:Int)))))))
def jl.ce:Go.Ql.Callee:=⟨[(.st (.pair (.int .i64) (.sl .str)))],[(.st (.pair (.int .i64) (.int .i64)))],fun X=>jl X⟩
def jl.G:Env:=⟨124,tab,[(44,ki.ce),(15,jM.ce),(72,ku.ce),(73,Jk.ce),(74,jS.ce)],[0,1,2,3,5,6,7,8,9,10,11,12,13,14,22,29,35,50,59,64,75,81,89,105,120],[],[(33,[⟨[],[],[],[]⟩,⟨[0],[],[],[]⟩,⟨[1,0],[],[111,114,115,116,117],[]⟩,⟨[1,0],[],[110,114,115,116,117],[]⟩,⟨[2,1,0,3],[],[114,115,116,117],[]⟩,⟨[4,2,1,0,3],[],[114,115,116,117],[]⟩,⟨[1,0],[],[110,111,112,113,115],[]⟩,⟨[1,0],[],[110,111,112,113,114],[]⟩,⟨[6,1,0,7],[],[110,111,112,113],[]⟩,⟨[8,6,1,0,7],[],[110,111,112,113],[]⟩,⟨[5,4,2,1,0,3,9,8,6,7],[],[],[]⟩,⟨[1,0,10,5,4,2,3,9,8,6,7],[],[],[]⟩,⟨[11,1,0,10,5,4,2,3,9,8,6,7],[],[],[]⟩]),
 (18,[⟨[],[],[68,71,72,73,74],[]⟩,⟨[],[],[67,71,72,73,74],[]⟩,⟨[0,1],[],[71,72,73,74],[]⟩,⟨[2,0,1],[],[71,72,73,74],[]⟩,⟨[],[],[67,68,69,70,72],[]⟩,⟨[],[],[67,68,69,70,71],[]⟩,⟨[4,5],[],[67,68,69,70],[]⟩,⟨[6,4,5],[],[67,68,69,70],[]⟩,⟨[3,2,0,1,7,6,4,5],[],[],[]⟩]),
 (8,[⟨[],[],[41,44,45,4],[4]⟩,⟨[0],[],[41,44,45,4],[4]⟩,⟨[],[],[39,40,44,45,4],[4]⟩,⟨[1,0,2],[],[44,45,4],[4]⟩,⟨[3,1,0,2],[],[44,45,4],[4]⟩,⟨[],[],[39,40,41,42,43,4],[4]⟩,⟨[5],[],[39,40,41,42,43,4],[4]⟩,⟨[4,3,1,0,2,6,5],[],[4],[4]⟩,⟨[7,4,3,1,0,2,6,5],[],[4],[4]⟩,⟨[8,7,4,3,1,0,2,6,5],[],[48,4],[4]⟩,⟨[8,7,4,3,1,0,2,6,5],[],[47,4],[4]⟩,⟨[],[4],[39,40,41,42,43,44,45,46,38,47,48],[]⟩,⟨[11,9,8,7,4,3,1,0,2,6,5],[4],[48],[]⟩,⟨[10,8,7,4,3,1,0,2,6,5,12,11,9],[],[],[]⟩])],[(100026,jl.ct_r),(100031,jl.cP_r),(33,jl.c33r),(100022,jl.cO_r),(100013,jl.cf_r),(100016,jl.cl_r),(18,jl.c18r),(100006,jl.ch_r),(8,jl.c8r),(1,jl.c1r)],[],Jd⟩
theorem jl.p0:PcA jl.G Try.f29 0:=
 jB (s:=jl.c1r) (by kernel_rfl) (by kernel_rfl) (jC (sh:=jl.c1s) (fun ρ X Z=>(jo jd jd)) (fun ρ X t k=>(by kernel_rfl)) (fun X=>by kernel_rfl))
theorem jl.p1:PcA jl.G Try.f29 1:=
 Jo (s:=jl.ch_r) (by kernel_rfl) (by kernel_rfl) (Jg (sh:=jl.c8s) (I:=fun X Q=>(X.1,Q,X.2.2)) (fun X=>rfl) (fun ρ X Q Z=>(jo (je fun _=>(jo (je fun _=>jd) jd)) jd)) (fun ρ X t k=>(JU (fun _=>(by kernel_rfl)) (fun _=>(by kernel_rfl)))) (fun X s=>by kernel_rfl))
theorem jl.p2:PcA jl.G Try.f29 2:=
 jB (s:=jl.c8r) (by kernel_rfl) (by kernel_rfl) (jC (sh:=jl.c8s) (fun ρ X Z=>(je fun _=>(je fun _=>jd))) (fun ρ X t k=>(by kernel_rfl)) (fun X=>by kernel_rfl))
theorem jl.p3:PcA jl.G Try.f29 3:=
 Jo (s:=jl.cf_r) (by kernel_rfl) (by kernel_rfl) (Jg (sh:=jl.cf_s) (I:=fun X Q=>(X.1,X.2.1,X.2.2.1,Q,(q4 X))) (fun X=>rfl) (fun ρ X Q Z=>(jo (je fun _=>(JU (fun _=>jd) (fun _=>jd))) jd)) (fun ρ X t k=>(JU (fun _=>(by kernel_rfl)) (fun _=>(by kernel_rfl)))) (fun X s=>by kernel_rfl))
theorem jl.p4:PcA jl.G Try.f29 4:=
 Jo (s:=jl.cl_r) (by kernel_rfl) (by kernel_rfl) (Jg (sh:=jl.c18s) (I:=fun X Q=>(X.1,X.2.1,X.2.2.1,X.2.2.2.1,Q,(q4 X).2)) (fun X=>rfl) (fun ρ X Q Z=>(jo (je fun _=>(jo (je fun _=>jd) jd)) jd)) (fun ρ X t k=>(JU (fun _=>(by kernel_rfl)) (fun _=>(by kernel_rfl)))) (fun X s=>by kernel_rfl))
theorem jl.p5:PcA jl.G Try.f29 5:=
 jB (s:=jl.c18r) (by kernel_rfl) (by kernel_rfl) (jC (sh:=jl.c18s) (fun ρ X Z=>(je fun _=>(je fun _=>(je fun _=>jd)))) (fun ρ X t k=>(by kernel_rfl)) (fun X=>by kernel_rfl))
theorem jl.p6:PcA jl.G Try.f29 6:=
 Jo (s:=jl.cO_r) (by kernel_rfl) (by kernel_rfl) (Jg (sh:=jl.cO_s) (I:=fun X Q=>(X.1,X.2.1,X.2.2.1,X.2.2.2.1,Q.1,Q.2,(q4 X).2.2)) (fun X=>rfl) (fun ρ X Q Z=>(jo (je fun _=>jd) jd)) (fun ρ X t k=>(by kernel_rfl)) (fun X s=>by kernel_rfl))
theorem jl.p7:PcA jl.G Try.f29 7:=
 Jo (s:=jl.ct_r) (by kernel_rfl) (by kernel_rfl) (Jg (sh:=jl.ct_s) (I:=fun X Q=>(X.1,X.2.1,X.2.2.1,X.2.2.2.1,(q4 X).1,(q4 X).2.1,Q,(q4 X).2.2.2)) (fun X=>rfl) (fun ρ X Q Z=>(jo (je fun _=>(je fun _=>(je fun _=>(je fun _=>(jo (je fun _=>jd) jd))))) jd)) (fun ρ X t k=>(JU (fun _=>(by kernel_rfl)) (fun _=>(by kernel_rfl)))) (fun X s=>by kernel_rfl))
theorem jl.p8:PcA jl.G Try.f29 8:=
 Jo (s:=jl.cP_r) (by kernel_rfl) (by kernel_rfl) (Jg (sh:=jl.c33s) (I:=fun X Q=>(X.1,X.2.1,X.2.2.1,X.2.2.2.1,(q4 X).1,(q4 X).2.1,(q4 X).2.2.1,Q.1,(q8 X).1,Q.2,(q8 X).2.2)) (fun X=>rfl) (fun ρ X Q Z=>(jo (je fun _=>jd) jd)) (fun ρ X t k=>(by kernel_rfl)) (fun X s=>by kernel_rfl))
theorem jl.p9:PcA jl.G Try.f29 9:=
 jB (s:=jl.c33r) (by kernel_rfl) (by kernel_rfl) (jC (sh:=jl.c33s) (fun ρ X Z=>(jo jd (je fun _=>(je fun _=>jd)))) (fun ρ X t k=>(by kernel_rfl)) (fun X=>by kernel_rfl))
theorem jl.ok:CalleeOk Try.prog 29 jl.ce:=fn_ok (G:=jl.G) Jn mixed Try.func29 ⟨(jX ki.ok (jX jM.ok (jX ku.ok (jX Jk.ok (jX jS.ok Je))))),jY,jN⟩ (m:=10) (by kernel_rfl) ⟨⟨⟨⟨⟨⟨⟨⟨⟨⟨trivial,jl.p0⟩,jl.p1⟩,jl.p2⟩,jl.p3⟩,jl.p4⟩,jl.p5⟩,jl.p6⟩,jl.p7⟩,jl.p8⟩,jl.p9⟩ (by kernel_rfl) (fun _=>by kernel_rfl)
abbrev tb49:SD:=.one (.own 10 0)
abbrev tb50:SO:=.arr 0 false 3 (.int .i64)
def Jf.cL_ (t11:List YP)(t13:Int)(p0:Int)(p1:Int)(p2:Bool)(t10:List Int)(Z:List Int→Option ρ):Option ρ:=
 bnd (idx t11 t13) fun y=>
 bnd (Ju (y.1,y.2.1,y.2.2) (p0,p1,p2)) fun y_1=>
 br y_1
 (bnd (inR (List.length t10) t13) fun y_2=>
 bnd (idx t10 t13) fun y_3=>
 Z (List.set t10 (Int.toNat t13) (1:Int)))
 (Z t10)
def Jf.cL_s:Shape:=⟨[(0,tb17),(1,tb11),(3,tb12),(4,tb36),(5,tb49),(11,tb17),(12,tb5),(13,tb5)],[(3,tb9),(10,tb50)]⟩
def Jf.cL_r:Ck:=Ck.of (T:=List Int) Jf.cL_s (fun ρ X Z=>Jf.cL_ X.2.2.2.1 (q4 X).2.1 (q4 X).2.2.1 (q4 X).2.2.2.1 (q8 X).1 (q8 X).2.1 Z) (fun ρ X V Z=>Z 0 (Shape.inj Jf.cL_s (X.1,X.2.1,X.2.2.1,X.2.2.2.1,(q4 X).1,(q4 X).2.1,(q4 X).2.2.1,(q4 X).2.2.2.1,(q8 X).1,V,())))
def Jf.ca_ (t11:List YP)(t12:Int)(t13:Int)(p0:Int)(p1:Int)(p2:Bool)(t10:List Int)(Z:(Int×(List Int))⊕(Int×(List Int))→Option ρ):Option ρ:=
 br (decide (t13<t12))
 (bnd (Jf.cL_ t11 t13 p0 p1 p2 t10 some) fun y=>
 Z (.inl ((IntKind.i64.wrap (t13+(1:Int))),y)))
 (Z (.inr (t13,t10)))
def Jf.ca_r:Ck:=Ck.ofLoop (S:=Int×(List Int)) (T:=Int×(List Int)) Jf.cL_s (fun X=>((q4 X).2.1,(q8 X).2.1)) (fun ρ X Q Z=>Jf.ca_ X.2.2.2.1 (q4 X).1 Q.1 (q4 X).2.2.1 (q4 X).2.2.2.1 (q8 X).1 Q.2 Z) (fun ρ X V Z=>Z 2 (Shape.inj Jf.cL_s (X.1,X.2.1,X.2.2.1,X.2.2.2.1,(q4 X).1,V.1,(q4 X).2.2.1,(q4 X).2.2.2.1,(q8 X).1,V.2,())))
def Jf (l:List YP) (p:YP):Option (List Int):=
 bnd (okIf (decide ((0:Int)≤(↑(List.length l):Int))&&decide ((↑(List.length l):Int)≤(↑(List.length l):Int))&&decide ((↑(List.length l):Int)*(↑(8:Nat):Int)≤(140737488355328:Int))&&decide ((↑(List.length l):Int)≤(140737488355328:Int)))) fun y=>
 bnd (iter (fun s↦Jf.ca_ l (↑(List.length l):Int) s.1 p.1 p.2.1 p.2.2 s.2 some) ((0:Int),List.replicate (Int.toNat (↑(List.length l):Int)) (0:Int))) fun y_1=>
 some y_1.2
def Jf.ce:Go.Ql.Callee:=⟨[(.sl (.st (.pair (.int .u64) (.pair (.int .u64) .bool)))),(.st (.pair (.int .u64) (.pair (.int .u64) .bool)))],[(.sl (.int .i64))],fun X=>Jf X.1 X.2⟩
def Jf.G:Env:=⟨26,tab,[(107,Ju.ce)],[0,1,3,4,5,6,7,11,12,13,14,20],[10],[],[(100003,Jf.ca_r),(216392,Jf.cL_r)],[],Jd⟩
theorem Jf.p0:PcA Jf.G Try.f111 0:=
 Jo (s:=Jf.ca_r) (by kernel_rfl) (by kernel_rfl) (Jg (sh:=Jf.cL_s) (I:=fun X Q=>(X.1,X.2.1,X.2.2.1,X.2.2.2.1,(q4 X).1,Q.1,(q4 X).2.2.1,(q4 X).2.2.2.1,(q8 X).1,Q.2,())) (fun X=>rfl) (fun ρ X Q Z=>(jo (je fun _=>jd) jd)) (fun ρ X t k=>(by kernel_rfl)) (fun X s=>by kernel_rfl))
theorem Jf.p1:PcA Jf.G Try.f111 1:=
 kq (s:=Jf.cL_r) (by kernel_rfl) (by kernel_rfl) (jC (sh:=Jf.cL_s) (fun ρ X Z=>(je fun _=>(je fun _=>(jo (je fun _=>(je fun _=>jd)) jd)))) (fun ρ X t k=>(by kernel_rfl)) (fun X=>by kernel_rfl))
theorem Jf.ok:CalleeOk Try.prog 111 Jf.ce:=fn_ok (G:=Jf.G) Jn mixed Try.func111 ⟨(jX Ju.ok Je),jY,jN⟩ (m:=2) (by kernel_rfl) ⟨⟨trivial,Jf.p0⟩,Jf.p1⟩ (by kernel_rfl) (fun _=>by kernel_rfl)
def jZ.c3  (Z:Unit→Option ρ):Option ρ:=
 Z ()
def jZ.c3s:Shape:=⟨[(0,tb0),(1,tb4),(2,tb2),(4,tb36),(5,tb39),(6,tb17),(7,tb42)],[(2,tb3),(5,tb19),(7,tb19)]⟩
def jZ.c3r:Ck:=Ck.of (T:=Unit) jZ.c3s (fun ρ X Z=>jZ.c3  Z) (fun ρ X V Z=>Z 0 (Shape.inj jZ.c3s (X.1,X.2.1,[],X.2.2.2.1,(q4 X).1,(q4 X).2.1,(q8 X).1,(q8 X).2.1,(q8 X))))
def jZ.c7 (l:List YP)(p0:Int)(p1:Int)(p2:Bool)(Z:List Int→Option ρ):Option ρ:=
 bnd (Jf l (p0,p1,p2)) fun y=>
 Z y
def jZ.c7s:Shape:=⟨[(0,tb0),(1,tb4),(2,tb2),(4,tb36),(5,tb39),(6,tb17),(7,tb42),(8,tb27),(9,tb7)],[(2,tb3),(5,tb19),(7,tb19),(8,tb9)]⟩
def jZ.c7r:Ck:=Ck.of (T:=List Int) jZ.c7s (fun ρ X Z=>jZ.c7 X.2.2.2.1 (q8 X).2.2.2.1 (q4 (q8 X)).1 (q4 (q8 X)).2.1 Z) (fun ρ X V Z=>Z 0 (Shape.inj jZ.c7s (X.1,X.2.1,V,X.2.2.2.1,(q4 X).1,(q4 X).2.1,(q4 X).2.2.1,(q8 X).2.1,(q8 X).2.2.1,(q8 X).2)))
def jZ (c:Int×(List (List UInt8))) (pauli:List UInt8):Option ((List Int)×(Int×Int)):=
 bnd (jy (c.1,c.2)) fun y=>
 br (y.2.1 !=(0:Int))
 (bnd (jZ.c3 some) fun y_1=>
 some ([],y.2.1,y.2.2))
 (bnd (JP pauli c.1) fun y_2=>
 br (!y_2.2)
 (some ([],(33:Int),(0:Int)))
 (bnd (jZ.c7 y.1 y_2.1.1 y_2.1.2.1 y_2.1.2.2 some) fun y_3=>
 some (y_3,y.2.1,y.2.2)))
def jZ.ce:Go.Ql.Callee:=⟨[(.st (.pair (.int .i64) (.sl .str))),.str],[(.sl (.int .i64)),(.st (.pair (.int .i64) (.int .i64)))],fun X=>jZ X.1 X.2⟩
def jZ.G:Env:=⟨33,tab,[(70,jy.ce),(106,JP.ce),(111,Jf.ce)],[0,1,2,4,5,6,7,8,9,17,27],[],[(7,[⟨[],[],[30,32],[]⟩,⟨[],[],[29,32],[]⟩,⟨[0,1],[],[32],[]⟩,⟨[],[],[29,30,31,4],[]⟩,⟨[2,0,1],[],[32],[]⟩,⟨[3,4,2,0,1],[5],[],[]⟩]),
 (3,[⟨[],[],[4],[4]⟩,⟨[],[4],[18],[]⟩,⟨[0,1],[5],[],[]⟩])],[(7,jZ.c7r),(3,jZ.c3r)],[],Jd⟩
theorem jZ.p0:PcA jZ.G Try.f75 0:=
 jB (s:=jZ.c3r) (by kernel_rfl) (by kernel_rfl) (jC (sh:=jZ.c3s) (fun ρ X Z=>jd) (fun ρ X t k=>(by kernel_rfl)) (fun X=>by kernel_rfl))
theorem jZ.p1:PcA jZ.G Try.f75 1:=
 jB (s:=jZ.c7r) (by kernel_rfl) (by kernel_rfl) (jC (sh:=jZ.c7s) (fun ρ X Z=>(je fun _=>jd)) (fun ρ X t k=>(by kernel_rfl)) (fun X=>by kernel_rfl))
theorem jZ.ok:CalleeOk Try.prog 75 jZ.ce:=fn_ok (G:=jZ.G) Jn mixed Try.func75 ⟨(jX jy.ok (jX JP.ok (jX Jf.ok Je))),jY,jN⟩ (m:=2) (by kernel_rfl) ⟨⟨trivial,jZ.p0⟩,jZ.p1⟩ (by kernel_rfl) (fun _=>by kernel_rfl)
def Jw.ca_ (n:Int)(t6:List Int)(t7:Int)(t8:Int)(Z:(Int×Int)⊕(Int×Int)→Option ρ):Option ρ:=
 br (decide (t8<t7))
 (bnd (idx t6 t8) fun y=>
 bnd (okIf (decide ((0:Int)≤t8))) fun y_1=>
 Z (.inl ((ibits BinOp.or IntKind.i64 n (IntKind.i64.wrap (y*(2:Int)^Min.min (Int.toNat t8) (64:Nat)))),(IntKind.i64.wrap (t8+(1:Int))))))
 (Z (.inr (n,t8)))
def Jw.ca_s:Shape:=⟨[(0,tb36),(2,tb5),(3,tb5),(6,tb36),(7,tb5),(8,tb5)],[]⟩
def Jw.ca_r:Ck:=Ck.ofLoop (S:=Int×Int) (T:=Int×Int) Jw.ca_s (fun X=>(X.2.2.1,(q4 X).2.1)) (fun ρ X Q Z=>Jw.ca_ Q.1 X.2.2.2.1 (q4 X).1 Q.2 Z) (fun ρ X V Z=>Z 2 (Shape.inj Jw.ca_s (X.1,X.2.1,V.1,X.2.2.2.1,(q4 X).1,V.2,())))
def Jw (s:List Int):Option Int:=
 bnd (iter (fun s_1↦Jw.ca_ s_1.1 s (↑(List.length s):Int) s_1.2 some) ((0:Int),(0:Int))) fun y=>
 some y.1
def Jw.ce:Go.Ql.Callee:=⟨[(.sl (.int .i64))],[(.int .i64)],fun X=>Jw X⟩
def Jw.G:Env:=⟨20,tab,[],[0,2,3,4,5,6,7,8,9],[],[],[(100003,Jw.ca_r)],[],Jd⟩
theorem Jw.p0:PcA Jw.G Try.f114 0:=
 Jo (s:=Jw.ca_r) (by kernel_rfl) (by kernel_rfl) (Jg (sh:=Jw.ca_s) (I:=fun X Q=>(X.1,X.2.1,Q.1,X.2.2.2.1,(q4 X).1,Q.2,())) (fun X=>rfl) (fun ρ X Q Z=>(jo (je fun _=>(je fun _=>jd)) jd)) (fun ρ X t k=>(by kernel_rfl)) (fun X s=>by kernel_rfl))
theorem Jw.ok:CalleeOk Try.prog 114 Jw.ce:=fn_ok (G:=Jw.G) Jn mixed Try.func114 ⟨Je,jY,jN⟩ (m:=1) (by kernel_rfl) ⟨trivial,Jw.p0⟩ (by kernel_rfl) (fun _=>by kernel_rfl)
abbrev tb51:SD:=.one (.ref 1000200 0)
abbrev tb52:SD:=.one (.ref 1000300 0)
abbrev tb53:SD:=.one (.ref 1000400 0)
abbrev tb54:SO:=.box [.val (.sl (.st (.pair (.int .u64) (.pair (.int .u64) .bool))))]
abbrev tb55:SO:=.box [.own 2000300 0]
abbrev tb56:SO:=.box [.own 2000400 0]
def Js.pre:Shape:=⟨[(0,tb11),(1,tb5),(2,tb51),(3,tb52),(4,tb53)],[(1000200,tb54),(1000300,tb55),(1000400,tb56),(2000300,tb50),(2000400,tb22)]⟩
def Js.post:Shape:=⟨[],[(1000200,tb54),(1000300,tb55),(1000400,tb56),(2000300,tb50),(2000400,tb22)]⟩
def Js.c3 (s:Int)(uj:List Int)(uk:List YP)(Z:Unit→Option ρ):Option ρ:=
 bnd (inR (List.length uk) s) fun y=>
 bnd (idx uk s) fun y_1=>
 bnd (inR (List.length uj) s) fun y_2=>
 bnd (idx uj s) fun y_3=>
 Z ()
def Js.c3s:Shape:=⟨[(0,tb11),(1,tb5),(2,tb51),(3,tb52),(4,tb53),(5,tb39),(7,tb5)],[(5,tb9),(1000200,tb54),(1000300,tb55),(1000400,tb56),(2000300,tb50),(2000400,tb22)]⟩
def Js.c3r:Ck:=Ck.of (T:=Unit) Js.c3s (fun ρ X Z=>Js.c3 X.2.2.1 (q4 X).2.2.2.1 (q8 X).1 Z) (fun ρ X V Z=>Z 0 (Shape.inj Js.c3s (X.1,X.2.1,X.2.2.1,X.2.2.2.1,(q4 X).1,(q4 X).2.1,(q4 X).2.2.1,(List.set (q4 X).2.2.2.1 (Int.toNat X.2.2.1) X.2.1),(List.set (q8 X).1 (Int.toNat X.2.2.1) (X.2.2.2.1,(q4 X).1,(q4 X).2.1)),())))
def Js (p:YP) (weight:Int) (ub:List YP) (uj:List Int) (uk:List YP):Option ((List YP)×(List Int)×(List YP)×Unit):=
 bnd (Jf ub (p.1,p.2.1,p.2.2)) fun y=>
 bnd (Jw y) fun y_1=>
 bnd (inR (List.length uj) y_1) fun y_2=>
 bnd (idx uj y_1) fun y_3=>
 br (decide (weight<y_3))
 (bnd (Js.c3 y_1 uj uk some) fun y_4=>
 some (ub,List.set uj (Int.toNat y_1) weight,List.set uk (Int.toNat y_1) (p.1,p.2.1,p.2.2),()))
 (some (ub,uj,uk,()))
def Js.mc:MCallee:=⟨134,Js.pre,Js.post,fun X=>Js X.1 X.2.1 X.2.2.1 X.2.2.2.1 (q4 X).1⟩
def Js.G:Env:=⟨26,tab,[(111,Jf.ce),(114,Jw.ce)],[0,1,2,3,4,5,7,17],[1000200,1000300,1000400,2000300,2000400],[(3,[⟨[],[],[19,20,21,22,23],[]⟩,⟨[],[],[18,20,21,22,23],[]⟩,⟨[],[],[18,19,21,22,23,24],[2000400]⟩,⟨[],[],[18,19,20,22,23,24],[2000400]⟩,⟨[],[],[18,19,20,21,23],[]⟩,⟨[],[],[18,19,20,21,22,24],[2000400]⟩,⟨[0,1,4],[],[20,21,23],[]⟩,⟨[6,0,1,4],[2000400],[20,21,23],[]⟩,⟨[2,3,0,1,4,5,6,7],[],[],[]⟩,⟨[8,2,3,0,1,4,5,6,7],[2000300],[],[]⟩])],[(3,Js.c3r)],[],Jd⟩
theorem Js.p0:PcA Js.G Try.f134 0:=
 jB (s:=Js.c3r) (by kernel_rfl) (by kernel_rfl) (jC (sh:=Js.c3s) (fun ρ X Z=>(je fun _=>(je fun _=>(je fun _=>(je fun _=>jd))))) (fun ρ X t k=>(by kernel_rfl)) (fun X=>by kernel_rfl))
theorem Js.ok:MOk Try.prog 134 Js.mc:=kW (mc:=Js.mc) (G:=Js.G) Jn mixed Try.func134 ⟨(jX Jf.ok (jX Jw.ok Je)),jY,jN⟩ (m:=1) (by kernel_rfl) ⟨trivial,Js.p0⟩ (by kernel_rfl) (fun _=>by kernel_rfl)
abbrev tb57:SD:=.one (.ref 1000110 0)
abbrev tb58:SD:=.one (.ref 1000120 0)
abbrev tb59:SD:=.one (.ref 1000130 0)
abbrev tb60:SO:=.box [.val (.int .i64)]
abbrev tb61:SO:=.box [.own 2000110 0]
abbrev tb62:SO:=.box [.clo 1000140]
abbrev tb63:SO:=.box [.clo 1000150]
abbrev tb64:SO:=.clo 134 [] [.ref 1000200 0,.ref 1000300 0,.ref 1000400 0]
abbrev tb65:SO:=.clo 140 [] [.ref 1000100 0,.ref 1000110 0,.ref 1000120 0,.ref 1000130 0]
abbrev tb66:SO:=.arr 0 false 5 (.int .u8)
abbrev tb67:SD:=.one (.val (.int .u8))
abbrev tb68:SD:=.one (.val (.sl (.int .u8)))
def jm.self.pre:Shape:=⟨[(0,tb5),(1,tb5),(2,tb33),(3,tb57),(4,tb58),(5,tb59)],[(1000100,tb60),(1000110,tb61),(1000120,tb62),(1000130,tb63),(1000140,tb64),(1000150,tb65),(1000200,tb54),(1000300,tb55),(1000400,tb56),(2000110,tb66),(2000300,tb50),(2000400,tb22)]⟩
def jm.self.post:Shape:=⟨[],[(1000100,tb60),(1000110,tb61),(1000120,tb62),(1000130,tb63),(1000140,tb64),(1000150,tb65),(1000200,tb54),(1000300,tb55),(1000400,tb56),(2000110,tb66),(2000300,tb50),(2000400,tb22)]⟩
class jm.Self where
 F:densU jm.self.pre.tys→Option (densU jm.self.post.tys)
 ok:MOk Try.prog 140 ⟨140,jm.self.pre,jm.self.post,F⟩
section
variable [jm.Self]
def jm.self (X:densU jm.self.pre.tys):Option (densU jm.self.post.tys):=jm.Self.F X
def jm.self.mc:MCallee:=⟨140,jm.self.pre,jm.self.post,fun X=>jm.self X⟩
theorem jm.self.ok:MOk Try.prog 140 jm.self.mc:=jm.Self.ok
def jm.pre:Shape:=⟨[(0,tb5),(1,tb5),(2,tb33),(3,tb57),(4,tb58),(5,tb59)],[(1000100,tb60),(1000110,tb61),(1000120,tb62),(1000130,tb63),(1000140,tb64),(1000150,tb65),(1000200,tb54),(1000300,tb55),(1000400,tb56),(2000110,tb66),(2000300,tb50),(2000400,tb22)]⟩
def jm.post:Shape:=⟨[],[(1000100,tb60),(1000110,tb61),(1000120,tb62),(1000130,tb63),(1000140,tb64),(1000150,tb65),(1000200,tb54),(1000300,tb55),(1000400,tb56),(2000110,tb66),(2000300,tb50),(2000400,tb22)]⟩
def jm.cU_ {ρ:Type} (c:Int)(w:Int)(Z:Int→Option ρ):Option ρ:=
 br (c !=(73:Int))
 (Z (IntKind.i64.wrap (w+(1:Int))))
 (Z w)
def jm.cU_s:Shape:=⟨[(0,tb5),(1,tb5),(2,tb33),(3,tb57),(4,tb58),(5,tb59),(11,tb67),(12,tb5),(28,tb68),(29,tb5),(30,tb5)],[(1000100,tb60),(1000110,tb61),(1000120,tb62),(1000130,tb63),(1000140,tb64),(1000150,tb65),(1000200,tb54),(1000300,tb55),(1000400,tb56),(2000110,tb66),(2000300,tb50),(2000400,tb22)]⟩
def jm.cU_r:Ck:=Ck.of (T:=Int) jm.cU_s (fun ρ X Z=>jm.cU_ X.2.2.1 X.2.2.2.1 Z) (fun ρ X V Z=>Z 0 (Shape.inj jm.cU_s (X.1,X.2.1,X.2.2.1,V,(q4 X))))
def jm.cd_ {ρ:Type} (q:Int)(weight:Int)(t28:List Int)(t29:Int)(t30:Int)(ua:Int)(ub:List YP)(ui:List Int)(uj:List Int)(uk:List YP)(Z:(Int×Int×(List YP)×(List Int)×(List Int)×(List YP))⊕(Int×Int×(List YP)×(List Int)×(List Int)×(List YP))→Option ρ):Option ρ:=
 br (decide (t30<t29))
 (bnd (idx t28 t30) fun y=>
 bnd (inR (List.length ui) (IntKind.i64.wrap (q+(1:Int)))) fun y_1=>
 bnd (idx ui (IntKind.i64.wrap (q+(1:Int)))) fun y_2=>
 bnd (jm.cU_ y weight some) fun y_3=>
 bnd (jm.self (IntKind.i64.wrap (q+(1:Int)),y_3,ua,ub,List.set ui (Int.toNat (IntKind.i64.wrap (q+(1:Int)))) y,uj,uk,())) fun y_4=>
 Z (.inl ((IntKind.i64.wrap (t30+(1:Int))),y_4.1,y_4.2.1,y_4.2.2.1,y_4.2.2.2.1,y_4.2.2.2.2.1)))
 (Z (.inr (t30,ua,ub,ui,uj,uk)))
def jm.cd_s:Shape:=⟨[(0,tb5),(1,tb5),(2,tb33),(3,tb57),(4,tb58),(5,tb59),(28,tb68),(29,tb5),(30,tb5)],[(1000100,tb60),(1000110,tb61),(1000120,tb62),(1000130,tb63),(1000140,tb64),(1000150,tb65),(1000200,tb54),(1000300,tb55),(1000400,tb56),(2000110,tb66),(2000300,tb50),(2000400,tb22)]⟩
def jm.cd_r:Ck:=Ck.ofLoop (S:=Int×Int×(List YP)×(List Int)×(List Int)×(List YP)) (T:=Int×Int×(List YP)×(List Int)×(List Int)×(List YP)) jm.cd_s (fun X=>((q4 X).1,(q4 X).2.1,(q4 X).2.2.1,(q4 X).2.2.2.1,(q8 X).1,(q8 X).2.1)) (fun ρ X Q Z=>jm.cd_ X.1 X.2.1 X.2.2.1 X.2.2.2.1 Q.1 Q.2.1 Q.2.2.1 Q.2.2.2.1 Q.2.2.2.2.1 Q.2.2.2.2.2 Z) (fun ρ X V Z=>Z 2 (Shape.inj jm.cd_s (X.1,X.2.1,X.2.2.1,X.2.2.2.1,V.1,V.2.1,V.2.2.1,V.2.2.2.1,V.2.2.2.2.1,V.2.2.2.2.2,())))
def jm (q:Int) (weight:Int) (ua:Int) (ub:List YP) (ui:List Int) (uj:List Int) (uk:List YP):Option (Int×(List YP)×(List Int)×(List Int)×(List YP)×Unit):=
 br (q==ua)
 (bnd (JP (List.map (fun n↦UInt8.ofNat (Int.toNat n)) ui) ua) fun y=>
 bnd (Js (y.1.1,y.1.2.1,y.1.2.2) weight ub uj uk) fun y_1=>
 some (ua,y_1.1,ui,y_1.2.1,y_1.2.2.1,()))
 (bnd (iter (fun s↦jm.cd_ q weight [(73:Int),(88:Int),(89:Int),(90:Int)] (↑(4:Nat):Int) s.1 s.2.1 s.2.2.1 s.2.2.2.1 s.2.2.2.2.1 s.2.2.2.2.2 some) ((0:Int),ua,ub,ui,uj,uk)) fun y_2=>
 some (y_2.2.1,y_2.2.2.1,y_2.2.2.2.1,y_2.2.2.2.2.1,y_2.2.2.2.2.2,()))
def jm.mc:MCallee:=⟨140,jm.pre,jm.post,fun X=>jm X.1 X.2.1 X.2.2.1 X.2.2.2.1 (q4 X).1 (q4 X).2.1 (q4 X).2.2.1⟩
def jm.G:Env:=⟨50,tab,[(106,JP.ce)],[0,1,2,3,4,5,8,11,12,15,28,29,30,31,41],[1000100,1000110,1000120,1000130,1000140,1000150,1000200,1000300,1000400,2000110,2000300,2000400],[],[(100004,jm.cd_r),(232773,jm.cU_r)],[(134,Js.mc),(140,jm.self.mc)],Jd⟩
theorem jm.p0:PcA jm.G Try.f140 0:=
 Jo (s:=jm.cd_r) (by kernel_rfl) (by kernel_rfl) (Jg (sh:=jm.cd_s) (I:=fun X Q=>(X.1,X.2.1,X.2.2.1,X.2.2.2.1,Q.1,Q.2.1,Q.2.2.1,Q.2.2.2.1,Q.2.2.2.2.1,Q.2.2.2.2.2,())) (fun X=>rfl) (fun ρ X Q Z=>(jo (je fun _=>(je fun _=>(je fun _=>(je fun _=>(je fun _=>jd))))) jd)) (fun ρ X t k=>(by kernel_rfl)) (fun X s=>by kernel_rfl))
theorem jm.p1:PcA jm.G Try.f140 1:=
 kq (s:=jm.cU_r) (by kernel_rfl) (by kernel_rfl) (jC (sh:=jm.cU_s) (fun ρ X Z=>(jo jd jd)) (fun ρ X t k=>(by kernel_rfl)) (fun X=>by kernel_rfl))
theorem jm.ok:MOk Try.prog 140 jm.mc:=kW (mc:=jm.mc) (G:=jm.G) Jn mixed Try.func140 ⟨(jX JP.ok Je),(JX Js.ok (JX jm.self.ok jY)),jN⟩ (m:=2) (by kernel_rfl) ⟨⟨trivial,jm.p0⟩,jm.p1⟩ (by kernel_rfl) (fun _=>by kernel_rfl)
end
@[reducible] def jm.fuel:Nat→jm.Self
 | 0=>⟨fun _=>none,⟨⟨Try.f140,Try.func140,by kernel_rfl,by kernel_rfl⟩,fun _ _ _ _ _ _ _ hy=>by cases hy⟩⟩
 | n+1=>⟨fun X=>(@jm.mc (jm.fuel n)).F X,@jm.ok (jm.fuel n)⟩
def kI (X:densU jm.self.pre.tys):Option (densU jm.self.post.tys):=(jm.fuel (16)).F X
def kI.mc:MCallee:=⟨140,jm.self.pre,jm.self.post,fun X=>kI X⟩
theorem kI.ok:MOk Try.prog 140 kI.mc:=mok_diag (F:=fun n=>(jm.fuel n).F) (fun n=>(jm.fuel n).ok) (fun X=>16)
abbrev tb69:SD:=.one (.clo 1000140)
def JB.pre:Shape:=⟨[(0,tb5),(1,tb69)],[(1000140,tb64),(1000200,tb54),(1000300,tb55),(1000400,tb56),(2000300,tb50),(2000400,tb22)]⟩
def JB.post:Shape:=⟨[],[(1000140,tb64),(1000200,tb54),(1000300,tb55),(1000400,tb56),(2000300,tb50),(2000400,tb22)]⟩
def JB (n:Int) (ub:List YP) (uj:List Int) (uk:List YP):Option ((List YP)×(List Int)×(List YP)×Unit):=
 bnd (okIf (decide ((0:Int)≤IntKind.i64.wrap (n+(1:Int)))&&decide (IntKind.i64.wrap (n+(1:Int))≤IntKind.i64.wrap (n+(1:Int)))&&decide (IntKind.i64.wrap (n+(1:Int))*(↑(1:Nat):Int)≤(140737488355328:Int))&&decide (IntKind.i64.wrap (n+(1:Int))≤(140737488355328:Int)))) fun y=>
 bnd (inR (List.length (List.replicate (Int.toNat (IntKind.i64.wrap (n+(1:Int)))) (0:Int))) (0:Int)) fun y_1=>
 bnd (idx (List.replicate (Int.toNat (IntKind.i64.wrap (n+(1:Int)))) (0:Int)) (0:Int)) fun y_2=>
 bnd (kI ((0:Int),(0:Int),n,ub,List.set (List.replicate (Int.toNat (IntKind.i64.wrap (n+(1:Int)))) (0:Int)) (0:Nat) (43:Int),uj,uk,())) fun y_3=>
 some (y_3.2.1,y_3.2.2.2.1,y_3.2.2.2.2.1,())
def JB.mc:MCallee:=⟨133,JB.pre,JB.post,fun X=>JB X.1 X.2.1 X.2.2.1 X.2.2.2.1⟩
def JB.G:Env:=⟨14,tab,[],[0,1,2,3,4,5],[3,4,5,8,1004,1000140,1000200,1000300,1000400,2000300,2000400],[],[],[(140,kI.mc)],Jd⟩
theorem JB.ok:MOk Try.prog 133 JB.mc:=kW (mc:=JB.mc) (G:=JB.G) Jn mixed Try.func133 ⟨Je,(JX kI.ok jY),jN⟩ (m:=0) (by kernel_rfl) trivial (by kernel_rfl) (fun _=>by kernel_rfl)
abbrev tb70:SO:=.box [.own 11 0]
abbrev tb71:SO:=.box [.own 14 0]
def JH.cd_ (t16:Int)(t17:Int)(c0:Int)(t14:List Int)(Z:(Int×(List Int))⊕(Int×(List Int))→Option ρ):Option ρ:=
 br (decide (t17<t16))
 (bnd (inR (List.length t14) t17) fun y=>
 bnd (idx t14 t17) fun y_1=>
 Z (.inl ((IntKind.i64.wrap (t17+(1:Int))),(List.set t14 (Int.toNat t17) (IntKind.i64.wrap (c0+(1:Int)))))))
 (Z (.inr (t17,t14)))
def JH.cd_s:Shape:=⟨[(0,tb0),(1,tb17),(2,tb2),(3,tb12),(4,tb17),(5,tb39),(6,tb8),(16,tb5),(17,tb5)],[(2,tb3),(3,tb54),(5,tb70),(6,tb71),(11,tb22),(14,tb50),(1005,tb22),(1006,tb50)]⟩
def JH.cd_r:Ck:=Ck.ofLoop (S:=Int×(List Int)) (T:=Int×(List Int)) JH.cd_s (fun X=>((q4 X).1,(q8 X).2.1)) (fun ρ X Q Z=>JH.cd_ X.2.2.2.1 Q.1 (q4 X).2.1 Q.2 Z) (fun ρ X V Z=>Z 2 (Shape.inj JH.cd_s (X.1,X.2.1,X.2.2.1,X.2.2.2.1,V.1,(q4 X).2.1,(q4 X).2.2.1,(q4 X).2.2.2.1,(q8 X).1,V.2,(q8 X).2.2)))
def JH (c:Int×(List (List UInt8))) (l:List YP):Option (List YP):=
 bnd (okIf (decide ((0:Int)≤(↑(List.length l):Int)))) fun y=>
 bnd (okIf (decide ((0:Int)≤IntKind.i64.wrap ((1:Int)*(2:Int)^Min.min (Int.toNat (↑(List.length l):Int)) (64:Nat)))&&decide (IntKind.i64.wrap ((1:Int)*(2:Int)^Min.min (Int.toNat (↑(List.length l):Int)) (64:Nat))≤IntKind.i64.wrap ((1:Int)*(2:Int)^Min.min (Int.toNat (↑(List.length l):Int)) (64:Nat)))&&decide (IntKind.i64.wrap ((1:Int)*(2:Int)^Min.min (Int.toNat (↑(List.length l):Int)) (64:Nat))*(↑(24:Nat):Int)≤(140737488355328:Int))&&decide (IntKind.i64.wrap ((1:Int)*(2:Int)^Min.min (Int.toNat (↑(List.length l):Int)) (64:Nat))≤(140737488355328:Int)))) fun y_1=>
 bnd (okIf (decide ((0:Int)≤(↑(List.length (List.replicate (Int.toNat (IntKind.i64.wrap ((1:Int)*(2:Int)^Min.min (Int.toNat (↑(List.length l):Int)) (64:Nat)))) ((0:Int),(0:Int),false))):Int))&&decide ((↑(List.length (List.replicate (Int.toNat (IntKind.i64.wrap ((1:Int)*(2:Int)^Min.min (Int.toNat (↑(List.length l):Int)) (64:Nat)))) ((0:Int),(0:Int),false))):Int)≤(↑(List.length (List.replicate (Int.toNat (IntKind.i64.wrap ((1:Int)*(2:Int)^Min.min (Int.toNat (↑(List.length l):Int)) (64:Nat)))) ((0:Int),(0:Int),false))):Int))&&decide ((↑(List.length (List.replicate (Int.toNat (IntKind.i64.wrap ((1:Int)*(2:Int)^Min.min (Int.toNat (↑(List.length l):Int)) (64:Nat)))) ((0:Int),(0:Int),false))):Int)*(↑(8:Nat):Int)≤(140737488355328:Int))&&decide ((↑(List.length (List.replicate (Int.toNat (IntKind.i64.wrap ((1:Int)*(2:Int)^Min.min (Int.toNat (↑(List.length l):Int)) (64:Nat)))) ((0:Int),(0:Int),false))):Int)≤(140737488355328:Int)))) fun y_2=>
 bnd (iter (fun s↦JH.cd_ (↑(List.length (List.replicate (Int.toNat (↑(List.length (List.replicate (Int.toNat (IntKind.i64.wrap ((1:Int)*(2:Int)^Min.min (Int.toNat (↑(List.length l):Int)) (64:Nat)))) ((0:Int),(0:Int),false))):Int)) (0:Int))):Int) s.1 c.1 s.2 some) ((0:Int),List.replicate (Int.toNat (↑(List.length (List.replicate (Int.toNat (IntKind.i64.wrap ((1:Int)*(2:Int)^Min.min (Int.toNat (↑(List.length l):Int)) (64:Nat)))) ((0:Int),(0:Int),false))):Int)) (0:Int))) fun y_3=>
 bnd (JB c.1 l y_3.2 (List.replicate (Int.toNat (IntKind.i64.wrap ((1:Int)*(2:Int)^Min.min (Int.toNat (↑(List.length l):Int)) (64:Nat)))) ((0:Int),(0:Int),false))) fun y_4=>
 some y_4.2.2.1
def JH.ce:Go.Ql.Callee:=⟨[(.st (.pair (.int .i64) (.sl .str))),(.sl (.st (.pair (.int .u64) (.pair (.int .u64) .bool))))],[(.sl (.st (.pair (.int .u64) (.pair (.int .u64) .bool))))],fun X=>JH X.1 X.2⟩
def JH.G:Env:=⟨32,tab,[],[0,1,2,3,4,5,6,7,16,17,18],[5,6,11,14,1005,1006],[],[(100004,JH.cd_r)],[(133,JB.mc)],Jd⟩
theorem JH.p0:PcA JH.G Try.f113 0:=
 Jo (s:=JH.cd_r) (by kernel_rfl) (by kernel_rfl) (Jg (sh:=JH.cd_s) (I:=fun X Q=>(X.1,X.2.1,X.2.2.1,X.2.2.2.1,Q.1,(q4 X).2.1,(q4 X).2.2.1,(q4 X).2.2.2.1,(q8 X).1,Q.2,(q8 X).2.2)) (fun X=>rfl) (fun ρ X Q Z=>(jo (je fun _=>(je fun _=>jd)) jd)) (fun ρ X t k=>(by kernel_rfl)) (fun X s=>by kernel_rfl))
theorem JH.ok:CalleeOk Try.prog 113 JH.ce:=fn_ok (G:=JH.G) Jn mixed Try.func113 ⟨Je,(JX JB.ok jY),jN⟩ (m:=1) (by kernel_rfl) ⟨trivial,JH.p0⟩ (by kernel_rfl) (fun _=>by kernel_rfl)
abbrev tb72:SD:=.one (.own 7 0)
def jt.cJ_ (p2:Bool)(t7:List Int)(Z:List Int→Option ρ):Option ρ:=
 br p2
 (bnd (inR (List.length t7) (0:Int)) fun y=>
 bnd (idx t7 (0:Int)) fun y_1=>
 Z (List.set t7 (0:Nat) (45:Int)))
 (Z t7)
def jt.cJ_s:Shape:=⟨[(0,tb11),(1,tb5),(2,tb2),(4,tb4),(5,tb72)],[(2,tb9),(7,tb66)]⟩
def jt.cJ_r:Ck:=Ck.of (T:=List Int) jt.cJ_s (fun ρ X Z=>jt.cJ_ (q4 X).2.1 (q4 X).2.2.1 Z) (fun ρ X V Z=>Z 0 (Shape.inj jt.cJ_s (X.1,X.2.1,X.2.2.1,X.2.2.2.1,(q4 X).1,(q4 X).2.1,V,())))
def jt.c7 (q:Int)(p0:Int)(p1:Int)(t7:List Int)(Z:List Int→Option ρ):Option ρ:=
 bnd (okIf (decide ((0:Int)≤q))) fun y=>
 bnd (okIf (decide ((0:Int)≤q))) fun y_1=>
 bnd (idx (Array.toList (ByteArray.data (ByteArray.mk #[73,88,90,89]))) (ibits BinOp.or IntKind.u64 (ibits BinOp.and IntKind.u64 (Int.fdiv p0 ((2:Int)^Min.min (Int.toNat q) (64:Nat))) (1:Int)) (IntKind.u64.wrap (ibits BinOp.and IntKind.u64 (Int.fdiv p1 ((2:Int)^Min.min (Int.toNat q) (64:Nat))) (1:Int)*(2:Int)^(1:Nat))))) fun y_2=>
 bnd (okIf (decide ((List.length t7+(1:Nat))*(1:Nat)≤(140737488355328:Nat))&&decide (List.length t7+(1:Nat)≤(140737488355328:Nat)))) fun y_3=>
 Z (t7++[(↑(UInt8.toNat y_2):Int)])
def jt.c7s:Shape:=⟨[(0,tb11),(1,tb5),(2,tb2),(4,tb4),(5,tb72),(6,tb5),(12,tb5),(13,tb5)],[(2,tb9),(7,tb66)]⟩
def jt.c7r:Ck:=Ck.of (T:=List Int) jt.c7s (fun ρ X Z=>jt.c7 X.2.2.2.1 (q4 X).2.2.1 (q4 X).2.2.2.1 (q8 X).2.1 Z) (fun ρ X V Z=>Z 0 (Shape.inj jt.c7s (X.1,X.2.1,X.2.2.1,X.2.2.2.1,(q4 X).1,(q4 X).2.1,(q4 X).2.2.1,(q4 X).2.2.2.1,(q8 X).1,V,())))
def jt.cm_ (t12:Int)(t13:Int)(p0:Int)(p1:Int)(t7:List Int)(Z:(Int×(List Int))⊕(Int×(List Int))→Option ρ):Option ρ:=
 br (decide (t13<t12))
 (bnd (jt.c7 t13 p0 p1 t7 some) fun y=>
 Z (.inl ((IntKind.i64.wrap (t13+(1:Int))),y)))
 (Z (.inr (t13,t7)))
def jt.cm_s:Shape:=⟨[(0,tb11),(1,tb5),(2,tb2),(4,tb4),(5,tb72),(12,tb5),(13,tb5)],[(2,tb9),(7,tb66)]⟩
def jt.cm_r:Ck:=Ck.ofLoop (S:=Int×(List Int)) (T:=Int×(List Int)) jt.cm_s (fun X=>((q4 X).1,(q8 X).1)) (fun ρ X Q Z=>jt.cm_ X.2.2.2.1 Q.1 (q4 X).2.1 (q4 X).2.2.1 Q.2 Z) (fun ρ X V Z=>Z 2 (Shape.inj jt.cm_s (X.1,X.2.1,X.2.2.1,X.2.2.2.1,V.1,(q4 X).2.1,(q4 X).2.2.1,(q4 X).2.2.2.1,V.2,())))
def jt (p:YP) (n:Int):Option (List UInt8):=
 bnd (jt.cJ_ p.2.2 [(43:Int)] some) fun y=>
 bnd (iter (fun s↦jt.cm_ n s.1 p.1 p.2.1 s.2 some) ((0:Int),y)) fun y_1=>
 some (List.map (fun n↦UInt8.ofNat (Int.toNat n)) y_1.2)
def jt.ce:Go.Ql.Callee:=⟨[(.st (.pair (.int .u64) (.pair (.int .u64) .bool))),(.int .i64)],[.str],fun X=>jt X.1 X.2⟩
def jt.G:Env:=⟨35,tab,[],[0,1,2,4,5,6,9,12,13,14],[7],[(7,[⟨[],[],[17,18,19,20,21,22,23,24,25,26,27,28,29,30],[30]⟩,⟨[],[],[16,19,22,23,24,25,26,27],[]⟩,⟨[1],[],[16,19,22,23,24,25,26,27],[]⟩,⟨[],[],[16,17,18,22,23,24,25,26,27],[]⟩,⟨[2,1,3],[],[16,22,23,24,25,26,27],[]⟩,⟨[4,2,1,3],[],[16,22,23,24,25,26,27],[]⟩,⟨[],[],[16,17,18,19,20,21,24],[]⟩,⟨[6],[],[16,17,18,19,20,21,24],[]⟩,⟨[],[],[16,17,18,19,20,21,22,23],[]⟩,⟨[7,6,8],[],[16,17,18,19,20,21],[]⟩,⟨[9,7,6,8],[],[16,17,18,19,20,21],[]⟩,⟨[10,9,7,6,8],[],[16,17,18,19,20,21],[]⟩,⟨[5,4,2,1,3,11,10,9,7,6,8],[],[16],[]⟩,⟨[12,5,4,2,1,3,11,10,9,7,6,8],[],[16],[]⟩,⟨[13,12,5,4,2,1,3,11,10,9,7,6,8],[30],[16],[]⟩,⟨[0,14,13,12,5,4,2,1,3,11,10,9,7,6,8],[7],[],[]⟩,⟨[15,0,14,13,12,5,4,2,1,3,11,10,9,7,6,8],[],[],[]⟩])],[(100005,jt.cm_r),(7,jt.c7r),(208197,jt.cJ_r)],[],Jd⟩
theorem jt.p0:PcA jt.G Try.f43 0:=
 kq (s:=jt.cJ_r) (by kernel_rfl) (by kernel_rfl) (jC (sh:=jt.cJ_s) (fun ρ X Z=>(jo (je fun _=>(je fun _=>jd)) jd)) (fun ρ X t k=>(by kernel_rfl)) (fun X=>by kernel_rfl))
theorem jt.p1:PcA jt.G Try.f43 1:=
 Jo (s:=jt.cm_r) (by kernel_rfl) (by kernel_rfl) (Jg (sh:=jt.cm_s) (I:=fun X Q=>(X.1,X.2.1,X.2.2.1,X.2.2.2.1,Q.1,(q4 X).2.1,(q4 X).2.2.1,(q4 X).2.2.2.1,Q.2,())) (fun X=>rfl) (fun ρ X Q Z=>(jo (je fun _=>jd) jd)) (fun ρ X t k=>(by kernel_rfl)) (fun X s=>by kernel_rfl))
theorem jt.p2:PcA jt.G Try.f43 2:=
 jB (s:=jt.c7r) (by kernel_rfl) (by kernel_rfl) (jC (sh:=jt.c7s) (fun ρ X Z=>(je fun _=>(je fun _=>(je fun _=>(je fun _=>jd))))) (fun ρ X t k=>(by kernel_rfl)) (fun X=>by kernel_rfl))
theorem jt.ok:CalleeOk Try.prog 43 jt.ce:=fn_ok (G:=jt.G) Jn mixed Try.func43 ⟨Je,jY,jN⟩ (m:=3) (by kernel_rfl) ⟨⟨⟨trivial,jt.p0⟩,jt.p1⟩,jt.p2⟩ (by kernel_rfl) (fun _=>by kernel_rfl)
def JM (p:YP) (n:Int):Option (List UInt8):=
 bnd (jt (p.1,p.2.1,p.2.2) n) fun y=>
 some y
def JM.ce:Go.Ql.Callee:=⟨[(.st (.pair (.int .u64) (.pair (.int .u64) .bool))),(.int .i64)],[.str],fun X=>JM X.1 X.2⟩
def JM.G:Env:=⟨8,tab,[(43,jt.ce)],[0,1,2,4],[],[],[],[],Jd⟩
theorem JM.ok:CalleeOk Try.prog 115 JM.ce:=fn_ok (G:=JM.G) Jn mixed Try.func115 ⟨(jX jt.ok Je),jY,jN⟩ (m:=0) (by kernel_rfl) trivial (by kernel_rfl) (fun _=>by kernel_rfl)
def kj (t0:Int) (t1:Int):Option ((List UInt8)×(Int×Int)):=
 some (Array.toList (ByteArray.data (ByteArray.mk #[])),t0,t1)
def kj.ce:Go.Ql.Callee:=⟨[(.int .i64),(.int .i64)],[.str,(.st (.pair (.int .i64) (.int .i64)))],fun X=>kj X.1 X.2⟩
def kj.G:Env:=⟨9,tab,[],[0,1,4,5],[],[],[],[],Jd⟩
theorem kj.ok:CalleeOk Try.prog 112 kj.ce:=fn_ok (G:=kj.G) Jn mixed Try.func112 ⟨Je,jY,jN⟩ (m:=0) (by kernel_rfl) trivial (by kernel_rfl) (fun _=>by kernel_rfl)
abbrev tb73:SD:=.one (.fn 112)
def jG.c4  (Z:Unit→Option ρ):Option ρ:=
 Z ()
def jG.c4s:Shape:=⟨[(0,tb0),(1,tb36),(2,tb2),(4,tb4),(5,tb39),(6,tb73),(7,tb17),(8,tb27)],[(2,tb3),(5,tb19),(8,tb19)]⟩
def jG.c4r:Ck:=Ck.of (T:=Unit) jG.c4s (fun ρ X Z=>jG.c4  Z) (fun ρ X V Z=>Z 0 (Shape.inj jG.c4s (X.1,X.2.1,(Array.toList (ByteArray.data (ByteArray.mk #[]))),X.2.2.2.1,(q4 X).1,(q4 X).2.1,(q8 X).1,(q8 X).2.1,(q8 X))))
def jG.c12 (b:Int)(Z:Bool→Option ρ):Option ρ:=
 br (b !=(0:Int))
 (Z (b !=(1:Int)))
 (Z false)
def jG.c12s:Shape:=⟨[(0,tb0),(1,tb36),(2,tb2),(4,tb4),(5,tb39),(6,tb73),(7,tb17),(8,tb27),(9,tb5),(10,tb5),(36,tb36),(37,tb5),(38,tb5)],[(2,tb3),(5,tb19),(8,tb19)]⟩
def jG.c12x0:Shape:=⟨[(0,tb0),(1,tb36),(2,tb2),(4,tb4),(5,tb39),(6,tb73),(7,tb17),(8,tb27),(9,tb5),(10,tb5),(36,tb36),(37,tb5),(38,tb5),(48,tb7)],[(2,tb3),(5,tb19),(8,tb19)]⟩
def jG.c12r:Ck:=Ck.of (T:=Bool) jG.c12s (fun ρ X Z=>jG.c12 (q4 X).2.1 Z) (fun ρ X V Z=>Z 0 (Shape.inj jG.c12x0 (X.1,X.2.1,X.2.2.1,X.2.2.2.1,(q4 X).1,(q4 X).2.1,(q4 X).2.2.1,(q4 X).2.2.2.1,(q8 X).1,V,(q8 X).2)))
def jG.cn_ (t36:List Int)(t37:Int)(t38:Int)(Z:Int⊕(((List UInt8)×Int×Int×Int)⊕Int)→Option ρ):Option ρ:=
 br (decide (t38<t37))
 (bnd (idx t36 t38) fun y=>
 bnd (jG.c12 y some) fun y_1=>
 br y_1
 (bnd (kj (20:Int) t38) fun y_2=>
 Z (.inr (.inl (y_2.1,t38,y_2.2.1,y_2.2.2))))
 (Z (.inl (IntKind.i64.wrap (t38+(1:Int))))))
 (Z (.inr (.inr t38)))
def jG.cn_s:Shape:=⟨[(0,tb0),(1,tb36),(2,tb2),(4,tb4),(5,tb39),(6,tb73),(7,tb17),(8,tb27),(36,tb36),(37,tb5),(38,tb5)],[(2,tb3),(5,tb19),(8,tb19)]⟩
def jG.cn_r:Ck:=Ck.ofLoop (S:=Int) (T:=((List UInt8)×Int×Int×Int)⊕Int) jG.cn_s (fun X=>(q4 X).2.2.1) (fun ρ X Q Z=>jG.cn_ (q4 X).1 (q4 X).2.1 Q Z) (fun ρ X V Z=>sel V (fun V=>Z 1 (Shape.inj jG.cn_s (X.1,X.2.1,V.1,X.2.2.2.1,(q4 X).1,(q4 X).2.1,V.2.1,(q4 X).2.2.2.1,(q8 X).1,V.2.2.1,V.2.2.2,(q8 X).2.2.2))) (fun V=>Z 2 (Shape.inj jG.cn_s (X.1,X.2.1,X.2.2.1,X.2.2.2.1,(q4 X).1,(q4 X).2.1,V,(q4 X).2.2.2))))
def jG.c15 (syndrome:List Int)(l:List YP)(c0:Int)(c1:List (List UInt8))(Z:List UInt8→Option ρ):Option ρ:=
 bnd (JH (c0,c1) l) fun y=>
 bnd (Jw syndrome) fun y_1=>
 bnd (idx y y_1) fun y_2=>
 bnd (JM y_2 c0) fun y_3=>
 Z y_3
def jG.c15r:Ck:=Ck.of (T:=List UInt8) jG.cn_s (fun ρ X Z=>jG.c15 X.2.1 X.2.2.2.1 (q4 X).2.2.2.1 (q8 X).1 Z) (fun ρ X V Z=>Z 0 (Shape.inj jG.cn_s (X.1,X.2.1,V,X.2.2.2.1,(q4 X).1,(q4 X).2.1,(q4 X).2.2.1,(q4 X).2.2.2.1,(q8 X).1,(q8 X).2.2.2.1,(q4 (q8 X)).1,(q8 X).2.2.2)))
def jG (c:Int×(List (List UInt8))) (syndrome:List Int):Option ((List UInt8)×(Int×Int)):=
 bnd (jy (c.1,c.2)) fun y=>
 br (y.2.1 !=(0:Int))
 (bnd (jG.c4 some) fun y_1=>
 some (Array.toList (ByteArray.data (ByteArray.mk #[])),y.2.1,y.2.2))
 (br (decide (c.1>(9:Int)))
 (bnd (kj (21:Int) (0:Int)) fun y_2=>
 some (y_2.1,y_2.2.1,y_2.2.2))
 (br ((↑(List.length syndrome):Int) !=(↑(List.length y.1):Int))
 (bnd (kj (25:Int) (0:Int)) fun y_3=>
 some (y_3.1,y_3.2.1,y_3.2.2))
 (bnd (iter (fun s↦jG.cn_ syndrome (↑(List.length syndrome):Int) s some) (0:Int)) fun y_4=>
 sel y_4
 (fun u=>some (u.1,u.2.2.1,u.2.2.2))
 (fun v=>bnd (jG.c15 syndrome y.1 c.1 c.2 some) fun y_5=>
 some (y_5,y.2.1,y.2.2)))))
def jG.ce:Go.Ql.Callee:=⟨[(.st (.pair (.int .i64) (.sl .str))),(.sl (.int .i64))],[.str,(.st (.pair (.int .i64) (.int .i64)))],fun X=>jG X.1 X.2⟩
def jG.G:Env:=⟨66,tab,[(70,jy.ce),(113,JH.ce),(114,Jw.ce),(115,JM.ce),(112,kj.ce)],[0,1,2,4,5,6,7,8,9,10,18,22,31,36,37,38,39,48],[],[(15,[⟨[],[],[56,58,62,63,65],[]⟩,⟨[],[],[55,58,62,63,65],[]⟩,⟨[0,1],[],[58,62,63,65],[]⟩,⟨[],[],[55,56,57,62,63,65],[]⟩,⟨[3,2,0,1],[],[62,63,65],[]⟩,⟨[2,0,1,4,3],[],[62,63,65],[]⟩,⟨[5,2,0,1,4,3],[],[62,63,65],[]⟩,⟨[],[],[55,56,57,58,59,60,61,65],[]⟩,⟨[7],[],[55,56,57,58,59,60,61,65],[]⟩,⟨[6,5,2,0,1,4,3,8,7],[],[65],[]⟩,⟨[],[],[55,56,57,58,59,60,61,62,63,64,4],[]⟩,⟨[9,6,5,2,0,1,4,3,8,7],[],[65],[]⟩,⟨[10,11,9,6,5,2,0,1,4,3,8,7],[5],[],[]⟩]),
 (4,[⟨[],[],[4],[]⟩,⟨[],[],[19],[]⟩,⟨[0,1],[5],[],[]⟩])],[(15,jG.c15r),(100010,jG.cn_r),(12,jG.c12r),(4,jG.c4r)],[],Jd⟩
theorem jG.p0:PcA jG.G Try.f76 0:=
 jB (s:=jG.c4r) (by kernel_rfl) (by kernel_rfl) (jC (sh:=jG.c4s) (fun ρ X Z=>jd) (fun ρ X t k=>(by kernel_rfl)) (fun X=>by kernel_rfl))
theorem jG.p1:PcA jG.G Try.f76 1:=
 Jo (s:=jG.cn_r) (by kernel_rfl) (by kernel_rfl) (Jg (sh:=jG.cn_s) (I:=fun X Q=>(X.1,X.2.1,X.2.2.1,X.2.2.2.1,(q4 X).1,(q4 X).2.1,Q,(q4 X).2.2.2)) (fun X=>rfl) (fun ρ X Q Z=>(jo (je fun _=>(je fun _=>(jo (je fun _=>jd) jd))) jd)) (fun ρ X t k=>(JU (fun _=>(by kernel_rfl)) (fun _=>(by kernel_rfl)))) (fun X s=>by kernel_rfl))
theorem jG.p2:PcA jG.G Try.f76 2:=
 jB (s:=jG.c12r) (by kernel_rfl) (by kernel_rfl) (jC (sh:=jG.c12s) (fun ρ X Z=>(jo jd jd)) (fun ρ X t k=>(by kernel_rfl)) (fun X=>by kernel_rfl))
theorem jG.p3:PcA jG.G Try.f76 3:=
 jB (s:=jG.c15r) (by kernel_rfl) (by kernel_rfl) (jC (sh:=jG.cn_s) (fun ρ X Z=>(je fun _=>(je fun _=>(je fun _=>(je fun _=>jd))))) (fun ρ X t k=>(by kernel_rfl)) (fun X=>by kernel_rfl))
theorem jG.ok:CalleeOk Try.prog 76 jG.ce:=fn_ok (G:=jG.G) Jn mixed Try.func76 ⟨(jX jy.ok (jX JH.ok (jX Jw.ok (jX JM.ok (jX kj.ok Je))))),jY,jN⟩ (m:=4) (by kernel_rfl) ⟨⟨⟨⟨trivial,jG.p0⟩,jG.p1⟩,jG.p2⟩,jG.p3⟩ (by kernel_rfl) (fun _=>by kernel_rfl)
def jV.c6 (a:List Int)(b:List Int)(i:Int)(Z:Bool→Option ρ):Option ρ:=
 bnd (idx a i) fun y=>
 bnd (idx b i) fun y_1=>
 Z (y !=y_1)
def jV.c6s:Shape:=⟨[(0,tb36),(1,tb36),(4,tb7),(5,tb5)],[]⟩
def jV.c6x0:Shape:=⟨[(0,tb36),(1,tb36),(4,tb7),(5,tb5),(25,tb7)],[]⟩
def jV.c6r:Ck:=Ck.of (T:=Bool) jV.c6s (fun ρ X Z=>jV.c6 X.1 X.2.1 X.2.2.2.1 Z) (fun ρ X V Z=>Z 0 (Shape.inj jV.c6x0 (X.1,X.2.1,X.2.2.1,X.2.2.2.1,V,())))
def jV.cd_ (a:List Int)(b:List Int)(i:Int)(Z:Int⊕(Int⊕Int)→Option ρ):Option ρ:=
 br (decide (i<(↑(List.length a):Int)))
 (bnd (jV.c6 a b i some) fun y=>
 br y
 (Z (.inr (.inl i)))
 (Z (.inl (IntKind.i64.wrap (i+(1:Int))))))
 (Z (.inr (.inr i)))
def jV.cd_r:Ck:=Ck.ofLoop (S:=Int) (T:=Int⊕Int) jV.c6s (fun X=>X.2.2.2.1) (fun ρ X Q Z=>jV.cd_ X.1 X.2.1 Q Z) (fun ρ X V Z=>sel V (fun V=>Z 1 (Shape.inj jV.c6s (X.1,X.2.1,false,V,()))) (fun V=>Z 2 (Shape.inj jV.c6s (X.1,X.2.1,X.2.2.1,V,()))))
def jV (a:List Int) (b:List Int):Option Bool:=
 br ((↑(List.length a):Int) !=(↑(List.length b):Int))
 (some false)
 (bnd (iter (fun s↦jV.cd_ a b s some) (0:Int)) fun y=>
 sel y
 (fun u=>some false)
 (fun v=>some true))
def jV.ce:Go.Ql.Callee:=⟨[(.sl (.int .i64)),(.sl (.int .i64))],[.bool],fun X=>jV X.1 X.2⟩
def jV.G:Env:=⟨26,tab,[],[0,1,4,5,10,14,25],[],[(6,[⟨[],[],[18,21,22,23,24],[]⟩,⟨[],[],[17,21,22,23,24],[]⟩,⟨[0,1],[],[21,22,23,24],[]⟩,⟨[2,0,1],[],[21,22,23,24],[]⟩,⟨[],[],[17,18,19,20,22],[]⟩,⟨[],[],[17,18,19,20,21],[]⟩,⟨[4,5],[],[17,18,19,20],[]⟩,⟨[6,4,5],[],[17,18,19,20],[]⟩,⟨[3,2,0,1,7,6,4,5],[],[],[]⟩])],[(100004,jV.cd_r),(6,jV.c6r)],[],Jd⟩
theorem jV.p0:PcA jV.G Try.f12 0:=
 Jo (s:=jV.cd_r) (by kernel_rfl) (by kernel_rfl) (Jg (sh:=jV.c6s) (I:=fun X Q=>(X.1,X.2.1,X.2.2.1,Q,())) (fun X=>rfl) (fun ρ X Q Z=>(jo (je fun _=>(jo jd jd)) jd)) (fun ρ X t k=>(JU (fun _=>(by kernel_rfl)) (fun _=>(by kernel_rfl)))) (fun X s=>by kernel_rfl))
theorem jV.p1:PcA jV.G Try.f12 1:=
 jB (s:=jV.c6r) (by kernel_rfl) (by kernel_rfl) (jC (sh:=jV.c6s) (fun ρ X Z=>(je fun _=>(je fun _=>jd))) (fun ρ X t k=>(by kernel_rfl)) (fun X=>by kernel_rfl))
theorem jV.ok:CalleeOk Try.prog 12 jV.ce:=fn_ok (G:=jV.G) Jn mixed Try.func12 ⟨Je,jY,jN⟩ (m:=2) (by kernel_rfl) ⟨⟨trivial,jV.p0⟩,jV.p1⟩ (by kernel_rfl) (fun _=>by kernel_rfl)
def Jv.c4 (s:List Int)(e:List UInt8)(f0:Int)(g0:Int)(Z:Bool→Option ρ):Option ρ:=
 br (f0==(0:Int))
 (br (g0==(0:Int))
 (bnd (jV s [(1:Int),(0:Int)]) fun y=>
 br y
 (Z (e==Array.toList (ByteArray.data (ByteArray.mk #[43,88,73,73]))))
 (Z false))
 (Z false))
 (Z false)
def Jv.c4s:Shape:=⟨[(0,tb7),(1,tb1),(2,tb36),(3,tb12),(4,tb4),(5,tb39)],[(1,tb3),(3,tb19),(5,tb19)]⟩
def Jv.c4r:Ck:=Ck.of (T:=Bool) Jv.c4s (fun ρ X Z=>Jv.c4 X.2.1 X.2.2.1 (q4 X).2.1 (q4 X).2.2.2.1 Z) (fun ρ X V Z=>Z 0 (Shape.inj Jv.c4s (V,X.2)))
def Jv :Option Bool:=
 bnd (jZ ((3:Int),[Array.toList (ByteArray.data (ByteArray.mk #[43,90,90,73])),Array.toList (ByteArray.data (ByteArray.mk #[43,73,90,90]))]) (Array.toList (ByteArray.data (ByteArray.mk #[43,88,73,73])))) fun y=>
 bnd (jG ((3:Int),[Array.toList (ByteArray.data (ByteArray.mk #[43,90,90,73])),Array.toList (ByteArray.data (ByteArray.mk #[43,73,90,90]))]) y.1) fun y_1=>
 bnd (Jv.c4 y.1 y_1.1 y.2.1 y_1.2.1 some) fun y_2=>
 some y_2
def Jv.ce:Go.Ql.Callee:=⟨[],[.bool],fun X=>Jv⟩
def Jv.G:Env:=⟨36,tab,[(75,jZ.ce),(76,jG.ce),(12,jV.ce)],[0,1,2,3,4,5],[],[],[(4,Jv.c4r)],[],Jd⟩
theorem Jv.p0:PcA Jv.G Try.f30 0:=
 jB (s:=Jv.c4r) (by kernel_rfl) (by kernel_rfl) (jC (sh:=Jv.c4s) (fun ρ X Z=>(jo (jo (je fun _=>(jo jd jd)) jd) jd)) (fun ρ X t k=>(by kernel_rfl)) (fun X=>by kernel_rfl))
theorem Jv.ok:CalleeOk Try.prog 30 Jv.ce:=fn_ok (G:=Jv.G) Jn mixed Try.func30 ⟨(jX jZ.ok (jX jG.ok (jX jV.ok Je))),jY,jN⟩ (m:=1) (by kernel_rfl) ⟨trivial,Jv.p0⟩ (by kernel_rfl) (fun _=>by kernel_rfl)
def jK.c1 (a0:Int)(a1:Int)(a2:List YO)(b0:Int)(b1:Int)(b2:List YO)(Z:Bool→Option ρ):Option ρ:=
 br (a0 !=b0)
 (Z true)
 (br (a1 !=b1)
 (Z true)
 (Z ((↑(List.length a2):Int) !=(↑(List.length b2):Int))))
def jK.c1s:Shape:=⟨[(0,tb38),(1,tb38),(2,tb2),(3,tb12),(4,tb7)],[(2,tb34),(3,tb34)]⟩
def jK.c1x0:Shape:=⟨[(0,tb38),(1,tb38),(2,tb2),(3,tb12),(4,tb7),(28,tb7)],[(2,tb34),(3,tb34)]⟩
def jK.c1r:Ck:=Ck.of (T:=Bool) jK.c1s (fun ρ X Z=>jK.c1 X.2.2.2.1 (q4 X).1 (q4 X).2.1 (q4 X).2.2.1 (q4 X).2.2.2.1 (q8 X).1 Z) (fun ρ X V Z=>Z 0 (Shape.inj jK.c1x0 (X.1,X.2.1,X.2.2.1,V,X.2.2.2)))
def jK.c8 (x0:Int)(x1:Int)(x2:List Int)(x3:Int)(x4:Int)(x5:List Int)(y0:Int)(y1:Int)(y2:List Int)(y3:Int)(y4:Int)(y5:List Int)(Z:Bool→Option ρ):Option ρ:=
 br (x0 !=y0)
 (Z true)
 (br (x1 !=y1)
 (Z true)
 (br (x3 !=y3)
 (Z true)
 (br (x4 !=y4)
 (Z true)
 (bnd (jV x2 y2) fun y=>
 br (!y)
 (Z true)
 (bnd (jV x5 y5) fun y_1=>
 Z (!y_1))))))
def jK.c8s:Shape:=⟨[(0,tb38),(1,tb38),(2,tb2),(3,tb12),(4,tb7),(5,tb5),(6,tb8),(7,tb42)],[(2,tb34),(3,tb34),(6,tb26),(7,tb26)]⟩
def jK.c8x0:Shape:=⟨[(0,tb38),(1,tb38),(2,tb2),(3,tb12),(4,tb7),(5,tb5),(6,tb8),(7,tb42),(87,tb7)],[(2,tb34),(3,tb34),(6,tb26),(7,tb26)]⟩
def jK.c8r:Ck:=Ck.of (T:=Bool) jK.c8s (fun ρ X Z=>jK.c8 (q8 X).2.2.1 (q8 X).2.2.2.1 (q4 (q8 X)).1 (q4 (q8 X)).2.1 (q4 (q8 X)).2.2.1 (q4 (q8 X)).2.2.2.1 (q8 (q8 X)).1 (q8 (q8 X)).2.1 (q8 (q8 X)).2.2.1 (q8 (q8 X)).2.2.2.1 (q4 (q8 (q8 X))).1 (q4 (q8 (q8 X))).2.1 Z) (fun ρ X V Z=>Z 0 (Shape.inj jK.c8x0 (X.1,X.2.1,X.2.2.1,X.2.2.2.1,V,(q4 X))))
def jK.cd_ (i:Int)(a2:List YO)(b2:List YO)(Z:Int⊕(Int⊕Int)→Option ρ):Option ρ:=
 br (decide (i<(↑(List.length a2):Int)))
 (bnd (idx a2 i) fun y=>
 bnd (idx b2 i) fun y_1=>
 bnd (jK.c8 y.1 y.2.1 y.2.2.1 y.2.2.2.1 y.2.2.2.2.1 y.2.2.2.2.2 y_1.1 y_1.2.1 y_1.2.2.1 y_1.2.2.2.1 y_1.2.2.2.2.1 y_1.2.2.2.2.2 some) fun y_2=>
 br y_2
 (Z (.inr (.inl i)))
 (Z (.inl (IntKind.i64.wrap (i+(1:Int))))))
 (Z (.inr (.inr i)))
def jK.cd_s:Shape:=⟨[(0,tb38),(1,tb38),(2,tb2),(3,tb12),(4,tb7),(5,tb5)],[(2,tb34),(3,tb34)]⟩
def jK.cd_r:Ck:=Ck.ofLoop (S:=Int) (T:=Int⊕Int) jK.cd_s (fun X=>X.2.2.2.1) (fun ρ X Q Z=>jK.cd_ Q (q4 X).2.2.1 (q8 X).2.1 Z) (fun ρ X V Z=>sel V (fun V=>Z 1 (Shape.inj jK.cd_s (X.1,X.2.1,false,V,(q4 X)))) (fun V=>Z 2 (Shape.inj jK.cd_s (X.1,X.2.1,X.2.2.1,V,(q4 X)))))
def jK (a:Int×(Int×(List YO))) (b:Int×(Int×(List YO))):Option Bool:=
 bnd (jK.c1 a.1 a.2.1 a.2.2 b.1 b.2.1 b.2.2 some) fun y=>
 br y
 (some false)
 (bnd (iter (fun s↦jK.cd_ s a.2.2 b.2.2 some) (0:Int)) fun y_1=>
 sel y_1
 (fun u=>some false)
 (fun v=>some true))
def jK.ce:Go.Ql.Callee:=⟨[(.st (.pair (.int .i64) (.pair (.int .i64) (.sl (.st (.pair (.int .i64) (.pair (.int .i64) (.pair (.sl (.int .i64)) (.pair (.int .i64) (.pair (.int .i64) (.sl (.int .i64)))))))))))),(.st (.pair (.int .i64) (.pair (.int .i64) (.sl (.st (.pair (.int .i64) (.pair (.int .i64) (.pair (.sl (.int .i64)) (.pair (.int .i64) (.pair (.int .i64) (.sl (.int .i64))))))))))))],[.bool],fun X=>jK X.1 X.2⟩
def jK.G:Env:=⟨88,tab,[(12,jV.ce)],[0,1,2,3,4,5,6,7,28,33,87],[],[],[(100004,jK.cd_r),(8,jK.c8r),(1,jK.c1r)],[],Jd⟩
theorem jK.p0:PcA jK.G Try.f11 0:=
 jB (s:=jK.c1r) (by kernel_rfl) (by kernel_rfl) (jC (sh:=jK.c1s) (fun ρ X Z=>(jo jd (jo jd jd))) (fun ρ X t k=>(by kernel_rfl)) (fun X=>by kernel_rfl))
theorem jK.p1:PcA jK.G Try.f11 1:=
 Jo (s:=jK.cd_r) (by kernel_rfl) (by kernel_rfl) (Jg (sh:=jK.cd_s) (I:=fun X Q=>(X.1,X.2.1,X.2.2.1,Q,(q4 X))) (fun X=>rfl) (fun ρ X Q Z=>(jo (je fun _=>(je fun _=>(je fun _=>(jo jd jd)))) jd)) (fun ρ X t k=>(JU (fun _=>(by kernel_rfl)) (fun _=>(by kernel_rfl)))) (fun X s=>by kernel_rfl))
theorem jK.p2:PcA jK.G Try.f11 2:=
 jB (s:=jK.c8r) (by kernel_rfl) (by kernel_rfl) (jC (sh:=jK.c8s) (fun ρ X Z=>(jo jd (jo jd (jo jd (jo jd (je fun _=>(jo jd (je fun _=>jd)))))))) (fun ρ X t k=>(by kernel_rfl)) (fun X=>by kernel_rfl))
theorem jK.ok:CalleeOk Try.prog 11 jK.ce:=fn_ok (G:=jK.G) Jn mixed Try.func11 ⟨(jX jV.ok Je),jY,jN⟩ (m:=3) (by kernel_rfl) ⟨⟨⟨trivial,jK.p0⟩,jK.p1⟩,jK.p2⟩ (by kernel_rfl) (fun _=>by kernel_rfl)
def JQ.cb_ (l:List Int)(x:Int)(i:Int)(Z:Int⊕(Int⊕Int)→Option ρ):Option ρ:=
 br (decide (i<(↑(List.length l):Int)))
 (bnd (idx l i) fun y=>
 br (y==x)
 (Z (.inr (.inl i)))
 (Z (.inl (IntKind.i64.wrap (i+(1:Int))))))
 (Z (.inr (.inr i)))
def JQ.cb_s:Shape:=⟨[(0,tb36),(1,tb5),(4,tb7),(5,tb5)],[]⟩
def JQ.cb_r:Ck:=Ck.ofLoop (S:=Int) (T:=Int⊕Int) JQ.cb_s (fun X=>X.2.2.2.1) (fun ρ X Q Z=>JQ.cb_ X.1 X.2.1 Q Z) (fun ρ X V Z=>sel V (fun V=>Z 1 (Shape.inj JQ.cb_s (X.1,X.2.1,true,V,()))) (fun V=>Z 2 (Shape.inj JQ.cb_s (X.1,X.2.1,X.2.2.1,V,()))))
def JQ (l:List Int) (x:Int):Option Bool:=
 bnd (iter (fun s↦JQ.cb_ l x s some) (0:Int)) fun y=>
 sel y
 (fun u=>some true)
 (fun v=>some false)
def JQ.ce:Go.Ql.Callee:=⟨[(.sl (.int .i64)),(.int .i64)],[.bool],fun X=>JQ X.1 X.2⟩
def JQ.G:Env:=⟨18,tab,[],[0,1,4,5,9,17],[],[],[(100002,JQ.cb_r)],[],Jd⟩
theorem JQ.p0:PcA JQ.G Try.f89 0:=
 Jo (s:=JQ.cb_r) (by kernel_rfl) (by kernel_rfl) (Jg (sh:=JQ.cb_s) (I:=fun X Q=>(X.1,X.2.1,X.2.2.1,Q,())) (fun X=>rfl) (fun ρ X Q Z=>(jo (je fun _=>(jo jd jd)) jd)) (fun ρ X t k=>(JU (fun _=>(by kernel_rfl)) (fun _=>(by kernel_rfl)))) (fun X s=>by kernel_rfl))
theorem JQ.ok:CalleeOk Try.prog 89 JQ.ce:=fn_ok (G:=JQ.G) Jn mixed Try.func89 ⟨Je,jY,jN⟩ (m:=1) (by kernel_rfl) ⟨trivial,JQ.p0⟩ (by kernel_rfl) (fun _=>by kernel_rfl)
def jq.c1 (o0:Int)(Z:Bool→Option ρ):Option ρ:=
 br (decide (o0<(1:Int)))
 (Z true)
 (Z (decide (o0>(6:Int))))
def jq.c1s:Shape:=⟨[(0,tb25),(1,tb5),(2,tb5),(3,tb12),(6,tb5)],[(3,tb26)]⟩
def jq.c1x0:Shape:=⟨[(0,tb25),(1,tb5),(2,tb5),(3,tb12),(6,tb5),(17,tb7)],[(3,tb26)]⟩
def jq.c1r:Ck:=Ck.of (T:=Bool) jq.c1s (fun ρ X Z=>jq.c1 (q4 X).1 Z) (fun ρ X V Z=>Z 0 (Shape.inj jq.c1x0 (X.1,X.2.1,X.2.2.1,X.2.2.2.1,V,(q4 X))))
def jq.c3 (o0:Int)(Z:Bool→Option ρ):Option ρ:=
 br (o0==(1:Int))
 (Z true)
 (Z (o0==(4:Int)))
def jq.c3x0:Shape:=⟨[(0,tb25),(1,tb5),(2,tb5),(3,tb12),(6,tb5),(7,tb7)],[(3,tb26)]⟩
def jq.c3r:Ck:=Ck.of (T:=Bool) jq.c1s (fun ρ X Z=>jq.c3 (q4 X).1 Z) (fun ρ X V Z=>Z 0 (Shape.inj jq.c3x0 (X.1,X.2.1,X.2.2.1,X.2.2.2.1,V,(q4 X))))
def jq.c4 (angle:Bool)(o1:Int)(Z:Bool→Option ρ):Option ρ:=
 br (decide (o1<(0:Int)))
 (Z true)
 (br (decide (o1>(15:Int)))
 (Z true)
 (br (decide (o1>(0:Int)))
 (Z (!angle))
 (Z false)))
def jq.c4x0:Shape:=⟨[(0,tb25),(1,tb5),(2,tb5),(3,tb12),(6,tb5),(7,tb7),(42,tb7)],[(3,tb26)]⟩
def jq.c4r:Ck:=Ck.of (T:=Bool) jq.c3x0 (fun ρ X Z=>jq.c4 (q4 X).1 (q4 X).2.2.1 Z) (fun ρ X V Z=>Z 0 (Shape.inj jq.c4x0 (X.1,X.2.1,X.2.2.1,X.2.2.2.1,(q4 X).1,V,(q4 X).2)))
def jq.c6 (qubits:Int)(o0:Int)(o3:Int)(Z:Bool→Option ρ):Option ρ:=
 br (decide (o3<(0:Int)))
 (Z true)
 (br (decide (o3≥qubits))
 (Z true)
 (br (o0==(1:Int))
 (Z (decide (o3>(0:Int))))
 (Z false)))
def jq.c6x0:Shape:=⟨[(0,tb25),(1,tb5),(2,tb5),(3,tb12),(6,tb5),(7,tb7),(61,tb7)],[(3,tb26)]⟩
def jq.c6r:Ck:=Ck.of (T:=Bool) jq.c3x0 (fun ρ X Z=>jq.c6 X.2.1 (q4 X).2.1 (q8 X).1 Z) (fun ρ X V Z=>Z 0 (Shape.inj jq.c6x0 (X.1,X.2.1,X.2.2.1,X.2.2.2.1,(q4 X).1,V,(q4 X).2)))
def jq.c8 (o0:Int)(o2:List Int)(Z:Bool→Option ρ):Option ρ:=
 br (decide ((↑(List.length o2):Int)>(0:Int)))
 (br (o0 !=(2:Int))
 (br (o0 !=(3:Int))
 (Z (o0 !=(4:Int)))
 (Z false))
 (Z false))
 (Z false)
def jq.c8x0:Shape:=⟨[(0,tb25),(1,tb5),(2,tb5),(3,tb12),(6,tb5),(7,tb7),(80,tb7)],[(3,tb26)]⟩
def jq.c8r:Ck:=Ck.of (T:=Bool) jq.c3x0 (fun ρ X Z=>jq.c8 (q4 X).2.1 (q4 X).2.2.2.1 Z) (fun ρ X V Z=>Z 0 (Shape.inj jq.c8x0 (X.1,X.2.1,X.2.2.1,X.2.2.2.1,(q4 X).1,V,(q4 X).2)))
def jq.c13 (qubits:Int)(i:Int)(o2:List Int)(Z:Bool→Option ρ):Option ρ:=
 bnd (idx o2 i) fun y=>
 br (decide (y<(0:Int)))
 (Z true)
 (bnd (idx o2 i) fun y_1=>
 Z (decide (y_1≥qubits)))
def jq.c13s:Shape:=⟨[(0,tb25),(1,tb5),(2,tb5),(3,tb12),(6,tb5),(7,tb7),(8,tb5)],[(3,tb26)]⟩
def jq.c13x0:Shape:=⟨[(0,tb25),(1,tb5),(2,tb5),(3,tb12),(6,tb5),(7,tb7),(8,tb5),(102,tb7)],[(3,tb26)]⟩
def jq.c13r:Ck:=Ck.of (T:=Bool) jq.c13s (fun ρ X Z=>jq.c13 X.2.1 (q4 X).2.1 (q8 X).1 Z) (fun ρ X V Z=>Z 0 (Shape.inj jq.c13x0 (X.1,X.2.1,X.2.2.1,X.2.2.2.1,(q4 X).1,(q4 X).2.1,V,(q4 X).2.2)))
def jq.c15 (i:Int)(o2:List Int)(o3:Int)(Z:Bool→Option ρ):Option ρ:=
 bnd (idx o2 i) fun y=>
 br (y==o3)
 (Z true)
 (bnd (okIf (decide ((0:Int)≤i)&&decide (i≤(↑(List.length o2):Int)))) fun y_1=>
 bnd (idx o2 i) fun y_2=>
 bnd (JQ (List.take (Int.toNat i) o2) y_2) fun y_3=>
 Z y_3)
def jq.c15x0:Shape:=⟨[(0,tb25),(1,tb5),(2,tb5),(3,tb12),(6,tb5),(7,tb7),(8,tb5),(122,tb7)],[(3,tb26)]⟩
def jq.c15r:Ck:=Ck.of (T:=Bool) jq.c13s (fun ρ X Z=>jq.c15 (q4 X).2.1 (q8 X).1 (q8 X).2.1 Z) (fun ρ X V Z=>Z 0 (Shape.inj jq.c15x0 (X.1,X.2.1,X.2.2.1,X.2.2.2.1,(q4 X).1,(q4 X).2.1,V,(q4 X).2.2)))
def jq.cC_ (qubits:Int)(i:Int)(o2:List Int)(o3:Int)(Z:Int⊕((Int×Int)⊕Int)→Option ρ):Option ρ:=
 br (decide (i<(↑(List.length o2):Int)))
 (bnd (jq.c13 qubits i o2 some) fun y=>
 br y
 (Z (.inr (.inl ((10:Int),i))))
 (bnd (jq.c15 i o2 o3 some) fun y_1=>
 br y_1
 (Z (.inr (.inl ((12:Int),i))))
 (Z (.inl (IntKind.i64.wrap (i+(1:Int)))))))
 (Z (.inr (.inr i)))
def jq.cC_r:Ck:=Ck.ofLoop (S:=Int) (T:=(Int×Int)⊕Int) jq.c13s (fun X=>(q4 X).2.1) (fun ρ X Q Z=>jq.cC_ X.2.1 Q (q8 X).1 (q8 X).2.1 Z) (fun ρ X V Z=>sel V (fun V=>Z 1 (Shape.inj jq.c13s (X.1,X.2.1,X.2.2.1,V.1,(q4 X).1,V.2,(q4 X).2.2))) (fun V=>Z 2 (Shape.inj jq.c13s (X.1,X.2.1,X.2.2.1,X.2.2.2.1,(q4 X).1,V,(q4 X).2.2))))
def jq.c18 (bits:Int)(o4:Int)(Z:Bool→Option ρ):Option ρ:=
 br (decide (o4<(0:Int)))
 (Z true)
 (Z (decide (o4≥bits)))
def jq.c18x0:Shape:=⟨[(0,tb25),(1,tb5),(2,tb5),(3,tb12),(6,tb5),(7,tb7),(8,tb5),(134,tb7)],[(3,tb26)]⟩
def jq.c18r:Ck:=Ck.of (T:=Bool) jq.c13s (fun ρ X Z=>jq.c18 X.2.2.1 (q8 X).2.2.1 Z) (fun ρ X V Z=>Z 0 (Shape.inj jq.c18x0 (X.1,X.2.1,X.2.2.1,X.2.2.2.1,(q4 X).1,(q4 X).2.1,V,(q4 X).2.2)))
def jq.cH_ (bits:Int)(o0:Int)(o4:Int)(Z:(Unit)⊕(Unit)→Option ρ):Option ρ:=
 br (o0==(5:Int))
 (bnd (jq.c18 bits o4 some) fun y=>
 br y
 (Z (.inl ()))
 (Z (.inr ())))
 (br (o4 !=(0:Int))
 (Z (.inl ()))
 (Z (.inr ())))
def jq.cH_r:Ck:=Ck.of (T:=(Unit)⊕(Unit)) jq.c13s (fun ρ X Z=>jq.cH_ X.2.2.1 (q4 X).2.2.1 (q8 X).2.2.1 Z) (fun ρ X V Z=>sel V (fun V=>Z 1 (Shape.inj jq.c13s (X.1,X.2.1,X.2.2.1,(13:Int),(q4 X)))) (fun V=>Z 0 (Shape.inj jq.c13s X)))
def jq.c27 (bits:Int)(i_1:Int)(o5:List Int)(Z:Bool→Option ρ):Option ρ:=
 bnd (idx o5 i_1) fun y=>
 br (y==(0:Int))
 (Z true)
 (bnd (idx o5 i_1) fun y_1=>
 br (decide (y_1>bits))
 (Z true)
 (bnd (idx o5 i_1) fun y_2=>
 Z (decide (y_2<IntKind.i64.wrap ((0:Int)-bits)))))
def jq.c27s:Shape:=⟨[(0,tb25),(1,tb5),(2,tb5),(3,tb12),(6,tb5),(7,tb7),(8,tb5),(9,tb5)],[(3,tb26)]⟩
def jq.c27x0:Shape:=⟨[(0,tb25),(1,tb5),(2,tb5),(3,tb12),(6,tb5),(7,tb7),(8,tb5),(9,tb5),(173,tb7)],[(3,tb26)]⟩
def jq.c27r:Ck:=Ck.of (T:=Bool) jq.c27s (fun ρ X Z=>jq.c27 X.2.2.1 (q4 X).2.2.1 (q4 (q8 X)).1 Z) (fun ρ X V Z=>Z 0 (Shape.inj jq.c27x0 (X.1,X.2.1,X.2.2.1,X.2.2.2.1,(q4 X).1,(q4 X).2.1,(q4 X).2.2.1,V,(q4 X).2.2.2)))
def jq.cg_ (bits:Int)(i_1:Int)(o5:List Int)(Z:Int⊕(Int⊕Int)→Option ρ):Option ρ:=
 br (decide (i_1<(↑(List.length o5):Int)))
 (bnd (jq.c27 bits i_1 o5 some) fun y=>
 br y
 (Z (.inr (.inl i_1)))
 (Z (.inl (IntKind.i64.wrap (i_1+(1:Int))))))
 (Z (.inr (.inr i_1)))
def jq.cg_r:Ck:=Ck.ofLoop (S:=Int) (T:=Int⊕Int) jq.c27s (fun X=>(q4 X).2.2.1) (fun ρ X Q Z=>jq.cg_ X.2.2.1 Q (q4 (q8 X)).1 Z) (fun ρ X V Z=>sel V (fun V=>Z 1 (Shape.inj jq.c27s (X.1,X.2.1,X.2.2.1,(14:Int),(q4 X).1,(q4 X).2.1,V,(q4 X).2.2.2))) (fun V=>Z 4 (Shape.inj jq.c27s (X.1,X.2.1,X.2.2.1,X.2.2.2.1,(q4 X).1,(q4 X).2.1,V,(q4 X).2.2.2))))
def jq (o:YO) (qubits:Int) (bits:Int):Option Int:=
 bnd (jq.c1 o.1 some) fun y=>
 br y
 (some (8:Int))
 (bnd (jq.c3 o.1 some) fun y_1=>
 bnd (jq.c4 y_1 o.2.1 some) fun y_2=>
 br y_2
 (some (9:Int))
 (bnd (jq.c6 qubits o.1 o.2.2.2.1 some) fun y_3=>
 br y_3
 (some (10:Int))
 (bnd (jq.c8 o.1 o.2.2.1 some) fun y_4=>
 br y_4
 (some (11:Int))
 (bnd (iter (fun s↦jq.cC_ qubits s o.2.2.1 o.2.2.2.1 some) (0:Int)) fun y_5=>
 sel y_5
 (fun u=>some u.1)
 (fun v=>bnd (jq.cH_ bits o.1 o.2.2.2.2.1 some) fun y6=>
 sel y6
 (fun u_1=>some (13:Int))
 (fun v_1=>br (decide ((↑(List.length o.2.2.2.2.2):Int)>(24:Int)))
 (some (14:Int))
 (bnd (iter (fun s↦jq.cg_ bits s o.2.2.2.2.2 some) (0:Int)) fun y7=>
 sel y7
 (fun u_2=>some (14:Int))
 (fun v_2=>some (0:Int)))))))))
def jq.ce:Go.Ql.Callee:=⟨[(.st (.pair (.int .i64) (.pair (.int .i64) (.pair (.sl (.int .i64)) (.pair (.int .i64) (.pair (.int .i64) (.sl (.int .i64)))))))),(.int .i64),(.int .i64)],[(.int .i64)],fun X=>jq X.1 X.2.1 X.2.2⟩
def jq.G:Env:=⟨174,tab,[(89,JQ.ce)],[0,1,2,3,6,7,8,9,17,42,61,80,85,102,122,125,134,137,141,146,173],[],[(15,[⟨[],[],[105,108,109],[]⟩,⟨[0],[],[105,108,109],[]⟩,⟨[],[],[103,104,108,109],[]⟩,⟨[1,0,2],[],[108,109],[]⟩,⟨[3,1,0,2],[],[108,109],[]⟩,⟨[],[],[103,104,105,106,107],[]⟩,⟨[5],[],[103,104,105,106,107],[]⟩,⟨[4,3,1,0,2,6,5],[],[],[]⟩,⟨[7,4,3,1,0,2,6,5],[],[],[]⟩,⟨[8,7,4,3,1,0,2,6,5],[],[114,116,117,118,119,120],[]⟩,⟨[9,8,7,4,3,1,0,2,6,5],[],[114,116,117,118,119,120],[]⟩,⟨[8,7,4,3,1,0,2,6,5],[],[112,113,116,117,118,119,120],[]⟩,⟨[10,9,8,7,4,3,1,0,2,6,5,11],[],[116,117,118,119,120],[]⟩,⟨[8,7,4,3,1,0,2,6,5],[],[112,113,114,115,118],[]⟩,⟨[13,8,7,4,3,1,0,2,6,5],[],[112,113,114,115,118],[]⟩,⟨[8,7,4,3,1,0,2,6,5],[],[112,113,114,115,116,117],[]⟩,⟨[14,13,8,7,4,3,1,0,2,6,5,15],[],[112,113,114,115],[]⟩,⟨[16,14,13,8,7,4,3,1,0,2,6,5,15],[],[112,113,114,115],[]⟩,⟨[12,10,9,8,7,4,3,1,0,2,6,5,11,17,16,14,13,15],[],[],[]⟩,⟨[8,7,4,3,1,0,2,6,5,18,12,10,9,11,17,16,14,13,15],[],[],[]⟩])],[(100025,jq.cg_r),(27,jq.c27r),(269649,jq.cH_r),(18,jq.c18r),(100011,jq.cC_r),(15,jq.c15r),(13,jq.c13r),(8,jq.c8r),(6,jq.c6r),(4,jq.c4r),(3,jq.c3r),(1,jq.c1r)],[],Jd⟩
theorem jq.p0:PcA jq.G Try.f45 0:=
 jB (s:=jq.c1r) (by kernel_rfl) (by kernel_rfl) (jC (sh:=jq.c1s) (fun ρ X Z=>(jo jd jd)) (fun ρ X t k=>(by kernel_rfl)) (fun X=>by kernel_rfl))
theorem jq.p1:PcA jq.G Try.f45 1:=
 jB (s:=jq.c3r) (by kernel_rfl) (by kernel_rfl) (jC (sh:=jq.c1s) (fun ρ X Z=>(jo jd jd)) (fun ρ X t k=>(by kernel_rfl)) (fun X=>by kernel_rfl))
theorem jq.p2:PcA jq.G Try.f45 2:=
 jB (s:=jq.c4r) (by kernel_rfl) (by kernel_rfl) (jC (sh:=jq.c3x0) (fun ρ X Z=>(jo jd (jo jd (jo jd jd)))) (fun ρ X t k=>(by kernel_rfl)) (fun X=>by kernel_rfl))
theorem jq.p3:PcA jq.G Try.f45 3:=
 jB (s:=jq.c6r) (by kernel_rfl) (by kernel_rfl) (jC (sh:=jq.c3x0) (fun ρ X Z=>(jo jd (jo jd (jo jd jd)))) (fun ρ X t k=>(by kernel_rfl)) (fun X=>by kernel_rfl))
theorem jq.p4:PcA jq.G Try.f45 4:=
 jB (s:=jq.c8r) (by kernel_rfl) (by kernel_rfl) (jC (sh:=jq.c3x0) (fun ρ X Z=>(jo (jo (jo jd jd) jd) jd)) (fun ρ X t k=>(by kernel_rfl)) (fun X=>by kernel_rfl))
theorem jq.p5:PcA jq.G Try.f45 5:=
 Jo (s:=jq.cC_r) (by kernel_rfl) (by kernel_rfl) (Jg (sh:=jq.c13s) (I:=fun X Q=>(X.1,X.2.1,X.2.2.1,X.2.2.2.1,(q4 X).1,Q,(q4 X).2.2)) (fun X=>rfl) (fun ρ X Q Z=>(jo (je fun _=>(jo jd (je fun _=>(jo jd jd)))) jd)) (fun ρ X t k=>(JU (fun _=>(by kernel_rfl)) (fun _=>(by kernel_rfl)))) (fun X s=>by kernel_rfl))
theorem jq.p6:PcA jq.G Try.f45 6:=
 jB (s:=jq.c13r) (by kernel_rfl) (by kernel_rfl) (jC (sh:=jq.c13s) (fun ρ X Z=>(je fun _=>(jo jd (je fun _=>jd)))) (fun ρ X t k=>(by kernel_rfl)) (fun X=>by kernel_rfl))
theorem jq.p7:PcA jq.G Try.f45 7:=
 jB (s:=jq.c15r) (by kernel_rfl) (by kernel_rfl) (jC (sh:=jq.c13s) (fun ρ X Z=>(je fun _=>(jo jd (je fun _=>(je fun _=>(je fun _=>jd)))))) (fun ρ X t k=>(by kernel_rfl)) (fun X=>by kernel_rfl))
theorem jq.p8:PcA jq.G Try.f45 8:=
 kq (s:=jq.cH_r) (by kernel_rfl) (by kernel_rfl) (jC (sh:=jq.c13s) (fun ρ X Z=>(jo (je fun _=>(jo jd jd)) (jo jd jd))) (fun ρ X t k=>(JU (fun _=>(by kernel_rfl)) (fun _=>(by kernel_rfl)))) (fun X=>by kernel_rfl))
theorem jq.p9:PcA jq.G Try.f45 9:=
 jB (s:=jq.c18r) (by kernel_rfl) (by kernel_rfl) (jC (sh:=jq.c13s) (fun ρ X Z=>(jo jd jd)) (fun ρ X t k=>(by kernel_rfl)) (fun X=>by kernel_rfl))
theorem jq.p10:PcA jq.G Try.f45 10:=
 Jo (s:=jq.cg_r) (by kernel_rfl) (by kernel_rfl) (Jg (sh:=jq.c27s) (I:=fun X Q=>(X.1,X.2.1,X.2.2.1,X.2.2.2.1,(q4 X).1,(q4 X).2.1,Q,(q4 X).2.2.2)) (fun X=>rfl) (fun ρ X Q Z=>(jo (je fun _=>(jo jd jd)) jd)) (fun ρ X t k=>(JU (fun _=>(by kernel_rfl)) (fun _=>(by kernel_rfl)))) (fun X s=>by kernel_rfl))
theorem jq.p11:PcA jq.G Try.f45 11:=
 jB (s:=jq.c27r) (by kernel_rfl) (by kernel_rfl) (jC (sh:=jq.c27s) (fun ρ X Z=>(je fun _=>(jo jd (je fun _=>(jo jd (je fun _=>jd)))))) (fun ρ X t k=>(by kernel_rfl)) (fun X=>by kernel_rfl))
theorem jq.ok:CalleeOk Try.prog 45 jq.ce:=fn_ok (G:=jq.G) Jn mixed Try.func45 ⟨(jX JQ.ok Je),jY,jN⟩ (m:=12) (by kernel_rfl) ⟨⟨⟨⟨⟨⟨⟨⟨⟨⟨⟨⟨trivial,jq.p0⟩,jq.p1⟩,jq.p2⟩,jq.p3⟩,jq.p4⟩,jq.p5⟩,jq.p6⟩,jq.p7⟩,jq.p8⟩,jq.p9⟩,jq.p10⟩,jq.p11⟩ (by kernel_rfl) (fun _=>by kernel_rfl)
def Jb.c1 (c0:Int)(Z:Bool→Option ρ):Option ρ:=
 br (decide (c0<(1:Int)))
 (Z true)
 (Z (decide (c0>(12:Int))))
def Jb.c1s:Shape:=⟨[(0,tb38),(1,tb1),(2,tb2)],[(1,tb34),(2,tb19)]⟩
def Jb.c1x0:Shape:=⟨[(0,tb38),(1,tb1),(2,tb2),(12,tb7)],[(1,tb34),(2,tb19)]⟩
def Jb.c1r:Ck:=Ck.of (T:=Bool) Jb.c1s (fun ρ X Z=>Jb.c1 X.2.1 Z) (fun ρ X V Z=>Z 0 (Shape.inj Jb.c1x0 (X.1,V,X.2)))
def Jb.c3 (c1:Int)(Z:Bool→Option ρ):Option ρ:=
 br (decide (c1<(0:Int)))
 (Z true)
 (Z (decide (c1>(12:Int))))
def Jb.c3x0:Shape:=⟨[(0,tb38),(1,tb1),(2,tb2),(21,tb7)],[(1,tb34),(2,tb19)]⟩
def Jb.c3r:Ck:=Ck.of (T:=Bool) Jb.c1s (fun ρ X Z=>Jb.c3 X.2.2.1 Z) (fun ρ X V Z=>Z 0 (Shape.inj Jb.c3x0 (X.1,V,X.2)))
def Jb.c10 (i:Int)(c0:Int)(c1:Int)(c2:List YO)(Z:Int→Option ρ):Option ρ:=
 bnd (idx c2 i) fun y=>
 bnd (jq y c0 c1) fun y_1=>
 Z y_1
def Jb.c10s:Shape:=⟨[(0,tb38),(1,tb1),(2,tb2),(3,tb5)],[(1,tb34),(2,tb19)]⟩
def Jb.c10x0:Shape:=⟨[(0,tb38),(1,tb1),(2,tb2),(3,tb5),(4,tb5)],[(1,tb34),(2,tb19)]⟩
def Jb.c10r:Ck:=Ck.of (T:=Int) Jb.c10s (fun ρ X Z=>Jb.c10 X.2.1 X.2.2.1 X.2.2.2.1 (q4 X).1 Z) (fun ρ X V Z=>Z 0 (Shape.inj Jb.c10x0 (X.1,X.2.1,V,X.2.2)))
def Jb.cc_ (i:Int)(c0:Int)(c1:Int)(c2:List YO)(Z:Int⊕((Int×Int×Int)⊕Int)→Option ρ):Option ρ:=
 br (decide (i<(↑(List.length c2):Int)))
 (bnd (Jb.c10 i c0 c1 c2 some) fun y=>
 br (y !=(0:Int))
 (bnd (ki y i) fun y_1=>
 Z (.inr (.inl (i,y_1.1,y_1.2))))
 (Z (.inl (IntKind.i64.wrap (i+(1:Int))))))
 (Z (.inr (.inr i)))
def Jb.cc_r:Ck:=Ck.ofLoop (S:=Int) (T:=(Int×Int×Int)⊕Int) Jb.c10s (fun X=>X.2.1) (fun ρ X Q Z=>Jb.cc_ Q X.2.2.1 X.2.2.2.1 (q4 X).1 Z) (fun ρ X V Z=>sel V (fun V=>Z 1 (Shape.inj Jb.c10s (X.1,V.1,X.2.2.1,X.2.2.2.1,(q4 X).1,V.2.1,V.2.2,()))) (fun V=>Z 2 (Shape.inj Jb.c10s (X.1,V,X.2.2))))
def Jb (c:Int×(Int×(List YO))):Option (Int×Int):=
 bnd (Jb.c1 c.1 some) fun y=>
 br y
 (bnd (ki (6:Int) (0:Int)) fun y_1=>
 some (y_1.1,y_1.2))
 (bnd (Jb.c3 c.2.1 some) fun y_2=>
 br y_2
 (bnd (ki (7:Int) (0:Int)) fun y_3=>
 some (y_3.1,y_3.2))
 (br (decide ((↑(List.length c.2.2):Int)>(4096:Int)))
 (bnd (ki (2:Int) (0:Int)) fun y_4=>
 some (y_4.1,y_4.2))
 (bnd (iter (fun s↦Jb.cc_ s c.1 c.2.1 c.2.2 some) (0:Int)) fun y_5=>
 sel y_5
 (fun u=>some (u.2.1,u.2.2))
 (fun v=>some ((0:Int),(0:Int))))))
def Jb.ce:Go.Ql.Callee:=⟨[(.st (.pair (.int .i64) (.pair (.int .i64) (.sl (.st (.pair (.int .i64) (.pair (.int .i64) (.pair (.sl (.int .i64)) (.pair (.int .i64) (.pair (.int .i64) (.sl (.int .i64))))))))))))],[(.st (.pair (.int .i64) (.int .i64)))],fun X=>Jb X⟩
def Jb.G:Env:=⟨51,tab,[(44,ki.ce),(45,jq.ce)],[0,1,2,3,4,12,21,26,32,46],[],[(10,[⟨[],[],[37,40,41,42,43],[]⟩,⟨[0],[],[37,40,41,42,43],[]⟩,⟨[],[],[35,36,40,41,42,43],[]⟩,⟨[1,0,2],[],[40,41,42,43],[]⟩,⟨[3,1,0,2],[],[40,41,42,43],[]⟩,⟨[],[],[35,36,37,38,39,42,43],[]⟩,⟨[5],[],[35,36,37,38,39,42,43],[]⟩,⟨[],[],[35,36,37,38,39,40,41],[]⟩,⟨[7],[],[35,36,37,38,39,40,41],[]⟩,⟨[4,3,1,0,2,6,5,8,7],[],[],[]⟩,⟨[9,4,3,1,0,2,6,5,8,7],[],[],[]⟩])],[(100008,Jb.cc_r),(10,Jb.c10r),(3,Jb.c3r),(1,Jb.c1r)],[],Jd⟩
theorem Jb.p0:PcA Jb.G Try.f13 0:=
 jB (s:=Jb.c1r) (by kernel_rfl) (by kernel_rfl) (jC (sh:=Jb.c1s) (fun ρ X Z=>(jo jd jd)) (fun ρ X t k=>(by kernel_rfl)) (fun X=>by kernel_rfl))
theorem Jb.p1:PcA Jb.G Try.f13 1:=
 jB (s:=Jb.c3r) (by kernel_rfl) (by kernel_rfl) (jC (sh:=Jb.c1s) (fun ρ X Z=>(jo jd jd)) (fun ρ X t k=>(by kernel_rfl)) (fun X=>by kernel_rfl))
theorem Jb.p2:PcA Jb.G Try.f13 2:=
 Jo (s:=Jb.cc_r) (by kernel_rfl) (by kernel_rfl) (Jg (sh:=Jb.c10s) (I:=fun X Q=>(X.1,Q,X.2.2)) (fun X=>rfl) (fun ρ X Q Z=>(jo (je fun _=>(jo (je fun _=>jd) jd)) jd)) (fun ρ X t k=>(JU (fun _=>(by kernel_rfl)) (fun _=>(by kernel_rfl)))) (fun X s=>by kernel_rfl))
theorem Jb.p3:PcA Jb.G Try.f13 3:=
 jB (s:=Jb.c10r) (by kernel_rfl) (by kernel_rfl) (jC (sh:=Jb.c10s) (fun ρ X Z=>(je fun _=>(je fun _=>jd))) (fun ρ X t k=>(by kernel_rfl)) (fun X=>by kernel_rfl))
theorem Jb.ok:CalleeOk Try.prog 13 Jb.ce:=fn_ok (G:=Jb.G) Jn mixed Try.func13 ⟨(jX ki.ok (jX jq.ok Je)),jY,jN⟩ (m:=4) (by kernel_rfl) ⟨⟨⟨⟨trivial,Jb.p0⟩,Jb.p1⟩,Jb.p2⟩,Jb.p3⟩ (by kernel_rfl) (fun _=>by kernel_rfl)
def JJ.c6 (o1:Int)(o2:List Int)(Z:Bool→Option ρ):Option ρ:=
 br ((↑(List.length o2):Int)==(0:Int))
 (br (Int.tmod o1 (4:Int)==(0:Int))
 (Z true)
 (br ((↑(List.length o2):Int)==(1:Int))
 (Z (Int.tmod o1 (8:Int)==(0:Int)))
 (Z false)))
 (br ((↑(List.length o2):Int)==(1:Int))
 (Z (Int.tmod o1 (8:Int)==(0:Int)))
 (Z false))
def JJ.c6s:Shape:=⟨[(0,tb25),(1,tb1),(2,tb7)],[(1,tb26)]⟩
def JJ.c6r:Ck:=Ck.of (T:=Bool) JJ.c6s (fun ρ X Z=>JJ.c6 X.2.2.2.1 (q4 X).1 Z) (fun ρ X V Z=>Z 0 (Shape.inj JJ.c6s (X.1,V,X.2.2)))
def JJ (o:YO):Option Bool:=
 br (o.1==(2:Int))
 (some (decide ((↑(List.length o.2.2.1):Int)≤(1:Int))))
 (br (o.1==(3:Int))
 (some ((↑(List.length o.2.2.1):Int)==(0:Int)))
 (br (o.1==(4:Int))
 (bnd (JJ.c6 o.2.1 o.2.2.1 some) fun y=>
 some y)
 (some true)))
def JJ.ce:Go.Ql.Callee:=⟨[(.st (.pair (.int .i64) (.pair (.int .i64) (.pair (.sl (.int .i64)) (.pair (.int .i64) (.pair (.int .i64) (.sl (.int .i64))))))))],[.bool],fun X=>JJ X⟩
def JJ.G:Env:=⟨42,tab,[],[0,1,2,5,12,19],[],[],[(6,JJ.c6r)],[],Jd⟩
theorem JJ.p0:PcA JJ.G Try.f58 0:=
 jB (s:=JJ.c6r) (by kernel_rfl) (by kernel_rfl) (jC (sh:=JJ.c6s) (fun ρ X Z=>(jo (jo jd (jo jd jd)) (jo jd jd))) (fun ρ X t k=>(by kernel_rfl)) (fun X=>by kernel_rfl))
theorem JJ.ok:CalleeOk Try.prog 58 JJ.ce:=fn_ok (G:=JJ.G) Jn mixed Try.func58 ⟨Je,jY,jN⟩ (m:=1) (by kernel_rfl) ⟨trivial,JJ.p0⟩ (by kernel_rfl) (fun _=>by kernel_rfl)
def Jj.cb_ (i:Int)(c2:List YO)(Z:Int⊕((Int×Int×Int)⊕Int)→Option ρ):Option ρ:=
 br (decide (i<(↑(List.length c2):Int)))
 (bnd (idx c2 i) fun y=>
 bnd (JJ y) fun y_1=>
 br (!y_1)
 (bnd (ki (41:Int) i) fun y_2=>
 Z (.inr (.inl (i,y_2.1,y_2.2))))
 (Z (.inl (IntKind.i64.wrap (i+(1:Int))))))
 (Z (.inr (.inr i)))
def Jj.cb_s:Shape:=⟨[(0,tb38),(1,tb1),(2,tb2),(3,tb5)],[(1,tb34),(2,tb19)]⟩
def Jj.cb_r:Ck:=Ck.ofLoop (S:=Int) (T:=(Int×Int×Int)⊕Int) Jj.cb_s (fun X=>X.2.1) (fun ρ X Q Z=>Jj.cb_ Q (q4 X).1 Z) (fun ρ X V Z=>sel V (fun V=>Z 1 (Shape.inj Jj.cb_s (X.1,V.1,X.2.2.1,X.2.2.2.1,(q4 X).1,V.2.1,V.2.2,()))) (fun V=>Z 2 (Shape.inj Jj.cb_s (X.1,V,X.2.2))))
def Jj (c:Int×(Int×(List YO))):Option (Int×Int):=
 bnd (iter (fun s↦Jj.cb_ s c.2.2 some) (0:Int)) fun y=>
 sel y
 (fun u=>some (u.2.1,u.2.2))
 (fun v=>some ((0:Int),(0:Int)))
def Jj.ce:Go.Ql.Callee:=⟨[(.st (.pair (.int .i64) (.pair (.int .i64) (.sl (.st (.pair (.int .i64) (.pair (.int .i64) (.pair (.sl (.int .i64)) (.pair (.int .i64) (.pair (.int .i64) (.sl (.int .i64))))))))))))],[(.st (.pair (.int .i64) (.int .i64)))],fun X=>Jj X⟩
def Jj.G:Env:=⟨21,tab,[(58,JJ.ce),(44,ki.ce)],[0,1,2,3,8,17],[],[],[(100002,Jj.cb_r)],[],Jd⟩
theorem Jj.p0:PcA Jj.G Try.f22 0:=
 Jo (s:=Jj.cb_r) (by kernel_rfl) (by kernel_rfl) (Jg (sh:=Jj.cb_s) (I:=fun X Q=>(X.1,Q,X.2.2)) (fun X=>rfl) (fun ρ X Q Z=>(jo (je fun _=>(je fun _=>(jo (je fun _=>jd) jd))) jd)) (fun ρ X t k=>(JU (fun _=>(by kernel_rfl)) (fun _=>(by kernel_rfl)))) (fun X s=>by kernel_rfl))
theorem Jj.ok:CalleeOk Try.prog 22 Jj.ce:=fn_ok (G:=Jj.G) Jn mixed Try.func22 ⟨(jX JJ.ok (jX ki.ok Je)),jY,jN⟩ (m:=1) (by kernel_rfl) ⟨trivial,Jj.p0⟩ (by kernel_rfl) (fun _=>by kernel_rfl)
def Jl.c7 (o1:Int)(o2:List Int)(Z:Bool→Option ρ):Option ρ:=
 br ((↑(List.length o2):Int)==(0:Int))
 (br (Int.tmod o1 (4:Int)==(0:Int))
 (Z true)
 (br ((↑(List.length o2):Int)==(1:Int))
 (Z (Int.tmod o1 (8:Int)==(0:Int)))
 (Z false)))
 (br ((↑(List.length o2):Int)==(1:Int))
 (Z (Int.tmod o1 (8:Int)==(0:Int)))
 (Z false))
def Jl.c7s:Shape:=⟨[(0,tb25),(1,tb1),(2,tb7),(4,tb5)],[(1,tb26)]⟩
def Jl.c7r:Ck:=Ck.of (T:=Bool) Jl.c7s (fun ρ X Z=>Jl.c7 (q4 X).1 (q4 X).2.1 Z) (fun ρ X V Z=>Z 0 (Shape.inj Jl.c7s (X.1,V,X.2.2)))
def Jl (o:YO):Option Bool:=
 br (o.1==(2:Int))
 (some (decide ((↑(List.length o.2.2.1):Int)<(2:Int))))
 (br (o.1==(3:Int))
 (some ((↑(List.length o.2.2.1):Int)==(0:Int)))
 (br (o.1==(4:Int))
 (bnd (Jl.c7 o.2.1 o.2.2.1 some) fun y=>
 some y)
 (some true)))
def Jl.ce:Go.Ql.Callee:=⟨[(.st (.pair (.int .i64) (.pair (.int .i64) (.pair (.sl (.int .i64)) (.pair (.int .i64) (.pair (.int .i64) (.sl (.int .i64))))))))],[.bool],fun X=>Jl X⟩
def Jl.G:Env:=⟨41,tab,[],[0,1,2,4,5,11,17],[],[],[(7,Jl.c7r)],[],Jd⟩
theorem Jl.p0:PcA Jl.G Try.f82 0:=
 jB (s:=Jl.c7r) (by kernel_rfl) (by kernel_rfl) (jC (sh:=Jl.c7s) (fun ρ X Z=>(jo (jo jd (jo jd jd)) (jo jd jd))) (fun ρ X t k=>(by kernel_rfl)) (fun X=>by kernel_rfl))
theorem Jl.ok:CalleeOk Try.prog 82 Jl.ce:=fn_ok (G:=Jl.G) Jn mixed Try.func82 ⟨Je,jY,jN⟩ (m:=1) (by kernel_rfl) ⟨trivial,Jl.p0⟩ (by kernel_rfl) (fun _=>by kernel_rfl)
abbrev tb74:SD:=.one (.ref 12 0)
abbrev tb76:SD:=.one (.ref 0 0)
abbrev tb77:SO:=.box [.val (.int .i64),.own 1 0,.own 2 0]
abbrev tb78:SD:=.one (.val (.nilv 0))
abbrev tb79:SD:=.one (.ref 9 0)
abbrev tb80:SO:=.box [.val (.int .i64),.own 2009 0,.own 3009 0]
def jI.pre:Shape:=⟨[(0,tb5),(1,tb5)],[]⟩
def jI.post:Shape:=⟨[(0,tb76)],[(0,tb77),(1,tb22),(2,tb22)]⟩
def jI.c5 (t1:Int)(q:Int)(ul:List YP)(Z:Unit→Option ρ):Option ρ:=
 bnd (okIf (decide ((0:Int)≤q))) fun y=>
 bnd (okIf (decide ((0:Int)≤q))) fun y_1=>
 bnd (okIf (decide ((List.length ul+(1:Nat))*(24:Nat)≤(140737488355328:Nat))&&decide (List.length ul+(1:Nat)≤(140737488355328:Nat)))) fun y_2=>
 Z ()
def jI.c5s:Shape:=⟨[(0,tb5),(1,tb5),(4,tb78),(5,tb79),(6,tb5),(10,tb5),(11,tb5)],[(9,tb80),(2009,tb22),(3009,tb22)]⟩
def jI.c5r:Ck:=Ck.of (T:=Unit) jI.c5s (fun ρ X Z=>jI.c5 X.2.1 X.2.2.2.1 (q4 X).2.2.2.1 Z) (fun ρ X V Z=>Z 0 (Shape.inj jI.c5s (X.1,X.2.1,X.2.2.1,X.2.2.2.1,(q4 X).1,(q4 X).2.1,(q4 X).2.2.1,((q4 X).2.2.2.1++[((0:Int),IntKind.u64.wrap ((1:Int)*(2:Int)^Min.min (Int.toNat X.2.2.2.1) (64:Nat)),ibits BinOp.and IntKind.i64 (Int.fdiv X.2.1 ((2:Int)^Min.min (Int.toNat X.2.2.2.1) (64:Nat))) (1:Int)==(1:Int))]),(q8 X))))
def jI.c6 (q:Int)(um:List YP)(Z:Unit→Option ρ):Option ρ:=
 bnd (okIf (decide ((0:Int)≤q))) fun y=>
 bnd (okIf (decide ((List.length um+(1:Nat))*(24:Nat)≤(140737488355328:Nat))&&decide (List.length um+(1:Nat)≤(140737488355328:Nat)))) fun y_1=>
 Z ()
def jI.c6r:Ck:=Ck.of (T:=Unit) jI.c5s (fun ρ X Z=>jI.c6 X.2.2.2.1 (q8 X).1 Z) (fun ρ X V Z=>Z 0 (Shape.inj jI.c5s (X.1,X.2.1,X.2.2.1,X.2.2.2.1,(q4 X).1,(q4 X).2.1,(q4 X).2.2.1,(q4 X).2.2.2.1,((q8 X).1++[(IntKind.u64.wrap ((1:Int)*(2:Int)^Min.min (Int.toNat X.2.2.2.1) (64:Nat)),(0:Int),false)]),())))
def jI.ca_ (t1:Int)(t10:Int)(t11:Int)(ul:List YP)(um:List YP)(Z:(Int×(List YP)×(List YP))⊕(Int×(List YP)×(List YP))→Option ρ):Option ρ:=
 br (decide (t11<t10))
 (bnd (jI.c5 t1 t11 ul some) fun y=>
 bnd (jI.c6 t11 um some) fun y_1=>
 Z (.inl ((IntKind.i64.wrap (t11+(1:Int))),(ul++[((0:Int),IntKind.u64.wrap ((1:Int)*(2:Int)^Min.min (Int.toNat t11) (64:Nat)),ibits BinOp.and IntKind.i64 (Int.fdiv t1 ((2:Int)^Min.min (Int.toNat t11) (64:Nat))) (1:Int)==(1:Int))]),(um++[(IntKind.u64.wrap ((1:Int)*(2:Int)^Min.min (Int.toNat t11) (64:Nat)),(0:Int),false)]))))
 (Z (.inr (t11,ul,um)))
def jI.ca_s:Shape:=⟨[(0,tb5),(1,tb5),(4,tb78),(5,tb79),(10,tb5),(11,tb5)],[(9,tb80),(2009,tb22),(3009,tb22)]⟩
def jI.ca_r:Ck:=Ck.ofLoop (S:=Int×(List YP)×(List YP)) (T:=Int×(List YP)×(List YP)) jI.ca_s (fun X=>((q4 X).1,(q4 X).2.2.1,(q4 X).2.2.2.1)) (fun ρ X Q Z=>jI.ca_ X.2.1 X.2.2.2.1 Q.1 Q.2.1 Q.2.2 Z) (fun ρ X V Z=>Z 2 (Shape.inj jI.ca_s (X.1,X.2.1,X.2.2.1,X.2.2.2.1,V.1,(q4 X).2.1,V.2.1,V.2.2,())))
def jI (n:Int) (t1:Int):Option (Int×(List YP)×(List YP)×Unit):=
 bnd (iter (fun s↦jI.ca_ t1 n s.1 s.2.1 s.2.2 some) ((0:Int),[],[])) fun y=>
 some (n,y.2.1,y.2.2,())
def jI.mc:MCallee:=⟨38,jI.pre,jI.post,fun X=>jI X.1 X.2.1⟩
def jI.G:Env:=⟨45,tab,[],[0,1,4,5,6,10,11,12],[8,9,2009,3009],[(6,[⟨[],[],[32,33,34,35,36,37,38,39,40],[39,3009]⟩,⟨[],[],[31,36,37,38,39],[39]⟩,⟨[1],[],[31,36,37,38,39],[39]⟩,⟨[2,1],[],[31,36,37,38,39],[39]⟩,⟨[3,2,1],[],[31,36,37,38,39],[39]⟩,⟨[],[],[31,32,33,34,35],[]⟩,⟨[5],[],[31,32,33,34,35],[]⟩,⟨[6,5],[],[31,32,33,34,35],[]⟩,⟨[7,6,5],[39],[31,32,33,34,35],[]⟩,⟨[4,3,2,1,8,7,6,5],[3009],[31],[]⟩,⟨[0,1,2,3,4,5,6,7,8,9],[],[],[]⟩,⟨[10,0,1,2,3,4,5,6,7,8,9],[],[],[]⟩,⟨[11,10,0,1,2,3,4,5,6,7,8,9],[9],[],[]⟩]),
 (5,[⟨[],[],[15,16,17,18,19,20,21,22,23,24,25,26,27,28],[27,2009]⟩,⟨[],[],[14,19,20,21,22,23,24,25,26,27],[27]⟩,⟨[1],[],[14,19,20,21,22,23,24,25,26,27],[27]⟩,⟨[2,1],[],[14,19,20,21,22,23,24,25,26,27],[27]⟩,⟨[3,2,1],[],[14,19,20,21,22,23,24,25,26,27],[27]⟩,⟨[],[],[14,15,16,17,18,21,22,23,24,25],[]⟩,⟨[5],[],[14,15,16,17,18,21,22,23,24,25],[]⟩,⟨[],[],[14,15,16,17,18,19,20,22],[]⟩,⟨[],[],[14,15,16,17,18,19,20,21],[]⟩,⟨[7,8],[],[14,15,16,17,18,19,20],[]⟩,⟨[9,7,8],[],[14,15,16,17,18,19,20],[]⟩,⟨[10,9,7,8],[],[14,15,16,17,18,19,20],[]⟩,⟨[6,5,11,10,9,7,8],[],[14,15,16,17,18],[]⟩,⟨[12,6,5,11,10,9,7,8],[27],[14,15,16,17,18],[]⟩,⟨[4,3,2,1,13,12,6,5,11,10,9,7,8],[2009],[14],[]⟩,⟨[0,1,2,3,4,5,6,7,8,9,10,11,12,13,14],[],[],[]⟩,⟨[15,0,1,2,3,4,5,6,7,8,9,10,11,12,13,14],[],[],[]⟩,⟨[16,15,0,1,2,3,4,5,6,7,8,9,10,11,12,13,14],[9],[],[]⟩])],[(100003,jI.ca_r),(6,jI.c6r),(5,jI.c5r)],[],Jd⟩
theorem jI.p0:PcA jI.G Try.f38 0:=
 Jo (s:=jI.ca_r) (by kernel_rfl) (by kernel_rfl) (Jg (sh:=jI.ca_s) (I:=fun X Q=>(X.1,X.2.1,X.2.2.1,X.2.2.2.1,Q.1,(q4 X).2.1,Q.2.1,Q.2.2,())) (fun X=>rfl) (fun ρ X Q Z=>(jo (je fun _=>(je fun _=>jd)) jd)) (fun ρ X t k=>(by kernel_rfl)) (fun X s=>by kernel_rfl))
theorem jI.p1:PcA jI.G Try.f38 1:=
 jB (s:=jI.c5r) (by kernel_rfl) (by kernel_rfl) (jC (sh:=jI.c5s) (fun ρ X Z=>(je fun _=>(je fun _=>(je fun _=>jd)))) (fun ρ X t k=>(by kernel_rfl)) (fun X=>by kernel_rfl))
theorem jI.p2:PcA jI.G Try.f38 2:=
 jB (s:=jI.c6r) (by kernel_rfl) (by kernel_rfl) (jC (sh:=jI.c5s) (fun ρ X Z=>(je fun _=>(je fun _=>jd))) (fun ρ X t k=>(by kernel_rfl)) (fun X=>by kernel_rfl))
theorem jI.ok:MOk Try.prog 38 jI.mc:=kW (mc:=jI.mc) (G:=jI.G) Jn mixed Try.func38 ⟨Je,jY,jN⟩ (m:=3) (by kernel_rfl) ⟨⟨⟨trivial,jI.p0⟩,jI.p1⟩,jI.p2⟩ (by kernel_rfl) (fun _=>by kernel_rfl)
def jQ.c4 (bits:List Int)(c:Int)(Z:Bool→Option ρ):Option ρ:=
 br (decide (c>(0:Int)))
 (bnd (idx bits (IntKind.i64.wrap (c-(1:Int)))) fun y=>
 br (y==(0:Int))
 (Z true)
 (br (decide (c<(0:Int)))
 (bnd (idx bits (IntKind.i64.wrap (IntKind.i64.wrap ((0:Int)-c)-(1:Int)))) fun y_1=>
 Z (y_1==(1:Int)))
 (Z false)))
 (br (decide (c<(0:Int)))
 (bnd (idx bits (IntKind.i64.wrap (IntKind.i64.wrap ((0:Int)-c)-(1:Int)))) fun y_2=>
 Z (y_2==(1:Int)))
 (Z false))
def jQ.c4s:Shape:=⟨[(0,tb25),(1,tb36),(2,tb2),(4,tb7),(6,tb5),(8,tb36),(9,tb5),(10,tb5)],[(2,tb26)]⟩
def jQ.c4x0:Shape:=⟨[(0,tb25),(1,tb36),(2,tb2),(4,tb7),(6,tb5),(8,tb36),(9,tb5),(10,tb5),(36,tb7)],[(2,tb26)]⟩
def jQ.c4r:Ck:=Ck.of (T:=Bool) jQ.c4s (fun ρ X Z=>jQ.c4 X.2.1 X.2.2.2.1 Z) (fun ρ X V Z=>Z 0 (Shape.inj jQ.c4x0 (X.1,X.2.1,X.2.2.1,X.2.2.2.1,(q4 X).1,(q4 X).2.1,(q4 X).2.2.1,V,(q4 X).2.2.2)))
def jQ.cb_ (bits:List Int)(t8:List Int)(t9:Int)(t10:Int)(Z:Int⊕(Int⊕Int)→Option ρ):Option ρ:=
 br (decide (t10<t9))
 (bnd (idx t8 t10) fun y=>
 bnd (jQ.c4 bits y some) fun y_1=>
 br y_1
 (Z (.inr (.inl t10)))
 (Z (.inl (IntKind.i64.wrap (t10+(1:Int))))))
 (Z (.inr (.inr t10)))
def jQ.cb_s:Shape:=⟨[(0,tb25),(1,tb36),(2,tb2),(4,tb7),(8,tb36),(9,tb5),(10,tb5)],[(2,tb26)]⟩
def jQ.cb_r:Ck:=Ck.ofLoop (S:=Int) (T:=Int⊕Int) jQ.cb_s (fun X=>(q4 X).2.1) (fun ρ X Q Z=>jQ.cb_ X.2.1 X.2.2.2.1 (q4 X).1 Q Z) (fun ρ X V Z=>sel V (fun V=>Z 1 (Shape.inj jQ.cb_s (X.1,X.2.1,false,X.2.2.2.1,(q4 X).1,V,(q4 X).2.2))) (fun V=>Z 2 (Shape.inj jQ.cb_s (X.1,X.2.1,X.2.2.1,X.2.2.2.1,(q4 X).1,V,(q4 X).2.2))))
def jQ (o:YO) (bits:List Int):Option Bool:=
 bnd (iter (fun s↦jQ.cb_ bits o.2.2.2.2.2 (↑(List.length o.2.2.2.2.2):Int) s some) (0:Int)) fun y=>
 sel y
 (fun u=>some false)
 (fun v=>some true)
def jQ.ce:Go.Ql.Callee:=⟨[(.st (.pair (.int .i64) (.pair (.int .i64) (.pair (.sl (.int .i64)) (.pair (.int .i64) (.pair (.int .i64) (.sl (.int .i64)))))))),(.sl (.int .i64))],[.bool],fun X=>jQ X.1 X.2⟩
def jQ.G:Env:=⟨38,tab,[],[0,1,2,4,6,8,9,10,11,36],[],[],[(100002,jQ.cb_r),(4,jQ.c4r)],[],Jd⟩
theorem jQ.p0:PcA jQ.G Try.f39 0:=
 Jo (s:=jQ.cb_r) (by kernel_rfl) (by kernel_rfl) (Jg (sh:=jQ.cb_s) (I:=fun X Q=>(X.1,X.2.1,X.2.2.1,X.2.2.2.1,(q4 X).1,Q,(q4 X).2.2)) (fun X=>rfl) (fun ρ X Q Z=>(jo (je fun _=>(je fun _=>(jo jd jd))) jd)) (fun ρ X t k=>(JU (fun _=>(by kernel_rfl)) (fun _=>(by kernel_rfl)))) (fun X s=>by kernel_rfl))
theorem jQ.p1:PcA jQ.G Try.f39 1:=
 jB (s:=jQ.c4r) (by kernel_rfl) (by kernel_rfl) (jC (sh:=jQ.c4s) (fun ρ X Z=>(jo (je fun _=>(jo jd (jo (je fun _=>jd) jd))) (jo (je fun _=>jd) jd))) (fun ρ X t k=>(by kernel_rfl)) (fun X=>by kernel_rfl))
theorem jQ.ok:CalleeOk Try.prog 39 jQ.ce:=fn_ok (G:=jQ.G) Jn mixed Try.func39 ⟨Je,jY,jN⟩ (m:=2) (by kernel_rfl) ⟨⟨trivial,jQ.p0⟩,jQ.p1⟩ (by kernel_rfl) (fun _=>by kernel_rfl)
abbrev tb81:SO:=.box [.val (.int .i64),.own 1000701 0,.own 1000702 0]
def jw.pre:Shape:=⟨[(0,tb28),(1,tb25)],[(1000700,tb81),(1000701,tb22),(1000702,tb22)]⟩
def jw.post:Shape:=⟨[],[(1000701,tb22),(1000702,tb22),(1000700,tb81)]⟩
def jw.c4 (i:Int)(o0:Int)(o1:Int)(o2:List Int)(o3:Int)(o4:Int)(o5:List Int)(uf:List YP)(Z:List YP→Option ρ):Option ρ:=
 bnd (inR (List.length uf) i) fun y=>
 bnd (idx uf i) fun y_1=>
 bnd (kb (y_1,(o0,o1,o2,o3,o4,o5),())) fun y_2=>
 bnd (inR (List.length uf) i) fun y_3=>
 bnd (idx uf i) fun y_4=>
 Z (List.set uf (Int.toNat i) y_2.1)
def jw.c4s:Shape:=⟨[(0,tb28),(1,tb25),(3,tb12),(4,tb5),(8,tb5),(9,tb5)],[(3,tb26),(1000700,tb81),(1000701,tb22),(1000702,tb22)]⟩
def jw.c4r:Ck:=Ck.of (T:=List YP) jw.c4s (fun ρ X Z=>jw.c4 X.2.1 (q4 X).1 (q4 X).2.1 (q4 X).2.2.1 (q4 X).2.2.2.1 (q8 X).1 (q8 X).2.1 (q8 X).2.2.2.1 Z) (fun ρ X V Z=>Z 0 (Shape.inj jw.c4s (X.1,X.2.1,X.2.2.1,X.2.2.2.1,(q4 X).1,(q4 X).2.1,(q4 X).2.2.1,(q4 X).2.2.2.1,(q8 X).1,(q8 X).2.1,(q8 X).2.2.1,V,(q4 (q8 X)))))
def jw.c5 (i:Int)(o0:Int)(o1:Int)(o2:List Int)(o3:Int)(o4:Int)(o5:List Int)(ug:List YP)(Z:List YP→Option ρ):Option ρ:=
 bnd (inR (List.length ug) i) fun y=>
 bnd (idx ug i) fun y_1=>
 bnd (kb (y_1,(o0,o1,o2,o3,o4,o5),())) fun y_2=>
 bnd (inR (List.length ug) i) fun y_3=>
 bnd (idx ug i) fun y_4=>
 Z (List.set ug (Int.toNat i) y_2.1)
def jw.c5r:Ck:=Ck.of (T:=List YP) jw.c4s (fun ρ X Z=>jw.c5 X.2.1 (q4 X).1 (q4 X).2.1 (q4 X).2.2.1 (q4 X).2.2.2.1 (q8 X).1 (q8 X).2.1 (q4 (q8 X)).1 Z) (fun ρ X V Z=>Z 0 (Shape.inj jw.c4s (X.1,X.2.1,X.2.2.1,X.2.2.2.1,(q4 X).1,(q4 X).2.1,(q4 X).2.2.1,(q4 X).2.2.2.1,(q8 X).1,(q8 X).2.1,(q8 X).2.2.1,(q8 X).2.2.2.1,V,())))
def jw.cb_ (t8:Int)(t9:Int)(o0:Int)(o1:Int)(o2:List Int)(o3:Int)(o4:Int)(o5:List Int)(uf:List YP)(ug:List YP)(Z:(Int×(List YP)×(List YP))⊕(Int×(List YP)×(List YP))→Option ρ):Option ρ:=
 br (decide (t9<t8))
 (bnd (jw.c4 t9 o0 o1 o2 o3 o4 o5 uf some) fun y=>
 bnd (jw.c5 t9 o0 o1 o2 o3 o4 o5 ug some) fun y_1=>
 Z (.inl ((IntKind.i64.wrap (t9+(1:Int))),y,y_1)))
 (Z (.inr (t9,uf,ug)))
def jw.cb_s:Shape:=⟨[(0,tb28),(1,tb25),(3,tb12),(8,tb5),(9,tb5)],[(3,tb26),(1000700,tb81),(1000701,tb22),(1000702,tb22)]⟩
def jw.cb_r:Ck:=Ck.ofLoop (S:=Int×(List YP)×(List YP)) (T:=Int×(List YP)×(List YP)) jw.cb_s (fun X=>(X.2.2.1,(q8 X).2.2.1,(q8 X).2.2.2.1)) (fun ρ X Q Z=>jw.cb_ X.2.1 Q.1 X.2.2.2.1 (q4 X).1 (q4 X).2.1 (q4 X).2.2.1 (q4 X).2.2.2.1 (q8 X).1 Q.2.1 Q.2.2 Z) (fun ρ X V Z=>Z 2 (Shape.inj jw.cb_s (X.1,X.2.1,V.1,X.2.2.2.1,(q4 X).1,(q4 X).2.1,(q4 X).2.2.1,(q4 X).2.2.2.1,(q8 X).1,(q8 X).2.1,V.2.1,V.2.2,())))
def jw (o:YO) (ue:Int) (uf:List YP) (ug:List YP):Option ((List YP)×(List YP)×Int×Unit):=
 bnd (iter (fun s↦jw.cb_ ue s.1 o.1 o.2.1 o.2.2.1 o.2.2.2.1 o.2.2.2.2.1 o.2.2.2.2.2 s.2.1 s.2.2 some) ((0:Int),uf,ug)) fun y=>
 some (y.2.1,y.2.2,ue,())
def jw.mc:MCallee:=⟨40,jw.pre,jw.post,fun X=>jw X.1 X.2.1 X.2.2.1 X.2.2.2.1⟩
def jw.G:Env:=⟨43,tab,[],[0,1,3,4,8,9,10],[1000700,1000701,1000702],[(5,[⟨[],[],[31,32,33,34,35,36,37,38,39,40],[]⟩,⟨[0],[],[31,32,33,34,35,36,37,38,39,40],[]⟩,⟨[1,0],[],[31,32,33,34,35,36,37,38,39,40],[]⟩,⟨[2,1,0],[],[31,32,33,34,35,36,37,38,39,40],[]⟩,⟨[],[],[27,28,29,30,32,33,34,35,36,37,38,39,40],[]⟩,⟨[],[],[27,28,29,30,31,36,39],[]⟩,⟨[5],[],[27,28,29,30,31,36,39],[]⟩,⟨[6,5],[],[27,28,29,30,31,36,39],[]⟩,⟨[7,6,5],[],[27,28,29,30,31,36,39],[]⟩,⟨[],[],[27,28,29,30,31,32,33,34,35,39],[]⟩,⟨[8,7,6,5,9],[],[27,28,29,30,31,39],[]⟩,⟨[10,8,7,6,5,9],[],[27,28,29,30,31,39],[]⟩,⟨[],[],[27,28,29,30,31,32,33,34,35,36,37,38],[]⟩,⟨[11,10,8,7,6,5,9,12],[],[27,28,29,30,31],[]⟩,⟨[3,2,1,0,4,5,6,7,8,9,10,11,12,13],[],[],[]⟩,⟨[14,3,2,1,0,4,5,6,7,8,9,10,11,12,13],[1000702],[],[]⟩]),
 (4,[⟨[],[],[16,17,18,19,20,21,22,23,24,25],[]⟩,⟨[0],[],[16,17,18,19,20,21,22,23,24,25],[]⟩,⟨[1,0],[],[16,17,18,19,20,21,22,23,24,25],[]⟩,⟨[2,1,0],[],[16,17,18,19,20,21,22,23,24,25],[]⟩,⟨[],[],[12,13,14,15,17,18,19,20,21,22,23,24,25],[]⟩,⟨[],[],[12,13,14,15,16,21,24],[]⟩,⟨[5],[],[12,13,14,15,16,21,24],[]⟩,⟨[6,5],[],[12,13,14,15,16,21,24],[]⟩,⟨[7,6,5],[],[12,13,14,15,16,21,24],[]⟩,⟨[],[],[12,13,14,15,16,17,18,19,20,24],[]⟩,⟨[8,7,6,5,9],[],[12,13,14,15,16,24],[]⟩,⟨[10,8,7,6,5,9],[],[12,13,14,15,16,24],[]⟩,⟨[],[],[12,13,14,15,16,17,18,19,20,21,22,23],[]⟩,⟨[11,10,8,7,6,5,9,12],[],[12,13,14,15,16],[]⟩,⟨[3,2,1,0,4,5,6,7,8,9,10,11,12,13],[],[],[]⟩,⟨[14,3,2,1,0,4,5,6,7,8,9,10,11,12,13],[1000701],[],[]⟩])],[(100002,jw.cb_r),(5,jw.c5r),(4,jw.c4r)],[(57,kb.mc)],Jd⟩
theorem jw.p0:PcA jw.G Try.f40 0:=
 Jo (s:=jw.cb_r) (by kernel_rfl) (by kernel_rfl) (Jg (sh:=jw.cb_s) (I:=fun X Q=>(X.1,X.2.1,Q.1,X.2.2.2.1,(q4 X).1,(q4 X).2.1,(q4 X).2.2.1,(q4 X).2.2.2.1,(q8 X).1,(q8 X).2.1,Q.2.1,Q.2.2,())) (fun X=>rfl) (fun ρ X Q Z=>(jo (je fun _=>(je fun _=>jd)) jd)) (fun ρ X t k=>(by kernel_rfl)) (fun X s=>by kernel_rfl))
theorem jw.p1:PcA jw.G Try.f40 1:=
 jB (s:=jw.c4r) (by kernel_rfl) (by kernel_rfl) (jC (sh:=jw.c4s) (fun ρ X Z=>(je fun _=>(je fun _=>(je fun _=>(je fun _=>(je fun _=>jd)))))) (fun ρ X t k=>(by kernel_rfl)) (fun X=>by kernel_rfl))
theorem jw.p2:PcA jw.G Try.f40 2:=
 jB (s:=jw.c5r) (by kernel_rfl) (by kernel_rfl) (jC (sh:=jw.c4s) (fun ρ X Z=>(je fun _=>(je fun _=>(je fun _=>(je fun _=>(je fun _=>jd)))))) (fun ρ X t k=>(by kernel_rfl)) (fun X=>by kernel_rfl))
theorem jw.ok:MOk Try.prog 40 jw.mc:=kW (mc:=jw.mc) (G:=jw.G) Jn mixed Try.func40 ⟨Je,(JX kb.ok jY),jN⟩ (m:=3) (by kernel_rfl) ⟨⟨⟨trivial,jw.p0⟩,jw.p1⟩,jw.p2⟩ (by kernel_rfl) (fun _=>by kernel_rfl)
def Ji.pre:Shape:=⟨[(0,tb11),(1,tb51)],[(1000200,tb9)]⟩
def Ji.post:Shape:=⟨[(0,tb7)],[(1000200,tb9)]⟩
def Ji (p:YP) (ub:Int) (uc:Int) (ud:Bool):Option (Bool×Int×Int×Bool×Unit):=
 bnd (jL (p.1,p.2.1,p.2.2) (ub,uc,ud)) fun y=>
 some (y,ub,uc,ud,())
def Ji.mc:MCallee:=⟨84,Ji.pre,Ji.post,fun X=>Ji X.1 X.2.1 X.2.2.1 X.2.2.2.1⟩
def Ji.G:Env:=⟨7,tab,[(85,jL.ce)],[0,1,2,3],[1000200],[],[],[],Jd⟩
theorem Ji.ok:MOk Try.prog 84 Ji.mc:=kW (mc:=Ji.mc) (G:=Ji.G) Jn mixed Try.func84 ⟨(jX jL.ok Je),jY,jN⟩ (m:=0) (by kernel_rfl) trivial (by kernel_rfl) (fun _=>by kernel_rfl)
abbrev tb82:SD:=.one (.win 2000000 0)
abbrev tb83:SO:=.clo 84 [] [.ref 1000200 0]
def jp.pre:Shape:=⟨[(0,tb82),(1,tb69)],[(1000140,tb83),(1000200,tb9),(2000000,tb22)]⟩
def jp.post:Shape:=⟨[(0,tb5)],[(1000140,tb83),(1000200,tb9),(2000000,tb22)]⟩
def jp.cb_ (slo:Int)(sn:Int)(t7:Int)(t8:Int)(ub:Int)(uc:Int)(ud:Bool)(uh:List YP)(Z:(Int×Int×Int×Bool)⊕((Int×Int×Int×Int×Bool)⊕(Int×Int×Int×Bool))→Option ρ):Option ρ:=
 br (decide (t8<t7))
 (bnd (okIf (decide ((0:Ty.den (Ty.int IntKind.i64))≤t8)&&decide (t8<sn))) fun y=>
 bnd (idx uh (slo+t8)) fun y_1=>
 bnd (Ji y_1 ub uc ud) fun y_2=>
 br y_2.1
 (Z (.inr (.inl (t8,t8,y_2.2.1,y_2.2.2.1,y_2.2.2.2.1))))
 (Z (.inl ((IntKind.i64.wrap (t8+(1:Int))),y_2.2.1,y_2.2.2.1,y_2.2.2.2.1))))
 (Z (.inr (.inr (t8,ub,uc,ud))))
def jp.cb_s:Shape:=⟨[(0,tb82),(1,tb69),(4,tb5),(7,tb5),(8,tb5)],[(1000140,tb83),(1000200,tb9),(2000000,tb22)]⟩
def jp.cb_r:Ck:=Ck.ofLoop (S:=Int×Int×Int×Bool) (T:=(Int×Int×Int×Int×Bool)⊕(Int×Int×Int×Bool)) jp.cb_s (fun X=>((q4 X).1,(q4 X).2.1,(q4 X).2.2.1,(q4 X).2.2.2.1)) (fun ρ X Q Z=>jp.cb_ X.1 X.2.1 X.2.2.2.1 Q.1 Q.2.1 Q.2.2.1 Q.2.2.2 (q8 X).1 Z) (fun ρ X V Z=>sel V (fun V=>Z 1 (Shape.inj jp.cb_s (X.1,X.2.1,V.1,X.2.2.2.1,V.2.1,V.2.2.1,V.2.2.2.1,V.2.2.2.2,(q8 X)))) (fun V=>Z 2 (Shape.inj jp.cb_s (X.1,X.2.1,X.2.2.1,X.2.2.2.1,V.1,V.2.1,V.2.2.1,V.2.2.2,(q8 X)))))
def jp (slo:Int) (sn:Int) (ub:Int) (uc:Int) (ud:Bool) (uh:List YP):Option (Int×Int×Int×Bool×(List YP)×Unit):=
 bnd (iter (fun s↦jp.cb_ slo sn (↑(List.length (part slo sn uh)):Int) s.1 s.2.1 s.2.2.1 s.2.2.2 uh some) ((0:Int),ub,uc,ud)) fun y=>
 sel y
 (fun u=>some (u.1,u.2.2.1,u.2.2.2.1,u.2.2.2.2,uh,()))
 (fun v=>some ((-1:Int),v.2.1,v.2.2.1,v.2.2.2,uh,()))
def jp.mc:MCallee:=⟨83,jp.pre,jp.post,fun X=>jp X.1 X.2.1 X.2.2.1 X.2.2.2.1 (q4 X).1 (q4 X).2.1⟩
def jp.G:Env:=⟨19,tab,[],[0,1,4,5,7,8,9,16],[1000140,1000200,2000000],[],[(100002,jp.cb_r)],[(84,Ji.mc)],Jd⟩
theorem jp.p0:PcA jp.G Try.f83 0:=
 Jo (s:=jp.cb_r) (by kernel_rfl) (by kernel_rfl) (Jg (sh:=jp.cb_s) (I:=fun X Q=>(X.1,X.2.1,X.2.2.1,X.2.2.2.1,Q.1,Q.2.1,Q.2.2.1,Q.2.2.2,(q8 X))) (fun X=>rfl) (fun ρ X Q Z=>(jo (je fun _=>(je fun _=>(je fun _=>(jo jd jd)))) jd)) (fun ρ X t k=>(JU (fun _=>(by kernel_rfl)) (fun _=>(by kernel_rfl)))) (fun X s=>by kernel_rfl))
theorem jp.ok:MOk Try.prog 83 jp.mc:=kW (mc:=jp.mc) (G:=jp.G) Jn mixed Try.func83 ⟨Je,(JX Ji.ok jY),jN⟩ (m:=1) (by kernel_rfl) ⟨trivial,jp.p0⟩ (by kernel_rfl) (fun _=>by kernel_rfl)
def jU.c1 (p0:Int)(p1:Int)(o0:Int)(o1:Int)(Z:Int→Option ρ):Option ρ:=
 bnd (JD (ibits BinOp.and IntKind.u64 p0 p1)) fun y=>
 bnd (JD (ibits BinOp.and IntKind.u64 o0 o1)) fun y_1=>
 bnd (JD (ibits BinOp.and IntKind.u64 p1 o0)) fun y_2=>
 Z (IntKind.i64.wrap (IntKind.i64.wrap (y+y_1)+IntKind.i64.wrap ((2:Int)*y_2)))
def jU.c1s:Shape:=⟨[(0,tb11),(1,tb11),(2,tb2),(3,tb12),(4,tb6)],[(2,tb9),(3,tb9),(4,tb9)]⟩
def jU.c1x0:Shape:=⟨[(0,tb11),(1,tb11),(2,tb2),(3,tb12),(4,tb6),(5,tb5)],[(2,tb9),(3,tb9),(4,tb9)]⟩
def jU.c1r:Ck:=Ck.of (T:=Int) jU.c1s (fun ρ X Z=>jU.c1 X.2.2.1 X.2.2.2.1 (q4 X).2.1 (q4 X).2.2.1 Z) (fun ρ X V Z=>Z 0 (Shape.inj jU.c1x0 (X.1,X.2.1,V,X.2.2)))
def jU (p:YP) (o:YP):Option YP:=
 bnd (jU.c1 p.1 p.2.1 o.1 o.2.1 some) fun y=>
 bnd (JD (ibits BinOp.and IntKind.u64 (ibits BinOp.xor IntKind.u64 p.1 o.1) (ibits BinOp.xor IntKind.u64 p.2.1 o.2.1))) fun y_1=>
 some (ibits BinOp.xor IntKind.u64 p.1 o.1,ibits BinOp.xor IntKind.u64 p.2.1 o.2.1,!(!p.2.2==o.2.2)==(ibits BinOp.and IntKind.i64 (IntKind.i64.wrap (y-y_1)) (3:Int)==(2:Int)))
def jU.ce:Go.Ql.Callee:=⟨[(.st (.pair (.int .u64) (.pair (.int .u64) .bool))),(.st (.pair (.int .u64) (.pair (.int .u64) .bool)))],[(.st (.pair (.int .u64) (.pair (.int .u64) .bool)))],fun X=>jU X.1 X.2⟩
def jU.G:Env:=⟨58,tab,[(118,JD.ce)],[0,1,2,3,4,5,6],[],[(1,[⟨[],[],[9,10,13,14,15,16,17,20,21,22,23,24],[]⟩,⟨[0],[],[9,10,13,14,15,16,17,20,21,22,23,24],[]⟩,⟨[],[],[7,8,13,14,15,16,17,20,21,22,23,24],[]⟩,⟨[2],[],[7,8,13,14,15,16,17,20,21,22,23,24],[]⟩,⟨[1,0,3,2],[],[13,14,15,16,17,20,21,22,23,24],[]⟩,⟨[4,1,0,3,2],[],[13,14,15,16,17,20,21,22,23,24],[]⟩,⟨[],[],[7,8,9,10,11,12,15,16,20,21,22,23,24],[]⟩,⟨[6],[],[7,8,9,10,11,12,15,16,20,21,22,23,24],[]⟩,⟨[],[],[7,8,9,10,11,12,13,14,20,21,22,23,24],[]⟩,⟨[8],[],[7,8,9,10,11,12,13,14,20,21,22,23,24],[]⟩,⟨[7,6,9,8],[],[7,8,9,10,11,12,20,21,22,23,24],[]⟩,⟨[10,7,6,9,8,5,4,1,0,3,2],[],[20,21,22,23,24],[]⟩,⟨[5,4,1,0,3,2,11,10,7,6,9,8],[],[20,21,22,23,24,25,26],[]⟩,⟨[],[],[7,8,9,10,11,12,13,14,15,16,17,18,19,22,23],[]⟩,⟨[13],[],[7,8,9,10,11,12,13,14,15,16,17,18,19,22,23],[]⟩,⟨[],[],[7,8,9,10,11,12,13,14,15,16,17,18,19,20,21],[]⟩,⟨[15],[],[7,8,9,10,11,12,13,14,15,16,17,18,19,20,21],[]⟩,⟨[14,13,16,15],[],[7,8,9,10,11,12,13,14,15,16,17,18,19],[]⟩,⟨[17,14,13,16,15,11,10,7,6,9,8,5,4,1,0,3,2],[],[19],[]⟩,⟨[18,17,14,13,16,15,11,10,7,6,9,8,5,4,1,0,3,2],[],[19],[]⟩,⟨[12,5,4,1,0,3,2,11,10,7,6,9,8,19,18,17,14,13,16,15],[],[],[]⟩,⟨[20,12,5,4,1,0,3,2,11,10,7,6,9,8,19,18,17,14,13,16,15],[],[],[]⟩])],[(1,jU.c1r)],[],Jd⟩
theorem jU.p0:PcA jU.G Try.f86 0:=
 jB (s:=jU.c1r) (by kernel_rfl) (by kernel_rfl) (jC (sh:=jU.c1s) (fun ρ X Z=>(je fun _=>(je fun _=>(je fun _=>jd)))) (fun ρ X t k=>(by kernel_rfl)) (fun X=>by kernel_rfl))
theorem jU.ok:CalleeOk Try.prog 86 jU.ce:=fn_ok (G:=jU.G) Jn mixed Try.func86 ⟨(jX JD.ok Je),jY,jN⟩ (m:=1) (by kernel_rfl) ⟨trivial,jU.p0⟩ (by kernel_rfl) (fun _=>by kernel_rfl)
def kl (a:YP) (b:YP):Option YP:=
 some (ibits BinOp.xor IntKind.u64 a.1 b.1,ibits BinOp.xor IntKind.u64 a.2.1 b.2.1,false)
def kl.ce:Go.Ql.Callee:=⟨[(.st (.pair (.int .u64) (.pair (.int .u64) .bool))),(.st (.pair (.int .u64) (.pair (.int .u64) .bool)))],[(.st (.pair (.int .u64) (.pair (.int .u64) .bool)))],fun X=>kl X.1 X.2⟩
def kl.G:Env:=⟨16,tab,[],[0,1,2,3,4],[],[],[],[],Jd⟩
theorem kl.ok:CalleeOk Try.prog 87 kl.ce:=fn_ok (G:=kl.G) Jn mixed Try.func87 ⟨Je,jY,jN⟩ (m:=0) (by kernel_rfl) trivial (by kernel_rfl) (fun _=>by kernel_rfl)
end
end W
end
