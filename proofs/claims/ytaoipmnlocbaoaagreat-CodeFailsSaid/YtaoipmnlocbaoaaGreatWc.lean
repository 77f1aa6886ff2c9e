/- Lifted functions, part 3: each with its contract. -/
import Derived.Test.YtaoipmnlocbaoaaGreatWb
import Derived.Test.YtaoipmnlocbaoaaGreatProg
set_option linter.all false
section
set_option maxHeartbeats 4000000
set_option maxRecDepth 100000
namespace W
open Go Go.Ql Go.Proofs
noncomputable section
variable {ρ:Type}
abbrev ff86:SD:=.one (.own 28 0)
abbrev ff87:SD:=.one (.ref 9 0)
abbrev ff88:SD:=.one (.ref 14 0)
def jr.c9 (i:Int)(a1:List Int)(r1:List Int)(Z:YD→Option ρ):Option ρ:=
 bnd (idx a1 i) fun y=>
 bnd (okIf (decide (((1:Nat)+List.length r1)*(8:Nat)≤(140737488355328:Nat))&&decide ((1:Nat)+List.length r1≤(140737488355328:Nat)))) fun y_1=>
 bnd (Jb false ([y]++r1)) fun y_2=>
 Z (y_2.1,y_2.2)
def jr.c9s:Shape:=⟨[(0,ff84),(1,ff84),(2,ff2),(3,ff12),(4,ff6),(5,ff41),(6,ff8),(7,ff42),(8,ff86),(9,ff87),(10,ff5)],[(2,ff83),(3,ff83),(4,ff83),(5,ff83),(6,ff19),(7,ff83),(9,ff83),(28,ff51)]⟩
def jr.c9r:Ck:=Ck.of (T:=YD) jr.c9s (fun ρ X Z=>jr.c9 X.2.2.1 (q4 X).1 (q8 (q8 X)).1 Z) (fun ρ X V Z=>Z 0 (Shape.inj jr.c9s (X.1,X.2.1,X.2.2.1,X.2.2.2.1,(q4 X).1,(q4 X).2.1,(q4 X).2.2.1,(q4 X).2.2.2.1,(q8 X).1,(q8 X).2.1,(q8 X).2.2.1,(q8 X).2.2.2.1,(q4 (q8 X)).1,(q4 (q8 X)).2.1,(q4 (q8 X)).2.2.1,V.1,V.2,(q8 (q8 X)).2)))
def jr.cq_ (high:Int)(under1:List Int)(r1:List Int)(Z:Int→Option ρ):Option ρ:=
 bnd (Jk r1 under1) fun y=>
 br (decide (y<(0:Int)))
 (Z (1:Int))
 (Z high)
def jr.cq_s:Shape:=⟨[(0,ff84),(1,ff84),(2,ff2),(3,ff12),(4,ff6),(5,ff41),(6,ff8),(7,ff42),(8,ff86),(9,ff87),(10,ff5),(11,ff5),(12,ff5)],[(2,ff83),(3,ff83),(4,ff83),(5,ff83),(6,ff19),(7,ff83),(9,ff83),(28,ff51)]⟩
def jr.cq_r:Ck:=Ck.of (T:=Int) jr.cq_s (fun ρ X Z=>jr.cq_ (q4 X).1 (q8 (q8 X)).1 (q8 (q8 X)).2.2.1 Z) (fun ρ X V Z=>Z 0 (Shape.inj jr.cq_s (X.1,X.2.1,X.2.2.1,X.2.2.2.1,V,(q4 X).2)))
def jr.c15 (mid:Int)(under0:Bool)(under1:List Int)(r0:Bool)(r1:List Int)(Z:Bool→Option ρ):Option ρ:=
 bnd (Jt mid) fun y=>
 bnd (jI (under0,under1) y) fun y_1=>
 bnd (kX y_1 (r0,r1)) fun y_2=>
 Z (decide (y_2≤(0:Int)))
def jr.c15s:Shape:=⟨[(0,ff84),(1,ff84),(2,ff2),(3,ff12),(4,ff6),(5,ff41),(6,ff8),(7,ff42),(8,ff86),(9,ff87),(10,ff5),(11,ff5),(12,ff5),(13,ff5)],[(2,ff83),(3,ff83),(4,ff83),(5,ff83),(6,ff19),(7,ff83),(9,ff83),(28,ff51)]⟩
def jr.c15x0:Shape:=⟨[(0,ff84),(1,ff84),(2,ff2),(3,ff12),(4,ff6),(5,ff41),(6,ff8),(7,ff42),(8,ff86),(9,ff87),(10,ff5),(11,ff5),(12,ff5),(13,ff5),(68,ff7)],[(2,ff83),(3,ff83),(4,ff83),(5,ff83),(6,ff19),(7,ff83),(9,ff83),(28,ff51)]⟩
def jr.c15r:Ck:=Ck.of (T:=Bool) jr.c15s (fun ρ X Z=>jr.c15 (q4 X).2.1 (q8 (q8 X)).1 (q8 (q8 X)).2.1 (q8 (q8 X)).2.2.1 (q8 (q8 X)).2.2.2.1 Z) (fun ρ X V Z=>Z 0 (Shape.inj jr.c15x0 (X.1,X.2.1,X.2.2.1,X.2.2.2.1,(q4 X).1,(q4 X).2.1,V,(q4 X).2.2)))
def jr.cl_ (low:Int)(high:Int)(under0:Bool)(under1:List Int)(r0:Bool)(r1:List Int)(Z:(Int×Int)⊕(Int×Int)→Option ρ):Option ρ:=
 br (decide (IntKind.i64.wrap (high-low)>(1:Int)))
 (bnd (jr.c15 (IntKind.i64.wrap (Int.tdiv (IntKind.i64.wrap (low+high)) (2:Int))) under0 under1 r0 r1 some) fun y=>
 br y
 (Z (.inl ((IntKind.i64.wrap (Int.tdiv (IntKind.i64.wrap (low+high)) (2:Int))),high)))
 (Z (.inl (low,(IntKind.i64.wrap (Int.tdiv (IntKind.i64.wrap (low+high)) (2:Int)))))))
 (Z (.inr (low,high)))
def jr.cl_r:Ck:=Ck.ofLoop (S:=Int×Int) (T:=Int×Int) jr.cq_s (fun X=>(X.2.2.2.1,(q4 X).1)) (fun ρ X Q Z=>jr.cl_ Q.1 Q.2 (q4 (q8 X)).2.2.2.1 (q8 (q8 X)).1 (q8 (q8 X)).2.1 (q8 (q8 X)).2.2.1 Z) (fun ρ X V Z=>Z 4 (Shape.inj jr.cq_s (X.1,X.2.1,X.2.2.1,V.1,V.2,(q4 X).2)))
def jr.c19 (low:Int)(under0:Bool)(under1:List Int)(r0:Bool)(r1:List Int)(Z:YD→Option ρ):Option ρ:=
 bnd (Jt low) fun y=>
 bnd (jI (under0,under1) y) fun y_1=>
 bnd (kc (r0,r1) y_1) fun y_2=>
 Z (y_2.1,y_2.2)
def jr.c19r:Ck:=Ck.of (T:=YD) jr.cq_s (fun ρ X Z=>jr.c19 X.2.2.2.1 (q4 (q8 X)).2.2.2.1 (q8 (q8 X)).1 (q8 (q8 X)).2.1 (q8 (q8 X)).2.2.1 Z) (fun ρ X V Z=>Z 0 (Shape.inj jr.cq_s (X.1,X.2.1,X.2.2.1,X.2.2.2.1,(q4 X).1,(q4 X).2.1,(q4 X).2.2.1,(q4 X).2.2.2.1,(q8 X).1,(q8 X).2.1,(q8 X).2.2.1,(q8 X).2.2.2.1,(q4 (q8 X)).1,(q4 (q8 X)).2.1,(q4 (q8 X)).2.2.1,(q4 (q8 X)).2.2.2.1,(q8 (q8 X)).1,V.1,V.2,(q8 (q8 X)).2.2.2)))
def jr.cd_ (i:Int)(a1:List Int)(under0:Bool)(under1:List Int)(r0:Bool)(r1:List Int)(t28:List Int)(Z:(Int×Bool×(List Int)×(List Int))⊕(Int×Bool×(List Int)×(List Int))→Option ρ):Option ρ:=
 br (decide (i≥(0:Int)))
 (bnd (jr.c9 i a1 r1 some) fun y=>
 bnd (jr.cq_ (10000:Int) under1 y.2 some) fun y_1=>
 bnd (iter (fun s↦jr.cl_ s.1 s.2 under0 under1 y.1 y.2 some) ((0:Int),y_1)) fun y_2=>
 bnd (inR (List.length t28) i) fun y_3=>
 bnd (idx t28 i) fun y4=>
 bnd (jr.c19 y_2.1 under0 under1 y.1 y.2 some) fun y5=>
 Z (.inl ((IntKind.i64.wrap (i-(1:Int))),y5.1,y5.2,(List.set t28 (Int.toNat i) y_2.1))))
 (Z (.inr (i,r0,r1,t28)))
def jr.cd_r:Ck:=Ck.ofLoop (S:=Int×Bool×(List Int)×(List Int)) (T:=Int×Bool×(List Int)×(List Int)) jr.c9s (fun X=>(X.2.2.1,(q4 (q8 X)).2.2.2.1,(q8 (q8 X)).1,(q8 (q8 X)).2.1)) (fun ρ X Q Z=>jr.cd_ Q.1 (q4 X).1 (q4 (q8 X)).2.1 (q4 (q8 X)).2.2.1 Q.2.1 Q.2.2.1 Q.2.2.2 Z) (fun ρ X V Z=>Z 2 (Shape.inj jr.c9s (X.1,X.2.1,V.1,X.2.2.2.1,(q4 X).1,(q4 X).2.1,(q4 X).2.2.1,(q4 X).2.2.2.1,(q8 X).1,(q8 X).2.1,(q8 X).2.2.1,(q8 X).2.2.2.1,(q4 (q8 X)).1,(q4 (q8 X)).2.1,(q4 (q8 X)).2.2.1,V.2.1,V.2.2.1,V.2.2.2,())))
def jr.c21 (a0:Bool)(r1:List Int)(Z:Bool→Option ρ):Option ρ:=
 br a0
 (Z (decide ((↑(List.length r1):Int)>(0:Int))))
 (Z false)
def jr.c21s:Shape:=⟨[(0,ff84),(1,ff84),(2,ff2),(3,ff12),(4,ff6),(5,ff41),(6,ff8),(7,ff42),(8,ff49),(9,ff87),(10,ff5),(14,ff88)],[(2,ff83),(3,ff83),(4,ff83),(5,ff83),(6,ff19),(7,ff83),(9,ff83),(14,ff83)]⟩
def jr.c21x0:Shape:=⟨[(0,ff84),(1,ff84),(2,ff2),(3,ff12),(4,ff6),(5,ff41),(6,ff8),(7,ff42),(8,ff49),(9,ff87),(10,ff5),(14,ff88),(90,ff7)],[(2,ff83),(3,ff83),(4,ff83),(5,ff83),(6,ff19),(7,ff83),(9,ff83),(14,ff83)]⟩
def jr.c21r:Ck:=Ck.of (T:=Bool) jr.c21s (fun ρ X Z=>jr.c21 (q4 X).1 (q8 (q8 X)).2.1 Z) (fun ρ X V Z=>Z 0 (Shape.inj jr.c21x0 (X.1,X.2.1,X.2.2.1,X.2.2.2.1,V,(q4 X))))
def jr.c22 (z0:Bool)(z1:List Int)(Z:YD→Option ρ):Option ρ:=
 bnd (Jt (1:Int)) fun y=>
 bnd (Jn (z0,z1) y) fun y_1=>
 Z (y_1.1,y_1.2)
def jr.c22r:Ck:=Ck.of (T:=YD) jr.c21s (fun ρ X Z=>jr.c22 (q8 (q8 X)).2.2.1 (q8 (q8 X)).2.2.2.1 Z) (fun ρ X V Z=>Z 0 (Shape.inj jr.c21s (X.1,X.2.1,X.2.2.1,X.2.2.2.1,(q4 X).1,(q4 X).2.1,(q4 X).2.2.1,(q4 X).2.2.2.1,(q8 X).1,(q8 X).2.1,(q8 X).2.2.1,(q8 X).2.2.2.1,(q4 (q8 X)).1,(q4 (q8 X)).2.1,(q4 (q8 X)).2.2.1,(q4 (q8 X)).2.2.2.1,(q8 (q8 X)).1,(q8 (q8 X)).2.1,V.1,V.2,())))
def jr.cX_ (a0:Bool)(under0:Bool)(under1:List Int)(r0:Bool)(r1:List Int)(z0:Bool)(z1:List Int)(Z:Bool×(List Int)×YD→Option ρ):Option ρ:=
 bnd (jr.c21 a0 r1 some) fun y=>
 br y
 (bnd (jr.c22 z0 z1 some) fun y_1=>
 bnd (kc (under0,under1) (r0,r1)) fun y_2=>
 Z (y_2.1,y_2.2,y_1.1,y_1.2))
 (Z (r0,r1,z0,z1))
def jr.cX_r:Ck:=Ck.of (T:=Bool×(List Int)×YD) jr.c21s (fun ρ X Z=>jr.cX_ (q4 X).1 (q4 (q8 X)).2.2.1 (q4 (q8 X)).2.2.2.1 (q8 (q8 X)).1 (q8 (q8 X)).2.1 (q8 (q8 X)).2.2.1 (q8 (q8 X)).2.2.2.1 Z) (fun ρ X V Z=>Z 0 (Shape.inj jr.c21s (X.1,X.2.1,X.2.2.1,X.2.2.2.1,(q4 X).1,(q4 X).2.1,(q4 X).2.2.1,(q4 X).2.2.2.1,(q8 X).1,(q8 X).2.1,(q8 X).2.2.1,(q8 X).2.2.2.1,(q4 (q8 X)).1,(q4 (q8 X)).2.1,(q4 (q8 X)).2.2.1,(q4 (q8 X)).2.2.2.1,V.1,V.2.1,V.2.2.1,V.2.2.2,())))
def jr.c24 (a0:Bool)(b0:Bool)(z1:List Int)(Z:YD→Option ρ):Option ρ:=
 bnd (Jb (!a0==b0) z1) fun y=>
 Z (y.1,y.2)
def jr.c24r:Ck:=Ck.of (T:=YD) jr.c21s (fun ρ X Z=>jr.c24 (q4 X).1 (q4 X).2.2.1 (q8 (q8 X)).2.2.2.1 Z) (fun ρ X V Z=>Z 0 (Shape.inj jr.c21s (X.1,X.2.1,X.2.2.1,X.2.2.2.1,(q4 X).1,(q4 X).2.1,(q4 X).2.2.1,(q4 X).2.2.2.1,V.1,V.2,(q8 (q8 X)).1,(q8 (q8 X)).2.1,(0:Int),(0:Int),(q4 (q8 X)).2.2)))
def jr (a:YD) (b:YD):Option (YD×YD×(Int×Int)):=
 br ((↑(List.length b.2):Int)==(0:Int))
 (some ((false,[]),(false,[]),(4:Int),(0:Int)))
 (bnd (Jb false b.2) fun y=>
 bnd (okIf (decide ((0:Int)≤(↑(List.length a.2):Int))&&decide ((↑(List.length a.2):Int)≤(↑(List.length a.2):Int))&&decide ((↑(List.length a.2):Int)*(↑(8:Nat):Int)≤(140737488355328:Int))&&decide ((↑(List.length a.2):Int)≤(140737488355328:Int)))) fun y_1=>
 bnd (iter (fun s↦jr.cd_ s.1 a.2 y.1 y.2 s.2.1 s.2.2.1 s.2.2.2 some) (IntKind.i64.wrap ((↑(List.length a.2):Int)-(1:Int)),false,[],List.replicate (Int.toNat (↑(List.length a.2):Int)) (0:Int))) fun y_2=>
 bnd (Jb false y_2.2.2.2) fun y_3=>
 bnd (jr.cX_ a.1 y.1 y.2 y_2.2.1 y_2.2.2.1 y_3.1 y_3.2 some) fun y4=>
 bnd (jr.c24 a.1 b.1 y4.2.2.2 some) fun y5=>
 some ((y5.1,y5.2),(y4.1,y4.2.1),(0:Int),(0:Int)))
def jr.ce:Go.Ql.Callee:=⟨[(.st (.pair .bool (.sl (.int .i64)))),(.st (.pair .bool (.sl (.int .i64))))],[(.st (.pair .bool (.sl (.int .i64)))),(.st (.pair .bool (.sl (.int .i64)))),(.st (.pair (.int .i64) (.int .i64)))],fun X=>jr X.1 X.2⟩
def jr.G:Env:=⟨107,tab,[(41,Jb.ce),(102,Jk.ce),(8,Jt.ce),(44,jI.ce),(43,kX.ce),(78,kc.ce),(83,Jn.ce)],[0,1,2,3,4,5,6,7,8,9,10,11,12,13,14,18,35,53,57,68,90],[28,43],[(24,[⟨[],[],[99,100,102,103,105,106],[]⟩,⟨[0],[],[99,100,102,103,105,106],[]⟩,⟨[],[],[97,98,102,103,105,106],[]⟩,⟨[2],[],[97,98,102,103,105,106],[]⟩,⟨[1,0,3,2],[],[102,103,105,106],[]⟩,⟨[],[],[97,98,99,100,101,105,106],[]⟩,⟨[5],[],[97,98,99,100,101,105,106],[]⟩,⟨[4,1,0,3,2,6,5],[],[105,106],[]⟩,⟨[],[],[97,98,99,100,101,102,103,104,106],[4]⟩,⟨[],[],[97,98,99,100,101,102,103,104,105],[4,5]⟩,⟨[7,4,1,0,3,2,6,5],[4],[105,106],[]⟩,⟨[8,10,7,4,1,0,3,2,6,5],[5],[106],[]⟩,⟨[9,11,8,10,7,4,1,0,3,2,6,5],[6],[],[]⟩]),
 (22,[⟨[],[],[92],[]⟩,⟨[],[],[91],[]⟩,⟨[0,1],[],[],[]⟩,⟨[2,0,1],[14],[],[]⟩]),
 (19,[⟨[],[],[76,77,78,79],[]⟩,⟨[],[],[75,77,78],[]⟩,⟨[],[],[75,76],[]⟩,⟨[2],[],[75,76],[]⟩,⟨[1,3,2],[],[75],[]⟩,⟨[0,4,1,3,2],[],[],[]⟩,⟨[5,0,4,1,3,2],[9],[],[]⟩]),
 (15,[⟨[],[],[63,64,66],[]⟩,⟨[],[],[62,66],[]⟩,⟨[1],[],[62,66],[]⟩,⟨[0,2,1],[],[66],[]⟩,⟨[],[],[62,63,64,65],[]⟩,⟨[3,0,2,1,4],[],[],[]⟩,⟨[5,3,0,2,1,4],[],[],[]⟩]),
 (9,[⟨[],[],[40,44,45],[]⟩,⟨[0],[],[40,44,45],[]⟩,⟨[],[],[38,39,44,45],[]⟩,⟨[1,0,2],[],[44,45],[]⟩,⟨[3,1,0,2],[],[44,45],[]⟩,⟨[4,3,1,0,2],[43],[44,45],[]⟩,⟨[],[],[38,39,40,41,42,43],[43]⟩,⟨[6],[],[38,39,40,41,42,43],[43]⟩,⟨[5,4,3,1,0,2,7,6],[43],[],[]⟩,⟨[8,5,4,3,1,0,2,7,6],[43],[],[]⟩,⟨[9,8,5,4,3,1,0,2,7,6],[9],[],[]⟩])],[(24,jr.c24r),(286023,jr.cX_r),(22,jr.c22r),(21,jr.c21r),(100007,jr.cd_r),(19,jr.c19r),(100013,jr.cl_r),(15,jr.c15r),(245061,jr.cq_r),(9,jr.c9r)],[],jy⟩
theorem jr.p0:PcA jr.G Tryz.f99 0:=
 jW (s:=jr.cd_r) (by kernel_rfl) (by kernel_rfl) (jT (sh:=jr.c9s) (I:=fun X Q=>(X.1,X.2.1,Q.1,X.2.2.2.1,(q4 X).1,(q4 X).2.1,(q4 X).2.2.1,(q4 X).2.2.2.1,(q8 X).1,(q8 X).2.1,(q8 X).2.2.1,(q8 X).2.2.2.1,(q4 (q8 X)).1,(q4 (q8 X)).2.1,(q4 (q8 X)).2.2.1,Q.2.1,Q.2.2.1,Q.2.2.2,())) (fun X=>rfl) (fun ρ X Q Z=>(jl (jb fun _=>(jb fun _=>(jb fun _=>(jb fun _=>(jb fun _=>(jb fun _=>jc)))))) jc)) (fun ρ X t k=>(by kernel_rfl)) (fun X s=>by kernel_rfl))
theorem jr.p1:PcA jr.G Tryz.f99 1:=
 js (s:=jr.c9r) (by kernel_rfl) (by kernel_rfl) (jq (sh:=jr.c9s) (fun ρ X Z=>(jb fun _=>(jb fun _=>(jb fun _=>jc)))) (fun ρ X t k=>(by kernel_rfl)) (fun X=>by kernel_rfl))
theorem jr.p2:PcA jr.G Tryz.f99 2:=
 JE (s:=jr.cq_r) (by kernel_rfl) (by kernel_rfl) (jq (sh:=jr.cq_s) (fun ρ X Z=>(jb fun _=>(jl jc jc))) (fun ρ X t k=>(by kernel_rfl)) (fun X=>by kernel_rfl))
theorem jr.p3:PcA jr.G Tryz.f99 3:=
 jW (s:=jr.cl_r) (by kernel_rfl) (by kernel_rfl) (jT (sh:=jr.cq_s) (I:=fun X Q=>(X.1,X.2.1,X.2.2.1,Q.1,Q.2,(q4 X).2)) (fun X=>rfl) (fun ρ X Q Z=>(jl (jb fun _=>(jl jc jc)) jc)) (fun ρ X t k=>(by kernel_rfl)) (fun X s=>by kernel_rfl))
theorem jr.p4:PcA jr.G Tryz.f99 4:=
 js (s:=jr.c15r) (by kernel_rfl) (by kernel_rfl) (jq (sh:=jr.c15s) (fun ρ X Z=>(jb fun _=>(jb fun _=>(jb fun _=>jc)))) (fun ρ X t k=>(by kernel_rfl)) (fun X=>by kernel_rfl))
theorem jr.p5:PcA jr.G Tryz.f99 5:=
 js (s:=jr.c19r) (by kernel_rfl) (by kernel_rfl) (jq (sh:=jr.cq_s) (fun ρ X Z=>(jb fun _=>(jb fun _=>(jb fun _=>jc)))) (fun ρ X t k=>(by kernel_rfl)) (fun X=>by kernel_rfl))
theorem jr.p6:PcA jr.G Tryz.f99 6:=
 JE (s:=jr.cX_r) (by kernel_rfl) (by kernel_rfl) (jq (sh:=jr.c21s) (fun ρ X Z=>(jb fun _=>(jl (jb fun _=>(jb fun _=>jc)) jc))) (fun ρ X t k=>(by kernel_rfl)) (fun X=>by kernel_rfl))
theorem jr.p7:PcA jr.G Tryz.f99 7:=
 js (s:=jr.c21r) (by kernel_rfl) (by kernel_rfl) (jq (sh:=jr.c21s) (fun ρ X Z=>(jl jc jc)) (fun ρ X t k=>(by kernel_rfl)) (fun X=>by kernel_rfl))
theorem jr.p8:PcA jr.G Tryz.f99 8:=
 js (s:=jr.c22r) (by kernel_rfl) (by kernel_rfl) (jq (sh:=jr.c21s) (fun ρ X Z=>(jb fun _=>(jb fun _=>jc))) (fun ρ X t k=>(by kernel_rfl)) (fun X=>by kernel_rfl))
theorem jr.p9:PcA jr.G Tryz.f99 9:=
 js (s:=jr.c24r) (by kernel_rfl) (by kernel_rfl) (jq (sh:=jr.c21s) (fun ρ X Z=>(jb fun _=>jc)) (fun ρ X t k=>(by kernel_rfl)) (fun X=>by kernel_rfl))
theorem jr.ok:CalleeOk Tryz.prog 99 jr.ce:=fn_ok (G:=jr.G) jG mixed Tryz.func99 ⟨(jj Jb.ok (jj Jk.ok (jj Jt.ok (jj jI.ok (jj kX.ok (jj kc.ok (jj Jn.ok jz))))))),jx,jn⟩ (m:=10) (by kernel_rfl) ⟨⟨⟨⟨⟨⟨⟨⟨⟨⟨trivial,jr.p0⟩,jr.p1⟩,jr.p2⟩,jr.p3⟩,jr.p4⟩,jr.p5⟩,jr.p6⟩,jr.p7⟩,jr.p8⟩,jr.p9⟩ (by kernel_rfl) (fun _=>by kernel_rfl)
def JL.c3  (Z:Unit→Option ρ):Option ρ:=
 Z ()
def JL.c3s:Shape:=⟨[(0,ff84),(1,ff84),(2,ff2),(3,ff12),(4,ff6),(6,ff8)],[(2,ff83),(3,ff83),(4,ff83),(5,ff83),(6,ff83),(7,ff19)]⟩
def JL.c3r:Ck:=Ck.of (T:=Unit) JL.c3s (fun ρ X Z=>JL.c3  Z) (fun ρ X V Z=>Z 0 (Shape.inj JL.c3s (X.1,X.2.1,(q4 X).1,(q4 X).2.1,(q8 X).2.2.1,(q8 X).2.2.2.1,(q4 X).2.2)))
def JL.cj_ (a0:Bool)(a1:List Int)(b0:Bool)(b1:List Int)(Z:(Bool×(List Int)×YD)⊕(Bool×(List Int)×YD)→Option ρ):Option ρ:=
 br (decide ((↑(List.length b1):Int)>(0:Int)))
 (bnd (jr (a0,a1) (b0,b1)) fun y=>
 bnd (JL.c3 some) fun y_1=>
 Z (.inl (b0,b1,y.2.1.1,y.2.1.2)))
 (Z (.inr (a0,a1,b0,b1)))
def JL.cj_s:Shape:=⟨[(0,ff84),(1,ff84),(2,ff2),(3,ff12),(4,ff6)],[(2,ff83),(3,ff83),(4,ff83)]⟩
def JL.cj_r:Ck:=Ck.ofLoop (S:=Bool×(List Int)×YD) (T:=Bool×(List Int)×YD) JL.cj_s (fun X=>(X.2.2.1,X.2.2.2.1,(q4 X).1,(q4 X).2.1)) (fun ρ X Q Z=>JL.cj_ Q.1 Q.2.1 Q.2.2.1 Q.2.2.2 Z) (fun ρ X V Z=>Z 2 (Shape.inj JL.cj_s (X.1,X.2.1,V.1,V.2.1,V.2.2.1,V.2.2.2,(q4 X).2.2)))
def JL (a:YD) (b:YD):Option YD:=
 bnd (iter (fun s↦JL.cj_ s.1 s.2.1 s.2.2.1 s.2.2.2 some) (a.1,a.2,b.1,b.2)) fun y=>
 bnd (Jb false y.2.1) fun y_1=>
 some (y_1.1,y_1.2)
def JL.ce:Go.Ql.Callee:=⟨[(.st (.pair .bool (.sl (.int .i64)))),(.st (.pair .bool (.sl (.int .i64))))],[(.st (.pair .bool (.sl (.int .i64))))],fun X=>JL X.1 X.2⟩
def JL.G:Env:=⟨24,tab,[(99,jr.ce),(41,Jb.ce)],[0,1,2,3,4,6,11],[],[(3,[⟨[],[],[20],[]⟩,⟨[],[],[19],[2]⟩,⟨[0],[2],[20],[]⟩,⟨[1,2,0],[3],[],[]⟩])],[(100001,JL.cj_r),(3,JL.c3r)],[],jy⟩
theorem JL.p0:PcA JL.G Tryz.f98 0:=
 jW (s:=JL.cj_r) (by kernel_rfl) (by kernel_rfl) (jT (sh:=JL.cj_s) (I:=fun X Q=>(X.1,X.2.1,Q.1,Q.2.1,Q.2.2.1,Q.2.2.2,(q4 X).2.2)) (fun X=>rfl) (fun ρ X Q Z=>(jl (jb fun _=>(jb fun _=>jc)) jc)) (fun ρ X t k=>(by kernel_rfl)) (fun X s=>by kernel_rfl))
theorem JL.p1:PcA JL.G Tryz.f98 1:=
 js (s:=JL.c3r) (by kernel_rfl) (by kernel_rfl) (jq (sh:=JL.c3s) (fun ρ X Z=>jc) (fun ρ X t k=>(by kernel_rfl)) (fun X=>by kernel_rfl))
theorem JL.ok:CalleeOk Tryz.prog 98 JL.ce:=fn_ok (G:=JL.G) jG mixed Tryz.func98 ⟨(jj jr.ok (jj Jb.ok jz)),jx,jn⟩ (m:=2) (by kernel_rfl) ⟨⟨trivial,JL.p0⟩,JL.p1⟩ (by kernel_rfl) (fun _=>by kernel_rfl)
abbrev ff89:SO:=.box [.val .bool,.val (.sl (.int .i64)),.val .bool,.val (.sl (.int .i64))]
def Jy.c7 (a0:Bool)(a1:List Int)(b0:Bool)(b1:List Int)(Z:Bool×(List Int)×YD→Option ρ):Option ρ:=
 bnd (kK (a0,a1)) fun y=>
 bnd (kK (b0,b1)) fun y_1=>
 Z (y.1,y.2,y_1.1,y_1.2)
def Jy.c7s:Shape:=⟨[(0,ff84),(1,ff84),(2,ff2),(3,ff12),(4,ff6),(5,ff41),(6,ff8)],[(2,ff83),(3,ff83),(4,ff89),(5,ff19),(6,ff83)]⟩
def Jy.c7r:Ck:=Ck.of (T:=Bool×(List Int)×YD) Jy.c7s (fun ρ X Z=>Jy.c7 X.2.2.1 X.2.2.2.1 (q4 X).1 (q4 X).2.1 Z) (fun ρ X V Z=>Z 0 (Shape.inj Jy.c7s (X.1,X.2.1,V.1,V.2.1,V.2.2.1,V.2.2.2,(q4 X).2.2)))
def Jy.cx_ (a0:Bool)(a1:List Int)(b0:Bool)(b1:List Int)(Z:Bool×(List Int)×YD→Option ρ):Option ρ:=
 br b0
 (bnd (Jy.c7 a0 a1 b0 b1 some) fun y=>
 Z (y.1,y.2.1,y.2.2.1,y.2.2.2))
 (Z (a0,a1,b0,b1))
def Jy.cx_r:Ck:=Ck.of (T:=Bool×(List Int)×YD) Jy.c7s (fun ρ X Z=>Jy.cx_ X.2.2.1 X.2.2.2.1 (q4 X).1 (q4 X).2.1 Z) (fun ρ X V Z=>Z 0 (Shape.inj Jy.c7s (X.1,X.2.1,V.1,V.2.1,V.2.2.1,V.2.2.2,(q4 X).2.2)))
def Jy (a:YD) (b:YD):Option ((YD×YD)×(Int×Int)):=
 br ((↑(List.length b.2):Int)==(0:Int))
 (bnd (Jt (1:Int)) fun y=>
 some (((false,[]),y.1,y.2),(4:Int),(0:Int)))
 (bnd (JL (a.1,a.2) (b.1,b.2)) fun y_1=>
 bnd (jr (a.1,a.2) (y_1.1,y_1.2)) fun y_2=>
 bnd (jr (b.1,b.2) (y_1.1,y_1.2)) fun y_3=>
 bnd (Jy.cx_ y_2.1.1 y_2.1.2 y_3.1.1 y_3.1.2 some) fun y4=>
 some (((y4.1,y4.2.1),y4.2.2.1,y4.2.2.2),(0:Int),(0:Int)))
def Jy.ce:Go.Ql.Callee:=⟨[(.st (.pair .bool (.sl (.int .i64)))),(.st (.pair .bool (.sl (.int .i64))))],[(.st (.pair (.st (.pair .bool (.sl (.int .i64)))) (.st (.pair .bool (.sl (.int .i64)))))),(.st (.pair (.int .i64) (.int .i64)))],fun X=>Jy X.1 X.2⟩
def Jy.G:Env:=⟨42,tab,[(8,Jt.ce),(98,JL.ce),(99,jr.ce),(81,kK.ce)],[0,1,2,3,4,5,6,10,33],[],[(7,[⟨[],[],[36],[]⟩,⟨[0],[],[36],[]⟩,⟨[],[],[34,35],[]⟩,⟨[2,1,0],[],[],[]⟩,⟨[1,0,3,2],[2],[],[]⟩,⟨[3,2,1,0,4],[3],[],[]⟩])],[(224581,Jy.cx_r),(7,Jy.c7r)],[],jy⟩
theorem Jy.p0:PcA Jy.G Tryz.f77 0:=
 JE (s:=Jy.cx_r) (by kernel_rfl) (by kernel_rfl) (jq (sh:=Jy.c7s) (fun ρ X Z=>(jl (jb fun _=>jc) jc)) (fun ρ X t k=>(by kernel_rfl)) (fun X=>by kernel_rfl))
theorem Jy.p1:PcA Jy.G Tryz.f77 1:=
 js (s:=Jy.c7r) (by kernel_rfl) (by kernel_rfl) (jq (sh:=Jy.c7s) (fun ρ X Z=>(jb fun _=>(jb fun _=>jc))) (fun ρ X t k=>(by kernel_rfl)) (fun X=>by kernel_rfl))
theorem Jy.ok:CalleeOk Tryz.prog 77 Jy.ce:=fn_ok (G:=Jy.G) jG mixed Tryz.func77 ⟨(jj Jt.ok (jj JL.ok (jj jr.ok (jj kK.ok jz)))),jx,jn⟩ (m:=2) (by kernel_rfl) ⟨⟨trivial,Jy.p0⟩,Jy.p1⟩ (by kernel_rfl) (fun _=>by kernel_rfl)
def kD (a:YD) (b:YD):Option (YD×YD):=
 bnd (Jy (a.1,a.2) (b.1,b.2)) fun y=>
 some ((y.1.1.1,y.1.1.2),y.1.2.1,y.1.2.2)
def kD.ce:Go.Ql.Callee:=⟨[(.st (.pair .bool (.sl (.int .i64)))),(.st (.pair .bool (.sl (.int .i64))))],[(.st (.pair (.st (.pair .bool (.sl (.int .i64)))) (.st (.pair .bool (.sl (.int .i64))))))],fun X=>kD X.1 X.2⟩
def kD.G:Env:=⟨14,tab,[(77,Jy.ce)],[0,1,2,3,4,5],[],[],[],[],jy⟩
theorem kD.ok:CalleeOk Tryz.prog 40 kD.ce:=fn_ok (G:=kD.G) jG mixed Tryz.func40 ⟨(jj Jy.ok jz),jx,jn⟩ (m:=0) (by kernel_rfl) trivial (by kernel_rfl) (fun _=>by kernel_rfl)
def jF.cv_ (text:List UInt8)(a0:Bool)(Z:List UInt8→Option ρ):Option ρ:=
 br a0
 (Z (Array.toList (ByteArray.data (ByteArray.mk #[45]))))
 (Z text)
def jF.cv_s:Shape:=⟨[(0,ff84),(1,ff1),(2,ff4),(3,ff4)],[(1,ff83)]⟩
def jF.cv_r:Ck:=Ck.of (T:=List UInt8) jF.cv_s (fun ρ X Z=>jF.cv_ X.2.2.1 X.2.2.2.1 Z) (fun ρ X V Z=>Z 0 (Shape.inj jF.cv_s (X.1,X.2.1,V,X.2.2.2)))
def jF.c9 (i:Int)(a1:List Int)(Z:List Int→Option ρ):Option ρ:=
 bnd (idx a1 i) fun y=>
 bnd (idx a1 i) fun y_1=>
 bnd (idx a1 i) fun y_2=>
 bnd (idx a1 i) fun y_3=>
 Z ([IntKind.wrap IntKind.u8 (IntKind.i64.wrap ((48:Int)+IntKind.i64.wrap (Int.tdiv y (1000:Int)))),IntKind.wrap IntKind.u8 (IntKind.i64.wrap ((48:Int)+Int.tmod (IntKind.i64.wrap (Int.tdiv y_1 (100:Int))) (10:Int))),IntKind.wrap IntKind.u8 (IntKind.i64.wrap ((48:Int)+Int.tmod (IntKind.i64.wrap (Int.tdiv y_2 (10:Int))) (10:Int))),IntKind.wrap IntKind.u8 (IntKind.i64.wrap ((48:Int)+Int.tmod y_3 (10:Int)))])
def jF.c9s:Shape:=⟨[(0,ff84),(1,ff1),(2,ff4),(3,ff4),(4,ff5)],[(1,ff83)]⟩
def jF.c9x0:Shape:=⟨[(0,ff84),(1,ff1),(2,ff4),(3,ff4),(4,ff5),(5,ff27)],[(1,ff83)]⟩
def jF.c9r:Ck:=Ck.of (T:=List Int) jF.c9s (fun ρ X Z=>jF.c9 X.2.2.2.1 (q4 X).2.1 Z) (fun ρ X V Z=>Z 0 (Shape.inj jF.c9x0 (X.1,X.2.1,X.2.2.1,X.2.2.2.1,V,(q4 X))))
def jF.c11 (i:Int)(four:List Int)(t6:Int)(a1:List Int)(Z:Bool→Option ρ):Option ρ:=
 br (i==IntKind.i64.wrap ((↑(List.length a1):Int)-(1:Int)))
 (br (decide (t6<(3:Int)))
 (bnd (idx four t6) fun y=>
 Z (y==(48:Int)))
 (Z false))
 (Z false)
def jF.c11s:Shape:=⟨[(0,ff84),(1,ff1),(2,ff4),(3,ff4),(4,ff5),(5,ff27),(6,ff5)],[(1,ff83)]⟩
def jF.c11x0:Shape:=⟨[(0,ff84),(1,ff1),(2,ff4),(3,ff4),(4,ff5),(5,ff27),(6,ff5),(72,ff7)],[(1,ff83)]⟩
def jF.c11r:Ck:=Ck.of (T:=Bool) jF.c11s (fun ρ X Z=>jF.c11 X.2.2.2.1 (q4 X).1 (q4 X).2.1 (q4 X).2.2.2.1 Z) (fun ρ X V Z=>Z 0 (Shape.inj jF.c11x0 (X.1,X.2.1,X.2.2.1,X.2.2.2.1,(q4 X).1,(q4 X).2.1,V,(q4 X).2.2)))
def jF.ct_ (i:Int)(four:List Int)(t6:Int)(a1:List Int)(Z:Int⊕Int→Option ρ):Option ρ:=
 bnd (jF.c11 i four t6 a1 some) fun y=>
 br y
 (Z (.inl (IntKind.i64.wrap (t6+(1:Int)))))
 (Z (.inr t6))
def jF.ct_r:Ck:=Ck.ofLoop (S:=Int) (T:=Int) jF.c11s (fun X=>(q4 X).2.1) (fun ρ X Q Z=>jF.ct_ X.2.2.2.1 (q4 X).1 Q (q4 X).2.2.2.1 Z) (fun ρ X V Z=>Z 4 (Shape.inj jF.c11s (X.1,X.2.1,X.2.2.1,X.2.2.2.1,(q4 X).1,V,(q4 X).2.2)))
def jF.cd_ (text:List UInt8)(i:Int)(a1:List Int)(Z:((List UInt8)×Int)⊕((List UInt8)×Int)→Option ρ):Option ρ:=
 br (decide (i≥(0:Int)))
 (bnd (jF.c9 i a1 some) fun y=>
 bnd (iter (fun s↦jF.ct_ i y s a1 some) (0:Int)) fun y_1=>
 bnd (okIf (decide ((0:Int)≤y_1)&&decide (y_1≤(↑(List.length y):Int))&&decide ((↑(List.length y):Int)≤(↑(List.length y):Int)))) fun y_2=>
 bnd (okIf (decide (List.length text+List.length (List.map (fun n↦UInt8.ofNat (Int.toNat n)) (List.drop (Int.toNat y_1) (List.take (Int.toNat (↑(List.length y):Int)) y)))≤(9223372036854775807:Nat)))) fun y_3=>
 Z (.inl ((text++List.map (fun n↦UInt8.ofNat (Int.toNat n)) (List.drop (Int.toNat y_1) (List.take (Int.toNat (↑(List.length y):Int)) y))),(IntKind.i64.wrap (i-(1:Int))))))
 (Z (.inr (text,i)))
def jF.cd_r:Ck:=Ck.ofLoop (S:=(List UInt8)×Int) (T:=(List UInt8)×Int) jF.c9s (fun X=>(X.2.2.1,X.2.2.2.1)) (fun ρ X Q Z=>jF.cd_ Q.1 Q.2 (q4 X).2.1 Z) (fun ρ X V Z=>Z 2 (Shape.inj jF.c9s (X.1,X.2.1,V.1,V.2,(q4 X))))
def jF (a:YD):Option (List UInt8):=
 br ((↑(List.length a.2):Int)==(0:Int))
 (some (Array.toList (ByteArray.data (ByteArray.mk #[48]))))
 (bnd (jF.cv_ (Array.toList (ByteArray.data (ByteArray.mk #[]))) a.1 some) fun y=>
 bnd (iter (fun s↦jF.cd_ s.1 s.2 a.2 some) (y,IntKind.i64.wrap ((↑(List.length a.2):Int)-(1:Int)))) fun y_1=>
 some y_1.1)
def jF.ce:Go.Ql.Callee:=⟨[(.st (.pair .bool (.sl (.int .i64))))],[.str],fun X=>jF X⟩
def jF.G:Env:=⟨82,tab,[],[0,1,2,3,4,5,6,10,12,18,72],[],[(9,[⟨[],[],[23,29,30,31,32,33,34,35,36,37,38,39,40,41,42,43,44,45,46,47,48,49,50,51,52,53,54],[]⟩,⟨[0],[],[23,29,30,31,32,33,34,35,36,37,38,39,40,41,42,43,44,45,46,47,48,49,50,51,52,53,54],[]⟩,⟨[],[],[21,22,29,30,31,32,33,34,35,36,37,38,39,40,41,42,43,44,45,46,47,48,49,50,51,52,53,54],[]⟩,⟨[1,0,2],[],[29,30,31,32,33,34,35,36,37,38,39,40,41,42,43,44,45,46,47,48,49,50,51,52,53,54],[]⟩,⟨[3,1,0,2],[],[29,30,31,32,33,34,35,36,37,38,39,40,41,42,43,44,45,46,47,48,49,50,51,52,53,54],[]⟩,⟨[4,3,1,0,2],[],[29,30,31,32,33,34,35,36,37,38,39,40,41,42,43,44,45,46,47,48,49,50,51,52,53,54],[]⟩,⟨[5,4,3,1,0,2],[],[29,30,31,32,33,34,35,36,37,38,39,40,41,42,43,44,45,46,47,48,49,50,51,52,53,54],[]⟩,⟨[6,5,4,3,1,0,2],[],[29,30,31,32,33,34,35,36,37,38,39,40,41,42,43,44,45,46,47,48,49,50,51,52,53,54],[]⟩,⟨[],[],[21,22,23,24,25,26,27,28,31,38,39,40,41,42,43,44,45,46,47,48,49,50,51,52,53,54],[]⟩,⟨[8],[],[21,22,23,24,25,26,27,28,31,38,39,40,41,42,43,44,45,46,47,48,49,50,51,52,53,54],[]⟩,⟨[],[],[21,22,23,24,25,26,27,28,29,30,38,39,40,41,42,43,44,45,46,47,48,49,50,51,52,53,54],[]⟩,⟨[9,8,10],[],[21,22,23,24,25,26,27,28,38,39,40,41,42,43,44,45,46,47,48,49,50,51,52,53,54],[]⟩,⟨[11,9,8,10],[],[21,22,23,24,25,26,27,28,38,39,40,41,42,43,44,45,46,47,48,49,50,51,52,53,54],[]⟩,⟨[12,11,9,8,10],[],[21,22,23,24,25,26,27,28,38,39,40,41,42,43,44,45,46,47,48,49,50,51,52,53,54],[]⟩,⟨[13,12,11,9,8,10],[],[21,22,23,24,25,26,27,28,38,39,40,41,42,43,44,45,46,47,48,49,50,51,52,53,54],[]⟩,⟨[14,13,12,11,9,8,10],[],[21,22,23,24,25,26,27,28,38,39,40,41,42,43,44,45,46,47,48,49,50,51,52,53,54],[]⟩,⟨[15,14,13,12,11,9,8,10],[],[21,22,23,24,25,26,27,28,38,39,40,41,42,43,44,45,46,47,48,49,50,51,52,53,54],[]⟩,⟨[],[],[21,22,23,24,25,26,27,28,29,30,31,32,33,34,35,36,37,40,47,48,49,50,51,52,53,54],[]⟩,⟨[17],[],[21,22,23,24,25,26,27,28,29,30,31,32,33,34,35,36,37,40,47,48,49,50,51,52,53,54],[]⟩,⟨[],[],[21,22,23,24,25,26,27,28,29,30,31,32,33,34,35,36,37,38,39,47,48,49,50,51,52,53,54],[]⟩,⟨[18,17,19],[],[21,22,23,24,25,26,27,28,29,30,31,32,33,34,35,36,37,47,48,49,50,51,52,53,54],[]⟩,⟨[20,18,17,19],[],[21,22,23,24,25,26,27,28,29,30,31,32,33,34,35,36,37,47,48,49,50,51,52,53,54],[]⟩,⟨[21,20,18,17,19],[],[21,22,23,24,25,26,27,28,29,30,31,32,33,34,35,36,37,47,48,49,50,51,52,53,54],[]⟩,⟨[22,21,20,18,17,19],[],[21,22,23,24,25,26,27,28,29,30,31,32,33,34,35,36,37,47,48,49,50,51,52,53,54],[]⟩,⟨[23,22,21,20,18,17,19],[],[21,22,23,24,25,26,27,28,29,30,31,32,33,34,35,36,37,47,48,49,50,51,52,53,54],[]⟩,⟨[24,23,22,21,20,18,17,19],[],[21,22,23,24,25,26,27,28,29,30,31,32,33,34,35,36,37,47,48,49,50,51,52,53,54],[]⟩,⟨[],[],[21,22,23,24,25,26,27,28,29,30,31,32,33,34,35,36,37,38,39,40,41,42,43,44,45,46,49],[]⟩,⟨[26],[],[21,22,23,24,25,26,27,28,29,30,31,32,33,34,35,36,37,38,39,40,41,42,43,44,45,46,49],[]⟩,⟨[],[],[21,22,23,24,25,26,27,28,29,30,31,32,33,34,35,36,37,38,39,40,41,42,43,44,45,46,47,48],[]⟩,⟨[27,26,28],[],[21,22,23,24,25,26,27,28,29,30,31,32,33,34,35,36,37,38,39,40,41,42,43,44,45,46],[]⟩,⟨[29,27,26,28],[],[21,22,23,24,25,26,27,28,29,30,31,32,33,34,35,36,37,38,39,40,41,42,43,44,45,46],[]⟩,⟨[30,29,27,26,28],[],[21,22,23,24,25,26,27,28,29,30,31,32,33,34,35,36,37,38,39,40,41,42,43,44,45,46],[]⟩,⟨[31,30,29,27,26,28],[],[21,22,23,24,25,26,27,28,29,30,31,32,33,34,35,36,37,38,39,40,41,42,43,44,45,46],[]⟩,⟨[32,31,30,29,27,26,28],[],[21,22,23,24,25,26,27,28,29,30,31,32,33,34,35,36,37,38,39,40,41,42,43,44,45,46],[]⟩,⟨[7,6,5,4,3,1,0,2,16,15,14,13,12,11,9,8,10,25,24,23,22,21,20,18,17,19,33,32,31,30,29,27,26,28],[55],[],[]⟩,⟨[34,7,6,5,4,3,1,0,2,16,15,14,13,12,11,9,8,10,25,24,23,22,21,20,18,17,19,33,32,31,30,29,27,26,28],[],[],[]⟩])],[(100007,jF.cd_r),(100011,jF.ct_r),(11,jF.c11r),(9,jF.c9r),(216389,jF.cv_r)],[],jy⟩
theorem jF.p0:PcA jF.G Tryz.f48 0:=
 JE (s:=jF.cv_r) (by kernel_rfl) (by kernel_rfl) (jq (sh:=jF.cv_s) (fun ρ X Z=>(jl jc jc)) (fun ρ X t k=>(by kernel_rfl)) (fun X=>by kernel_rfl))
theorem jF.p1:PcA jF.G Tryz.f48 1:=
 jW (s:=jF.cd_r) (by kernel_rfl) (by kernel_rfl) (jT (sh:=jF.c9s) (I:=fun X Q=>(X.1,X.2.1,Q.1,Q.2,(q4 X))) (fun X=>rfl) (fun ρ X Q Z=>(jl (jb fun _=>(jb fun _=>(jb fun _=>(jb fun _=>jc)))) jc)) (fun ρ X t k=>(by kernel_rfl)) (fun X s=>by kernel_rfl))
theorem jF.p2:PcA jF.G Tryz.f48 2:=
 js (s:=jF.c9r) (by kernel_rfl) (by kernel_rfl) (jq (sh:=jF.c9s) (fun ρ X Z=>(jb fun _=>(jb fun _=>(jb fun _=>(jb fun _=>jc))))) (fun ρ X t k=>(by kernel_rfl)) (fun X=>by kernel_rfl))
theorem jF.p3:PcA jF.G Tryz.f48 3:=
 jW (s:=jF.ct_r) (by kernel_rfl) (by kernel_rfl) (jT (sh:=jF.c11s) (I:=fun X Q=>(X.1,X.2.1,X.2.2.1,X.2.2.2.1,(q4 X).1,Q,(q4 X).2.2)) (fun X=>rfl) (fun ρ X Q Z=>(jb fun _=>(jl jc jc))) (fun ρ X t k=>(by kernel_rfl)) (fun X s=>by kernel_rfl))
theorem jF.p4:PcA jF.G Tryz.f48 4:=
 js (s:=jF.c11r) (by kernel_rfl) (by kernel_rfl) (jq (sh:=jF.c11s) (fun ρ X Z=>(jl (jl (jb fun _=>jc) jc) jc)) (fun ρ X t k=>(by kernel_rfl)) (fun X=>by kernel_rfl))
theorem jF.ok:CalleeOk Tryz.prog 48 jF.ce:=fn_ok (G:=jF.G) jG mixed Tryz.func48 ⟨jz,jx,jn⟩ (m:=5) (by kernel_rfl) ⟨⟨⟨⟨⟨trivial,jF.p0⟩,jF.p1⟩,jF.p2⟩,jF.p3⟩,jF.p4⟩ (by kernel_rfl) (fun _=>by kernel_rfl)
abbrev ff90:SD:=.one (.val (.st (.pair (.st (.pair .bool (.sl (.int .i64)))) (.st (.pair .bool (.sl (.int .i64)))))))
def JO.c3 (x0:Bool)(x1:List Int)(x2:Bool)(x3:List Int)(Z:List UInt8→Option ρ):Option ρ:=
 bnd (jF (x0,x1)) fun y=>
 bnd (okIf (decide (List.length y+List.length (Array.toList (ByteArray.data (ByteArray.mk #[47])))≤(9223372036854775807:Nat)))) fun y_1=>
 bnd (jF (x2,x3)) fun y_2=>
 bnd (okIf (decide (List.length (y++Array.toList (ByteArray.data (ByteArray.mk #[47])))+List.length y_2≤(9223372036854775807:Nat)))) fun y_3=>
 Z (y++Array.toList (ByteArray.data (ByteArray.mk #[47]))++y_2)
def JO.c3s:Shape:=⟨[(0,ff90),(1,ff1),(2,ff4)],[(1,ff89)]⟩
def JO.c3r:Ck:=Ck.of (T:=List UInt8) JO.c3s (fun ρ X Z=>JO.c3 X.2.2.1 X.2.2.2.1 (q4 X).1 (q4 X).2.1 Z) (fun ρ X V Z=>Z 0 (Shape.inj JO.c3s (X.1,V,X.2.2)))
def JO (x:YD×YD):Option (List UInt8):=
 bnd (jF (x.2.1,x.2.2)) fun y=>
 br (y==Array.toList (ByteArray.data (ByteArray.mk #[49])))
 (bnd (jF (x.1.1,x.1.2)) fun y_1=>
 some y_1)
 (bnd (JO.c3 x.1.1 x.1.2 x.2.1 x.2.2 some) fun y_2=>
 some y_2)
def JO.ce:Go.Ql.Callee:=⟨[(.st (.pair (.st (.pair .bool (.sl (.int .i64)))) (.st (.pair .bool (.sl (.int .i64))))))],[.str],fun X=>JO X⟩
def JO.G:Env:=⟨18,tab,[(48,jF.ce)],[0,1,2,6],[],[(3,[⟨[],[],[14,15],[]⟩,⟨[0],[],[14,15],[]⟩,⟨[1,0],[],[14,15],[]⟩,⟨[2,1,0],[],[14,15,16],[]⟩,⟨[],[],[10,11,12,13],[]⟩,⟨[4],[],[10,11,12,13],[]⟩,⟨[5,4,2,1,0],[],[13],[]⟩,⟨[3,2,1,0,6,5,4],[],[],[]⟩,⟨[7,3,2,1,0,6,5,4],[],[],[]⟩])],[(3,JO.c3r)],[],jy⟩
theorem JO.p0:PcA JO.G Tryz.f12 0:=
 js (s:=JO.c3r) (by kernel_rfl) (by kernel_rfl) (jq (sh:=JO.c3s) (fun ρ X Z=>(jb fun _=>(jb fun _=>(jb fun _=>(jb fun _=>jc))))) (fun ρ X t k=>(by kernel_rfl)) (fun X=>by kernel_rfl))
theorem JO.ok:CalleeOk Tryz.prog 12 JO.ce:=fn_ok (G:=JO.G) jG mixed Tryz.func12 ⟨(jj jF.ok jz),jx,jn⟩ (m:=1) (by kernel_rfl) ⟨trivial,JO.p0⟩ (by kernel_rfl) (fun _=>by kernel_rfl)
abbrev ff91:SD:=.one (.ref 10 0)
def jw.c4 (text:List UInt8)(n:Int)(ok:Bool)(Z:Bool→Option ρ):Option ρ:=
 br ok
 (br (decide (n<(↑(List.length text):Int)))
 (bnd (idx text n) fun y=>
 Z ((↑(UInt8.toNat y):Int)==(47:Int)))
 (Z false))
 (Z false)
def jw.c4s:Shape:=⟨[(0,ff4),(2,ff2),(3,ff12),(4,ff6),(5,ff5),(6,ff7),(7,ff5)],[(2,ff89),(3,ff19),(4,ff89)]⟩
def jw.c4x0:Shape:=⟨[(0,ff4),(2,ff2),(3,ff12),(4,ff6),(5,ff5),(6,ff7),(7,ff5),(32,ff7)],[(2,ff89),(3,ff19),(4,ff89)]⟩
def jw.c4r:Ck:=Ck.of (T:=Bool) jw.c4s (fun ρ X Z=>jw.c4 X.1 X.2.1 X.2.2.1 Z) (fun ρ X V Z=>Z 0 (Shape.inj jw.c4x0 (X.1,X.2.1,X.2.2.1,X.2.2.2.1,V,(q4 X))))
def jw.caa_ (text:List UInt8)(n:Int)(ok:Bool)(m:Int)(Z:Bool×Int→Option ρ):Option ρ:=
 bnd (jw.c4 text n ok some) fun y=>
 br y
 (bnd (okIf (decide ((0:Int)≤IntKind.i64.wrap (n+(1:Int)))&&decide (IntKind.i64.wrap (n+(1:Int))≤(↑(List.length text):Int))&&decide ((↑(List.length text):Int)≤(↑(List.length text):Int)))) fun y_1=>
 bnd (jR (List.drop (Int.toNat (IntKind.i64.wrap (n+(1:Int)))) (List.take (Int.toNat (↑(List.length text):Int)) text)) false false) fun y_2=>
 Z (y_2.2,(IntKind.i64.wrap (IntKind.i64.wrap (n+(1:Int))+y_2.1))))
 (Z (ok,m))
def jw.caa_r:Ck:=Ck.of (T:=Bool×Int) jw.c4s (fun ρ X Z=>jw.caa_ X.1 X.2.1 X.2.2.1 X.2.2.2.1 Z) (fun ρ X V Z=>Z 0 (Shape.inj jw.c4s (X.1,X.2.1,V.1,V.2,(q4 X))))
def jw.c8 (text:List UInt8)(ok:Bool)(m:Int)(Z:Bool→Option ρ):Option ρ:=
 br (!ok)
 (Z true)
 (Z (decide (m<(↑(List.length text):Int))))
def jw.c8x0:Shape:=⟨[(0,ff4),(2,ff2),(3,ff12),(4,ff6),(5,ff5),(6,ff7),(7,ff5),(53,ff7)],[(2,ff89),(3,ff19),(4,ff89)]⟩
def jw.c8r:Ck:=Ck.of (T:=Bool) jw.c4s (fun ρ X Z=>jw.c8 X.1 X.2.2.1 X.2.2.2.1 Z) (fun ρ X V Z=>Z 0 (Shape.inj jw.c8x0 (X.1,X.2.1,X.2.2.1,X.2.2.2.1,V,(q4 X))))
def jw.c10 (text:List UInt8)(n:Int)(m:Int)(Z:Bool→Option ρ):Option ρ:=
 bnd (okIf (decide ((0:Int)≤n)&&decide (n≤(↑(List.length text):Int)))) fun y=>
 bnd (JH (List.take (Int.toNat n) text)) fun y_1=>
 br (decide (y_1>(1000:Int)))
 (Z true)
 (Z (decide (IntKind.i64.wrap (IntKind.i64.wrap (m-n)-(1:Int))>(1000:Int))))
def jw.c10x0:Shape:=⟨[(0,ff4),(2,ff2),(3,ff12),(4,ff6),(5,ff5),(6,ff7),(7,ff5),(68,ff7)],[(2,ff89),(3,ff19),(4,ff89)]⟩
def jw.c10r:Ck:=Ck.of (T:=Bool) jw.c4s (fun ρ X Z=>jw.c10 X.1 X.2.1 X.2.2.2.1 Z) (fun ρ X V Z=>Z 0 (Shape.inj jw.c10x0 (X.1,X.2.1,X.2.2.1,X.2.2.2.1,V,(q4 X))))
def jw.c14 (text:List UInt8)(n:Int)(Z:Bool×(List Int)×YD→Option ρ):Option ρ:=
 bnd (okIf (decide ((0:Int)≤n)&&decide (n≤(↑(List.length text):Int)))) fun y=>
 bnd (jC (List.take (Int.toNat n) text)) fun y_1=>
 bnd (okIf (decide ((0:Int)≤IntKind.i64.wrap (n+(1:Int)))&&decide (IntKind.i64.wrap (n+(1:Int))≤(↑(List.length text):Int))&&decide ((↑(List.length text):Int)≤(↑(List.length text):Int)))) fun y_2=>
 bnd (jC (List.drop (Int.toNat (IntKind.i64.wrap (n+(1:Int)))) (List.take (Int.toNat (↑(List.length text):Int)) text))) fun y_3=>
 bnd (kD y_1 y_3) fun y4=>
 Z (y4.1.1,y4.1.2,y4.2.1,y4.2.2)
def jw.c14s:Shape:=⟨[(0,ff4),(2,ff2),(3,ff12),(4,ff6),(5,ff5),(6,ff7),(7,ff5),(10,ff91)],[(2,ff89),(3,ff19),(4,ff89),(10,ff89)]⟩
def jw.c14r:Ck:=Ck.of (T:=Bool×(List Int)×YD) jw.c14s (fun ρ X Z=>jw.c14 X.1 X.2.1 Z) (fun ρ X V Z=>Z 0 (Shape.inj jw.c14s (X.1,X.2.1,X.2.2.1,X.2.2.2.1,(q4 X).1,(q4 X).2.1,(q4 X).2.2.1,(q4 X).2.2.2.1,(q8 X).1,(q8 X).2.1,(q8 X).2.2.1,(q8 X).2.2.2.1,(q4 (q8 X)).1,(q4 (q8 X)).2.1,V.1,V.2.1,V.2.2.1,V.2.2.2,())))
def jw.cu_ (text:List UInt8)(n:Int)(m:Int)(x0:Bool)(x1:List Int)(x2:Bool)(x3:List Int)(Z:Bool×(List Int)×YD→Option ρ):Option ρ:=
 br (decide (m>n))
 (bnd (jw.c14 text n some) fun y=>
 Z (y.1,y.2.1,y.2.2.1,y.2.2.2))
 (Z (x0,x1,x2,x3))
def jw.cu_r:Ck:=Ck.of (T:=Bool×(List Int)×YD) jw.c14s (fun ρ X Z=>jw.cu_ X.1 X.2.1 X.2.2.2.1 (q4 (q8 X)).2.2.1 (q4 (q8 X)).2.2.2.1 (q8 (q8 X)).1 (q8 (q8 X)).2.1 Z) (fun ρ X V Z=>Z 0 (Shape.inj jw.c14s (X.1,X.2.1,X.2.2.1,X.2.2.2.1,(q4 X).1,(q4 X).2.1,(q4 X).2.2.1,(q4 X).2.2.2.1,(q8 X).1,(q8 X).2.1,(q8 X).2.2.1,(q8 X).2.2.2.1,(q4 (q8 X)).1,(q4 (q8 X)).2.1,V.1,V.2.1,V.2.2.1,V.2.2.2,())))
def jw (text:List UInt8):Option ((YD×YD)×(Int×Int)):=
 bnd (Jt (1:Int)) fun y=>
 bnd (jR text true true) fun y_1=>
 bnd (jw.caa_ text y_1.1 y_1.2 y_1.1 some) fun y_2=>
 bnd (jw.c8 text y_2.1 y_2.2 some) fun y_3=>
 br y_3
 (some (((false,[]),y.1,y.2),(1:Int),y_2.2))
 (bnd (jw.c10 text y_1.1 y_2.2 some) fun y4=>
 br y4
 (some (((false,[]),y.1,y.2),(2:Int),(0:Int)))
 (bnd (okIf (decide ((0:Int)≤y_1.1)&&decide (y_1.1≤(↑(List.length text):Int)))) fun y5=>
 bnd (jC (List.take (Int.toNat y_1.1) text)) fun y6=>
 bnd (Jt (1:Int)) fun y7=>
 bnd (jw.cu_ text y_1.1 y_2.2 y6.1 y6.2 y7.1 y7.2 some) fun y8=>
 bnd (JO ((y8.1,y8.2.1),y8.2.2.1,y8.2.2.2)) fun y9=>
 br (!y9==text)
 (some (((false,[]),y.1,y.2),(3:Int),(0:Int)))
 (some (((y8.1,y8.2.1),y8.2.2.1,y8.2.2.2),(0:Int),(0:Int)))))
def jw.ce:Go.Ql.Callee:=⟨[.str],[(.st (.pair (.st (.pair .bool (.sl (.int .i64)))) (.st (.pair .bool (.sl (.int .i64)))))),(.st (.pair (.int .i64) (.int .i64)))],fun X=>jw X⟩
def jw.G:Env:=⟨98,tab,[(8,Jt.ce),(37,jR.ce),(38,JH.ce),(39,jC.ce),(40,kD.ce),(12,JO.ce)],[0,2,3,4,5,6,7,8,9,10,32,53,68,79,93],[],[(14,[⟨[],[],[81,84,85,86,87],[]⟩,⟨[],[],[80,84,85,86,87],[]⟩,⟨[0,1],[],[84,85,86,87],[]⟩,⟨[2,0,1],[],[84,85,86,87],[]⟩,⟨[],[],[80,81,82,83,85,86],[]⟩,⟨[],[],[80,81,82,83,84],[]⟩,⟨[5],[],[80,81,82,83,84],[]⟩,⟨[4,6,5],[],[80,81,82,83],[]⟩,⟨[7,4,6,5,3,2,0,1],[],[],[]⟩,⟨[3,2,0,1,8,7,4,6,5],[],[],[]⟩,⟨[9,3,2,0,1,8,7,4,6,5],[10],[],[]⟩])],[(253253,jw.cu_r),(14,jw.c14r),(10,jw.c10r),(8,jw.c8r),(216393,jw.caa_r),(4,jw.c4r)],[],jy⟩
theorem jw.p0:PcA jw.G Tryz.f7 0:=
 JE (s:=jw.caa_r) (by kernel_rfl) (by kernel_rfl) (jq (sh:=jw.c4s) (fun ρ X Z=>(jb fun _=>(jl (jb fun _=>(jb fun _=>jc)) jc))) (fun ρ X t k=>(by kernel_rfl)) (fun X=>by kernel_rfl))
theorem jw.p1:PcA jw.G Tryz.f7 1:=
 js (s:=jw.c4r) (by kernel_rfl) (by kernel_rfl) (jq (sh:=jw.c4s) (fun ρ X Z=>(jl (jl (jb fun _=>jc) jc) jc)) (fun ρ X t k=>(by kernel_rfl)) (fun X=>by kernel_rfl))
theorem jw.p2:PcA jw.G Tryz.f7 2:=
 js (s:=jw.c8r) (by kernel_rfl) (by kernel_rfl) (jq (sh:=jw.c4s) (fun ρ X Z=>(jl jc jc)) (fun ρ X t k=>(by kernel_rfl)) (fun X=>by kernel_rfl))
theorem jw.p3:PcA jw.G Tryz.f7 3:=
 js (s:=jw.c10r) (by kernel_rfl) (by kernel_rfl) (jq (sh:=jw.c4s) (fun ρ X Z=>(jb fun _=>(jb fun _=>(jl jc jc)))) (fun ρ X t k=>(by kernel_rfl)) (fun X=>by kernel_rfl))
theorem jw.p4:PcA jw.G Tryz.f7 4:=
 JE (s:=jw.cu_r) (by kernel_rfl) (by kernel_rfl) (jq (sh:=jw.c14s) (fun ρ X Z=>(jl (jb fun _=>jc) jc)) (fun ρ X t k=>(by kernel_rfl)) (fun X=>by kernel_rfl))
theorem jw.p5:PcA jw.G Tryz.f7 5:=
 js (s:=jw.c14r) (by kernel_rfl) (by kernel_rfl) (jq (sh:=jw.c14s) (fun ρ X Z=>(jb fun _=>(jb fun _=>(jb fun _=>(jb fun _=>(jb fun _=>jc)))))) (fun ρ X t k=>(by kernel_rfl)) (fun X=>by kernel_rfl))
theorem jw.ok:CalleeOk Tryz.prog 7 jw.ce:=fn_ok (G:=jw.G) jG mixed Tryz.func7 ⟨(jj Jt.ok (jj jR.ok (jj JH.ok (jj jC.ok (jj kD.ok (jj JO.ok jz)))))),jx,jn⟩ (m:=6) (by kernel_rfl) ⟨⟨⟨⟨⟨⟨trivial,jw.p0⟩,jw.p1⟩,jw.p2⟩,jw.p3⟩,jw.p4⟩,jw.p5⟩ (by kernel_rfl) (fun _=>by kernel_rfl)
def Yc (a:YD):Option Int:=
 bnd (kM (a.1,a.2)) fun y=>
 some y
def Yc.ce:Go.Ql.Callee:=⟨[(.st (.pair .bool (.sl (.int .i64))))],[(.int .i64)],fun X=>Yc X⟩
def Yc.G:Env:=⟨5,tab,[(42,kM.ce)],[0,1,2],[],[],[],[],jy⟩
theorem Yc.ok:CalleeOk Tryz.prog 9 Yc.ce:=fn_ok (G:=Yc.G) jG mixed Tryz.func9 ⟨(jj kM.ok jz),jx,jn⟩ (m:=0) (by kernel_rfl) trivial (by kernel_rfl) (fun _=>by kernel_rfl)
def kl.c1 (x0:Bool)(x1:List Int)(x2:Bool)(x3:List Int)(y0:Bool)(y1:List Int)(y2:Bool)(y3:List Int)(Z:Int→Option ρ):Option ρ:=
 bnd (jI (x0,x1) (y2,y3)) fun y_1=>
 bnd (jI (y0,y1) (x2,x3)) fun y_2=>
 bnd (kX y_1 y_2) fun y_3=>
 Z y_3
def kl.c1s:Shape:=⟨[(0,ff90),(1,ff90),(2,ff2),(3,ff12),(4,ff5)],[(2,ff89),(3,ff89)]⟩
def kl.c1r:Ck:=Ck.of (T:=Int) kl.c1s (fun ρ X Z=>kl.c1 X.2.2.2.1 (q4 X).1 (q4 X).2.1 (q4 X).2.2.1 (q4 X).2.2.2.1 (q8 X).1 (q8 X).2.1 (q8 X).2.2.1 Z) (fun ρ X V Z=>Z 0 (Shape.inj kl.c1s (X.1,X.2.1,V,X.2.2.2)))
def kl (x:YD×YD) (y:YD×YD):Option Int:=
 bnd (kl.c1 x.1.1 x.1.2 x.2.1 x.2.2 y.1.1 y.1.2 y.2.1 y.2.2 some) fun y_1=>
 some y_1
def kl.ce:Go.Ql.Callee:=⟨[(.st (.pair (.st (.pair .bool (.sl (.int .i64)))) (.st (.pair .bool (.sl (.int .i64)))))),(.st (.pair (.st (.pair .bool (.sl (.int .i64)))) (.st (.pair .bool (.sl (.int .i64))))))],[(.int .i64)],fun X=>kl X.1 X.2⟩
def kl.G:Env:=⟨16,tab,[(44,jI.ce),(43,kX.ce)],[0,1,2,3,4],[],[(1,[⟨[],[],[7,8,10,11,12,13],[]⟩,⟨[0],[],[7,8,10,11,12,13],[]⟩,⟨[],[],[5,6,10,11,12,13],[]⟩,⟨[2],[],[5,6,10,11,12,13],[]⟩,⟨[1,0,3,2],[],[10,11,12,13],[]⟩,⟨[],[],[5,6,7,8,9,12,13],[]⟩,⟨[5],[],[5,6,7,8,9,12,13],[]⟩,⟨[],[],[5,6,7,8,9,10,11],[]⟩,⟨[7],[],[5,6,7,8,9,10,11],[]⟩,⟨[6,5,8,7,4,1,0,3,2],[],[],[]⟩,⟨[4,1,0,3,2,9,6,5,8,7],[],[],[]⟩,⟨[10,4,1,0,3,2,9,6,5,8,7],[],[],[]⟩])],[(1,kl.c1r)],[],jy⟩
theorem kl.p0:PcA kl.G Tryz.f10 0:=
 js (s:=kl.c1r) (by kernel_rfl) (by kernel_rfl) (jq (sh:=kl.c1s) (fun ρ X Z=>(jb fun _=>(jb fun _=>(jb fun _=>jc)))) (fun ρ X t k=>(by kernel_rfl)) (fun X=>by kernel_rfl))
theorem kl.ok:CalleeOk Tryz.prog 10 kl.ce:=fn_ok (G:=kl.G) jG mixed Tryz.func10 ⟨(jj jI.ok (jj kX.ok jz)),jx,jn⟩ (m:=1) (by kernel_rfl) ⟨trivial,kl.p0⟩ (by kernel_rfl) (fun _=>by kernel_rfl)
def jN.c3  (Z:Unit→Option ρ):Option ρ:=
 Z ()
def jN.c3s:Shape:=⟨[(0,ff0),(1,ff4),(2,ff2),(4,ff49),(5,ff41),(6,ff17),(7,ff42)],[(2,ff3),(5,ff19),(7,ff19)]⟩
def jN.c3r:Ck:=Ck.of (T:=Unit) jN.c3s (fun ρ X Z=>jN.c3  Z) (fun ρ X V Z=>Z 0 (Shape.inj jN.c3s (X.1,X.2.1,[],X.2.2.2.1,(q4 X).1,(q4 X).2.1,(q8 X).1,(q8 X).2.1,(q8 X))))
def jN.c7 (l:List YP)(p0:Int)(p1:Int)(p2:Bool)(Z:List Int→Option ρ):Option ρ:=
 bnd (jV l (p0,p1,p2)) fun y=>
 Z y
def jN.c7s:Shape:=⟨[(0,ff0),(1,ff4),(2,ff2),(4,ff49),(5,ff41),(6,ff17),(7,ff42),(8,ff43),(9,ff7)],[(2,ff3),(5,ff19),(7,ff19),(8,ff9)]⟩
def jN.c7r:Ck:=Ck.of (T:=List Int) jN.c7s (fun ρ X Z=>jN.c7 X.2.2.2.1 (q8 X).2.2.2.1 (q4 (q8 X)).1 (q4 (q8 X)).2.1 Z) (fun ρ X V Z=>Z 0 (Shape.inj jN.c7s (X.1,X.2.1,V,X.2.2.2.1,(q4 X).1,(q4 X).2.1,(q4 X).2.2.1,(q8 X).2.1,(q8 X).2.2.1,(q8 X).2)))
def jN (c:Int×(List (List UInt8))) (pauli:List UInt8):Option ((List Int)×(Int×Int)):=
 bnd (jo (c.1,c.2)) fun y=>
 br (y.2.1 !=(0:Int))
 (bnd (jN.c3 some) fun y_1=>
 some ([],y.2.1,y.2.2))
 (bnd (JD pauli c.1) fun y_2=>
 br (!y_2.2)
 (some ([],(33:Int),(0:Int)))
 (bnd (jN.c7 y.1 y_2.1.1 y_2.1.2.1 y_2.1.2.2 some) fun y_3=>
 some (y_3,y.2.1,y.2.2)))
def jN.ce:Go.Ql.Callee:=⟨[(.st (.pair (.int .i64) (.sl .str))),.str],[(.sl (.int .i64)),(.st (.pair (.int .i64) (.int .i64)))],fun X=>jN X.1 X.2⟩
def jN.G:Env:=⟨33,tab,[(14,jo.ce),(59,JD.ce),(24,jV.ce)],[0,1,2,4,5,6,7,8,9,17,27],[],[(7,[⟨[],[],[30,32],[]⟩,⟨[],[],[29,32],[]⟩,⟨[0,1],[],[32],[]⟩,⟨[],[],[29,30,31,4],[]⟩,⟨[2,0,1],[],[32],[]⟩,⟨[3,4,2,0,1],[5],[],[]⟩]),
 (3,[⟨[],[],[4],[4]⟩,⟨[],[4],[18],[]⟩,⟨[0,1],[5],[],[]⟩])],[(7,jN.c7r),(3,jN.c3r)],[],jy⟩
theorem jN.p0:PcA jN.G Tryz.f45 0:=
 js (s:=jN.c3r) (by kernel_rfl) (by kernel_rfl) (jq (sh:=jN.c3s) (fun ρ X Z=>jc) (fun ρ X t k=>(by kernel_rfl)) (fun X=>by kernel_rfl))
theorem jN.p1:PcA jN.G Tryz.f45 1:=
 js (s:=jN.c7r) (by kernel_rfl) (by kernel_rfl) (jq (sh:=jN.c7s) (fun ρ X Z=>(jb fun _=>jc)) (fun ρ X t k=>(by kernel_rfl)) (fun X=>by kernel_rfl))
theorem jN.ok:CalleeOk Tryz.prog 45 jN.ce:=fn_ok (G:=jN.G) jG mixed Tryz.func45 ⟨(jj jo.ok (jj JD.ok (jj jV.ok jz))),jx,jn⟩ (m:=2) (by kernel_rfl) ⟨⟨trivial,jN.p0⟩,jN.p1⟩ (by kernel_rfl) (fun _=>by kernel_rfl)
abbrev ff92:SD:=.one (.own 7 0)
def jp.cg_ (p2:Bool)(t7:List Int)(Z:List Int→Option ρ):Option ρ:=
 br p2
 (bnd (inR (List.length t7) (0:Int)) fun y=>
 bnd (idx t7 (0:Int)) fun y_1=>
 Z (List.set t7 (0:Nat) (45:Int)))
 (Z t7)
def jp.cg_s:Shape:=⟨[(0,ff11),(1,ff5),(2,ff2),(4,ff4),(5,ff92)],[(2,ff9),(7,ff45)]⟩
def jp.cg_r:Ck:=Ck.of (T:=List Int) jp.cg_s (fun ρ X Z=>jp.cg_ (q4 X).2.1 (q4 X).2.2.1 Z) (fun ρ X V Z=>Z 0 (Shape.inj jp.cg_s (X.1,X.2.1,X.2.2.1,X.2.2.2.1,(q4 X).1,(q4 X).2.1,V,())))
def jp.c7 (q:Int)(p0:Int)(p1:Int)(t7:List Int)(Z:List Int→Option ρ):Option ρ:=
 bnd (okIf (decide ((0:Int)≤q))) fun y=>
 bnd (okIf (decide ((0:Int)≤q))) fun y_1=>
 bnd (idx (Array.toList (ByteArray.data (ByteArray.mk #[73,88,90,89]))) (ibits BinOp.or IntKind.u64 (ibits BinOp.and IntKind.u64 (Int.fdiv p0 ((2:Int)^Min.min (Int.toNat q) (64:Nat))) (1:Int)) (IntKind.u64.wrap (ibits BinOp.and IntKind.u64 (Int.fdiv p1 ((2:Int)^Min.min (Int.toNat q) (64:Nat))) (1:Int)*(2:Int)^(1:Nat))))) fun y_2=>
 bnd (okIf (decide ((List.length t7+(1:Nat))*(1:Nat)≤(140737488355328:Nat))&&decide (List.length t7+(1:Nat)≤(140737488355328:Nat)))) fun y_3=>
 Z (t7++[(↑(UInt8.toNat y_2):Int)])
def jp.c7s:Shape:=⟨[(0,ff11),(1,ff5),(2,ff2),(4,ff4),(5,ff92),(6,ff5),(12,ff5),(13,ff5)],[(2,ff9),(7,ff45)]⟩
def jp.c7r:Ck:=Ck.of (T:=List Int) jp.c7s (fun ρ X Z=>jp.c7 X.2.2.2.1 (q4 X).2.2.1 (q4 X).2.2.2.1 (q8 X).2.1 Z) (fun ρ X V Z=>Z 0 (Shape.inj jp.c7s (X.1,X.2.1,X.2.2.1,X.2.2.2.1,(q4 X).1,(q4 X).2.1,(q4 X).2.2.1,(q4 X).2.2.2.1,(q8 X).1,V,())))
def jp.cf_ (t12:Int)(t13:Int)(p0:Int)(p1:Int)(t7:List Int)(Z:(Int×(List Int))⊕(Int×(List Int))→Option ρ):Option ρ:=
 br (decide (t13<t12))
 (bnd (jp.c7 t13 p0 p1 t7 some) fun y=>
 Z (.inl ((IntKind.i64.wrap (t13+(1:Int))),y)))
 (Z (.inr (t13,t7)))
def jp.cf_s:Shape:=⟨[(0,ff11),(1,ff5),(2,ff2),(4,ff4),(5,ff92),(12,ff5),(13,ff5)],[(2,ff9),(7,ff45)]⟩
def jp.cf_r:Ck:=Ck.ofLoop (S:=Int×(List Int)) (T:=Int×(List Int)) jp.cf_s (fun X=>((q4 X).1,(q8 X).1)) (fun ρ X Q Z=>jp.cf_ X.2.2.2.1 Q.1 (q4 X).2.1 (q4 X).2.2.1 Q.2 Z) (fun ρ X V Z=>Z 2 (Shape.inj jp.cf_s (X.1,X.2.1,X.2.2.1,X.2.2.2.1,V.1,(q4 X).2.1,(q4 X).2.2.1,(q4 X).2.2.2.1,V.2,())))
def jp (p:YP) (n:Int):Option (List UInt8):=
 bnd (jp.cg_ p.2.2 [(43:Int)] some) fun y=>
 bnd (iter (fun s↦jp.cf_ n s.1 p.1 p.2.1 s.2 some) ((0:Int),y)) fun y_1=>
 some (List.map (fun n↦UInt8.ofNat (Int.toNat n)) y_1.2)
def jp.ce:Go.Ql.Callee:=⟨[(.st (.pair (.int .u64) (.pair (.int .u64) .bool))),(.int .i64)],[.str],fun X=>jp X.1 X.2⟩
def jp.G:Env:=⟨35,tab,[],[0,1,2,4,5,6,9,12,13,14],[7],[(7,[⟨[],[],[17,18,19,20,21,22,23,24,25,26,27,28,29,30],[30]⟩,⟨[],[],[16,19,22,23,24,25,26,27],[]⟩,⟨[1],[],[16,19,22,23,24,25,26,27],[]⟩,⟨[],[],[16,17,18,22,23,24,25,26,27],[]⟩,⟨[2,1,3],[],[16,22,23,24,25,26,27],[]⟩,⟨[4,2,1,3],[],[16,22,23,24,25,26,27],[]⟩,⟨[],[],[16,17,18,19,20,21,24],[]⟩,⟨[6],[],[16,17,18,19,20,21,24],[]⟩,⟨[],[],[16,17,18,19,20,21,22,23],[]⟩,⟨[7,6,8],[],[16,17,18,19,20,21],[]⟩,⟨[9,7,6,8],[],[16,17,18,19,20,21],[]⟩,⟨[10,9,7,6,8],[],[16,17,18,19,20,21],[]⟩,⟨[5,4,2,1,3,11,10,9,7,6,8],[],[16],[]⟩,⟨[12,5,4,2,1,3,11,10,9,7,6,8],[],[16],[]⟩,⟨[13,12,5,4,2,1,3,11,10,9,7,6,8],[30],[16],[]⟩,⟨[0,14,13,12,5,4,2,1,3,11,10,9,7,6,8],[7],[],[]⟩,⟨[15,0,14,13,12,5,4,2,1,3,11,10,9,7,6,8],[],[],[]⟩])],[(100005,jp.cf_r),(7,jp.c7r),(208197,jp.cg_r)],[],jy⟩
theorem jp.p0:PcA jp.G Tryz.f100 0:=
 JE (s:=jp.cg_r) (by kernel_rfl) (by kernel_rfl) (jq (sh:=jp.cg_s) (fun ρ X Z=>(jl (jb fun _=>(jb fun _=>jc)) jc)) (fun ρ X t k=>(by kernel_rfl)) (fun X=>by kernel_rfl))
theorem jp.p1:PcA jp.G Tryz.f100 1:=
 jW (s:=jp.cf_r) (by kernel_rfl) (by kernel_rfl) (jT (sh:=jp.cf_s) (I:=fun X Q=>(X.1,X.2.1,X.2.2.1,X.2.2.2.1,Q.1,(q4 X).2.1,(q4 X).2.2.1,(q4 X).2.2.2.1,Q.2,())) (fun X=>rfl) (fun ρ X Q Z=>(jl (jb fun _=>jc) jc)) (fun ρ X t k=>(by kernel_rfl)) (fun X s=>by kernel_rfl))
theorem jp.p2:PcA jp.G Tryz.f100 2:=
 js (s:=jp.c7r) (by kernel_rfl) (by kernel_rfl) (jq (sh:=jp.c7s) (fun ρ X Z=>(jb fun _=>(jb fun _=>(jb fun _=>(jb fun _=>jc))))) (fun ρ X t k=>(by kernel_rfl)) (fun X=>by kernel_rfl))
theorem jp.ok:CalleeOk Tryz.prog 100 jp.ce:=fn_ok (G:=jp.G) jG mixed Tryz.func100 ⟨jz,jx,jn⟩ (m:=3) (by kernel_rfl) ⟨⟨⟨trivial,jp.p0⟩,jp.p1⟩,jp.p2⟩ (by kernel_rfl) (fun _=>by kernel_rfl)
def JI (p:YP) (n:Int):Option (List UInt8):=
 bnd (jp (p.1,p.2.1,p.2.2) n) fun y=>
 some y
def JI.ce:Go.Ql.Callee:=⟨[(.st (.pair (.int .u64) (.pair (.int .u64) .bool))),(.int .i64)],[.str],fun X=>JI X.1 X.2⟩
def JI.G:Env:=⟨8,tab,[(100,jp.ce)],[0,1,2,4],[],[],[],[],jy⟩
theorem JI.ok:CalleeOk Tryz.prog 80 JI.ce:=fn_ok (G:=JI.G) jG mixed Tryz.func80 ⟨(jj jp.ok jz),jx,jn⟩ (m:=0) (by kernel_rfl) trivial (by kernel_rfl) (fun _=>by kernel_rfl)
def JX (t0:Int) (t1:Int):Option ((List UInt8)×(Int×Int)):=
 some (Array.toList (ByteArray.data (ByteArray.mk #[])),t0,t1)
def JX.ce:Go.Ql.Callee:=⟨[(.int .i64),(.int .i64)],[.str,(.st (.pair (.int .i64) (.int .i64)))],fun X=>JX X.1 X.2⟩
def JX.G:Env:=⟨9,tab,[],[0,1,4,5],[],[],[],[],jy⟩
theorem JX.ok:CalleeOk Tryz.prog 79 JX.ce:=fn_ok (G:=JX.G) jG mixed Tryz.func79 ⟨jz,jx,jn⟩ (m:=0) (by kernel_rfl) trivial (by kernel_rfl) (fun _=>by kernel_rfl)
abbrev ff93:SD:=.one (.fn 79)
def jv.c4  (Z:Unit→Option ρ):Option ρ:=
 Z ()
def jv.c4s:Shape:=⟨[(0,ff0),(1,ff49),(2,ff2),(4,ff4),(5,ff41),(6,ff93),(7,ff17),(8,ff43)],[(2,ff3),(5,ff19),(8,ff19)]⟩
def jv.c4r:Ck:=Ck.of (T:=Unit) jv.c4s (fun ρ X Z=>jv.c4  Z) (fun ρ X V Z=>Z 0 (Shape.inj jv.c4s (X.1,X.2.1,(Array.toList (ByteArray.data (ByteArray.mk #[]))),X.2.2.2.1,(q4 X).1,(q4 X).2.1,(q8 X).1,(q8 X).2.1,(q8 X))))
def jv.c12 (b:Int)(Z:Bool→Option ρ):Option ρ:=
 br (b !=(0:Int))
 (Z (b !=(1:Int)))
 (Z false)
def jv.c12s:Shape:=⟨[(0,ff0),(1,ff49),(2,ff2),(4,ff4),(5,ff41),(6,ff93),(7,ff17),(8,ff43),(9,ff5),(10,ff5),(36,ff49),(37,ff5),(38,ff5)],[(2,ff3),(5,ff19),(8,ff19)]⟩
def jv.c12x0:Shape:=⟨[(0,ff0),(1,ff49),(2,ff2),(4,ff4),(5,ff41),(6,ff93),(7,ff17),(8,ff43),(9,ff5),(10,ff5),(36,ff49),(37,ff5),(38,ff5),(48,ff7)],[(2,ff3),(5,ff19),(8,ff19)]⟩
def jv.c12r:Ck:=Ck.of (T:=Bool) jv.c12s (fun ρ X Z=>jv.c12 (q4 X).2.1 Z) (fun ρ X V Z=>Z 0 (Shape.inj jv.c12x0 (X.1,X.2.1,X.2.2.1,X.2.2.2.1,(q4 X).1,(q4 X).2.1,(q4 X).2.2.1,(q4 X).2.2.2.1,(q8 X).1,V,(q8 X).2)))
def jv.ci_ (t36:List Int)(t37:Int)(t38:Int)(Z:Int⊕(((List UInt8)×Int×Int×Int)⊕Int)→Option ρ):Option ρ:=
 br (decide (t38<t37))
 (bnd (idx t36 t38) fun y=>
 bnd (jv.c12 y some) fun y_1=>
 br y_1
 (bnd (JX (20:Int) t38) fun y_2=>
 Z (.inr (.inl (y_2.1,t38,y_2.2.1,y_2.2.2))))
 (Z (.inl (IntKind.i64.wrap (t38+(1:Int))))))
 (Z (.inr (.inr t38)))
def jv.ci_s:Shape:=⟨[(0,ff0),(1,ff49),(2,ff2),(4,ff4),(5,ff41),(6,ff93),(7,ff17),(8,ff43),(36,ff49),(37,ff5),(38,ff5)],[(2,ff3),(5,ff19),(8,ff19)]⟩
def jv.ci_r:Ck:=Ck.ofLoop (S:=Int) (T:=((List UInt8)×Int×Int×Int)⊕Int) jv.ci_s (fun X=>(q4 X).2.2.1) (fun ρ X Q Z=>jv.ci_ (q4 X).1 (q4 X).2.1 Q Z) (fun ρ X V Z=>sel V (fun V=>Z 1 (Shape.inj jv.ci_s (X.1,X.2.1,V.1,X.2.2.2.1,(q4 X).1,(q4 X).2.1,V.2.1,(q4 X).2.2.2.1,(q8 X).1,V.2.2.1,V.2.2.2,(q8 X).2.2.2))) (fun V=>Z 2 (Shape.inj jv.ci_s (X.1,X.2.1,X.2.2.1,X.2.2.2.1,(q4 X).1,(q4 X).2.1,V,(q4 X).2.2.2))))
def jv.c15 (syndrome:List Int)(l:List YP)(c0:Int)(c1:List (List UInt8))(Z:List UInt8→Option ρ):Option ρ:=
 bnd (Jx (c0,c1) l) fun y=>
 bnd (Jf syndrome) fun y_1=>
 bnd (idx y y_1) fun y_2=>
 bnd (JI y_2 c0) fun y_3=>
 Z y_3
def jv.c15r:Ck:=Ck.of (T:=List UInt8) jv.ci_s (fun ρ X Z=>jv.c15 X.2.1 X.2.2.2.1 (q4 X).2.2.2.1 (q8 X).1 Z) (fun ρ X V Z=>Z 0 (Shape.inj jv.ci_s (X.1,X.2.1,V,X.2.2.2.1,(q4 X).1,(q4 X).2.1,(q4 X).2.2.1,(q4 X).2.2.2.1,(q8 X).1,(q8 X).2.2.2.1,(q4 (q8 X)).1,(q8 X).2.2.2)))
def jv (c:Int×(List (List UInt8))) (syndrome:List Int):Option ((List UInt8)×(Int×Int)):=
 bnd (jo (c.1,c.2)) fun y=>
 br (y.2.1 !=(0:Int))
 (bnd (jv.c4 some) fun y_1=>
 some (Array.toList (ByteArray.data (ByteArray.mk #[])),y.2.1,y.2.2))
 (br (decide (c.1>(9:Int)))
 (bnd (JX (21:Int) (0:Int)) fun y_2=>
 some (y_2.1,y_2.2.1,y_2.2.2))
 (br ((↑(List.length syndrome):Int) !=(↑(List.length y.1):Int))
 (bnd (JX (25:Int) (0:Int)) fun y_3=>
 some (y_3.1,y_3.2.1,y_3.2.2))
 (bnd (iter (fun s↦jv.ci_ syndrome (↑(List.length syndrome):Int) s some) (0:Int)) fun y4=>
 sel y4
 (fun u=>some (u.1,u.2.2.1,u.2.2.2))
 (fun v=>bnd (jv.c15 syndrome y.1 c.1 c.2 some) fun y5=>
 some (y5,y.2.1,y.2.2)))))
def jv.ce:Go.Ql.Callee:=⟨[(.st (.pair (.int .i64) (.sl .str))),(.sl (.int .i64))],[.str,(.st (.pair (.int .i64) (.int .i64)))],fun X=>jv X.1 X.2⟩
def jv.G:Env:=⟨66,tab,[(14,jo.ce),(19,Jx.ce),(23,Jf.ce),(80,JI.ce),(79,JX.ce)],[0,1,2,4,5,6,7,8,9,10,18,22,31,36,37,38,39,48],[],[(15,[⟨[],[],[56,58,62,63,65],[]⟩,⟨[],[],[55,58,62,63,65],[]⟩,⟨[0,1],[],[58,62,63,65],[]⟩,⟨[],[],[55,56,57,62,63,65],[]⟩,⟨[3,2,0,1],[],[62,63,65],[]⟩,⟨[2,0,1,4,3],[],[62,63,65],[]⟩,⟨[5,2,0,1,4,3],[],[62,63,65],[]⟩,⟨[],[],[55,56,57,58,59,60,61,65],[]⟩,⟨[7],[],[55,56,57,58,59,60,61,65],[]⟩,⟨[6,5,2,0,1,4,3,8,7],[],[65],[]⟩,⟨[],[],[55,56,57,58,59,60,61,62,63,64,4],[]⟩,⟨[9,6,5,2,0,1,4,3,8,7],[],[65],[]⟩,⟨[10,11,9,6,5,2,0,1,4,3,8,7],[5],[],[]⟩]),
 (4,[⟨[],[],[4],[]⟩,⟨[],[],[19],[]⟩,⟨[0,1],[5],[],[]⟩])],[(15,jv.c15r),(100010,jv.ci_r),(12,jv.c12r),(4,jv.c4r)],[],jy⟩
theorem jv.p0:PcA jv.G Tryz.f46 0:=
 js (s:=jv.c4r) (by kernel_rfl) (by kernel_rfl) (jq (sh:=jv.c4s) (fun ρ X Z=>jc) (fun ρ X t k=>(by kernel_rfl)) (fun X=>by kernel_rfl))
theorem jv.p1:PcA jv.G Tryz.f46 1:=
 jW (s:=jv.ci_r) (by kernel_rfl) (by kernel_rfl) (jT (sh:=jv.ci_s) (I:=fun X Q=>(X.1,X.2.1,X.2.2.1,X.2.2.2.1,(q4 X).1,(q4 X).2.1,Q,(q4 X).2.2.2)) (fun X=>rfl) (fun ρ X Q Z=>(jl (jb fun _=>(jb fun _=>(jl (jb fun _=>jc) jc))) jc)) (fun ρ X t k=>(kU (fun _=>(by kernel_rfl)) (fun _=>(by kernel_rfl)))) (fun X s=>by kernel_rfl))
theorem jv.p2:PcA jv.G Tryz.f46 2:=
 js (s:=jv.c12r) (by kernel_rfl) (by kernel_rfl) (jq (sh:=jv.c12s) (fun ρ X Z=>(jl jc jc)) (fun ρ X t k=>(by kernel_rfl)) (fun X=>by kernel_rfl))
theorem jv.p3:PcA jv.G Tryz.f46 3:=
 js (s:=jv.c15r) (by kernel_rfl) (by kernel_rfl) (jq (sh:=jv.ci_s) (fun ρ X Z=>(jb fun _=>(jb fun _=>(jb fun _=>(jb fun _=>jc))))) (fun ρ X t k=>(by kernel_rfl)) (fun X=>by kernel_rfl))
theorem jv.ok:CalleeOk Tryz.prog 46 jv.ce:=fn_ok (G:=jv.G) jG mixed Tryz.func46 ⟨(jj jo.ok (jj Jx.ok (jj Jf.ok (jj JI.ok (jj JX.ok jz))))),jx,jn⟩ (m:=4) (by kernel_rfl) ⟨⟨⟨⟨trivial,jv.p0⟩,jv.p1⟩,jv.p2⟩,jv.p3⟩ (by kernel_rfl) (fun _=>by kernel_rfl)
def jU.c6 (a:List Int)(b:List Int)(i:Int)(Z:Bool→Option ρ):Option ρ:=
 bnd (idx a i) fun y=>
 bnd (idx b i) fun y_1=>
 Z (y !=y_1)
def jU.c6s:Shape:=⟨[(0,ff49),(1,ff49),(4,ff7),(5,ff5)],[]⟩
def jU.c6x0:Shape:=⟨[(0,ff49),(1,ff49),(4,ff7),(5,ff5),(25,ff7)],[]⟩
def jU.c6r:Ck:=Ck.of (T:=Bool) jU.c6s (fun ρ X Z=>jU.c6 X.1 X.2.1 X.2.2.2.1 Z) (fun ρ X V Z=>Z 0 (Shape.inj jU.c6x0 (X.1,X.2.1,X.2.2.1,X.2.2.2.1,V,())))
def jU.cb_ (a:List Int)(b:List Int)(i:Int)(Z:Int⊕(Int⊕Int)→Option ρ):Option ρ:=
 br (decide (i<(↑(List.length a):Int)))
 (bnd (jU.c6 a b i some) fun y=>
 br y
 (Z (.inr (.inl i)))
 (Z (.inl (IntKind.i64.wrap (i+(1:Int))))))
 (Z (.inr (.inr i)))
def jU.cb_r:Ck:=Ck.ofLoop (S:=Int) (T:=Int⊕Int) jU.c6s (fun X=>X.2.2.2.1) (fun ρ X Q Z=>jU.cb_ X.1 X.2.1 Q Z) (fun ρ X V Z=>sel V (fun V=>Z 1 (Shape.inj jU.c6s (X.1,X.2.1,false,V,()))) (fun V=>Z 2 (Shape.inj jU.c6s (X.1,X.2.1,X.2.2.1,V,()))))
def jU (a:List Int) (b:List Int):Option Bool:=
 br ((↑(List.length a):Int) !=(↑(List.length b):Int))
 (some false)
 (bnd (iter (fun s↦jU.cb_ a b s some) (0:Int)) fun y=>
 sel y
 (fun u=>some false)
 (fun v=>some true))
def jU.ce:Go.Ql.Callee:=⟨[(.sl (.int .i64)),(.sl (.int .i64))],[.bool],fun X=>jU X.1 X.2⟩
def jU.G:Env:=⟨26,tab,[],[0,1,4,5,10,14,25],[],[(6,[⟨[],[],[18,21,22,23,24],[]⟩,⟨[],[],[17,21,22,23,24],[]⟩,⟨[0,1],[],[21,22,23,24],[]⟩,⟨[2,0,1],[],[21,22,23,24],[]⟩,⟨[],[],[17,18,19,20,22],[]⟩,⟨[],[],[17,18,19,20,21],[]⟩,⟨[4,5],[],[17,18,19,20],[]⟩,⟨[6,4,5],[],[17,18,19,20],[]⟩,⟨[3,2,0,1,7,6,4,5],[],[],[]⟩])],[(100004,jU.cb_r),(6,jU.c6r)],[],jy⟩
theorem jU.p0:PcA jU.G Tryz.f47 0:=
 jW (s:=jU.cb_r) (by kernel_rfl) (by kernel_rfl) (jT (sh:=jU.c6s) (I:=fun X Q=>(X.1,X.2.1,X.2.2.1,Q,())) (fun X=>rfl) (fun ρ X Q Z=>(jl (jb fun _=>(jl jc jc)) jc)) (fun ρ X t k=>(kU (fun _=>(by kernel_rfl)) (fun _=>(by kernel_rfl)))) (fun X s=>by kernel_rfl))
theorem jU.p1:PcA jU.G Tryz.f47 1:=
 js (s:=jU.c6r) (by kernel_rfl) (by kernel_rfl) (jq (sh:=jU.c6s) (fun ρ X Z=>(jb fun _=>(jb fun _=>jc))) (fun ρ X t k=>(by kernel_rfl)) (fun X=>by kernel_rfl))
theorem jU.ok:CalleeOk Tryz.prog 47 jU.ce:=fn_ok (G:=jU.G) jG mixed Tryz.func47 ⟨jz,jx,jn⟩ (m:=2) (by kernel_rfl) ⟨⟨trivial,jU.p0⟩,jU.p1⟩ (by kernel_rfl) (fun _=>by kernel_rfl)
def Jm.c4 (s:List Int)(e:List UInt8)(f0:Int)(g0:Int)(Z:Bool→Option ρ):Option ρ:=
 br (f0==(0:Int))
 (br (g0==(0:Int))
 (bnd (jU s [(1:Int),(0:Int)]) fun y=>
 br y
 (Z (e==Array.toList (ByteArray.data (ByteArray.mk #[43,88,73,73]))))
 (Z false))
 (Z false))
 (Z false)
def Jm.c4s:Shape:=⟨[(0,ff7),(1,ff1),(2,ff49),(3,ff12),(4,ff4),(5,ff41)],[(1,ff3),(3,ff19),(5,ff19)]⟩
def Jm.c4r:Ck:=Ck.of (T:=Bool) Jm.c4s (fun ρ X Z=>Jm.c4 X.2.1 X.2.2.1 (q4 X).2.1 (q4 X).2.2.2.1 Z) (fun ρ X V Z=>Z 0 (Shape.inj Jm.c4s (V,X.2)))
def Jm :Option Bool:=
 bnd (jN ((3:Int),[Array.toList (ByteArray.data (ByteArray.mk #[43,90,90,73])),Array.toList (ByteArray.data (ByteArray.mk #[43,73,90,90]))]) (Array.toList (ByteArray.data (ByteArray.mk #[43,88,73,73])))) fun y=>
 bnd (jv ((3:Int),[Array.toList (ByteArray.data (ByteArray.mk #[43,90,90,73])),Array.toList (ByteArray.data (ByteArray.mk #[43,73,90,90]))]) y.1) fun y_1=>
 bnd (Jm.c4 y.1 y_1.1 y.2.1 y_1.2.1 some) fun y_2=>
 some y_2
def Jm.ce:Go.Ql.Callee:=⟨[],[.bool],fun X=>Jm⟩
def Jm.G:Env:=⟨36,tab,[(45,jN.ce),(46,jv.ce),(47,jU.ce)],[0,1,2,3,4,5],[],[],[(4,Jm.c4r)],[],jy⟩
theorem Jm.p0:PcA Jm.G Tryz.f11 0:=
 js (s:=Jm.c4r) (by kernel_rfl) (by kernel_rfl) (jq (sh:=Jm.c4s) (fun ρ X Z=>(jl (jl (jb fun _=>(jl jc jc)) jc) jc)) (fun ρ X t k=>(by kernel_rfl)) (fun X=>by kernel_rfl))
theorem Jm.ok:CalleeOk Tryz.prog 11 Jm.ce:=fn_ok (G:=Jm.G) jG mixed Tryz.func11 ⟨(jj jN.ok (jj jv.ok (jj jU.ok jz))),jx,jn⟩ (m:=1) (by kernel_rfl) ⟨trivial,Jm.p0⟩ (by kernel_rfl) (fun _=>by kernel_rfl)
def jL.c12 (out:List (List UInt8))(t6:Int)(j:Int)(more:List (List UInt8))(Z:List (List UInt8)→Option ρ):Option ρ:=
 bnd (idx out t6) fun y=>
 bnd (okIf (decide ((0:Int)≤j)&&decide (j≤IntKind.i64.wrap (j+(1:Int)))&&decide (IntKind.i64.wrap (j+(1:Int))≤(↑(List.length (Array.toList (ByteArray.data (ByteArray.mk #[73,88,89,90])))):Int)))) fun y_1=>
 bnd (okIf (decide (List.length y+List.length (List.drop (Int.toNat j) (List.take (Int.toNat (IntKind.i64.wrap (j+(1:Int)))) (Array.toList (ByteArray.data (ByteArray.mk #[73,88,89,90])))))≤(9223372036854775807:Nat)))) fun y_2=>
 bnd (okIf (decide ((List.length more+(1:Nat))*(16:Nat)≤(140737488355328:Nat))&&decide (List.length more+(1:Nat)≤(140737488355328:Nat)))) fun y_3=>
 Z (more++[y++List.drop (Int.toNat j) (List.take (Int.toNat (IntKind.i64.wrap (j+(1:Int)))) (Array.toList (ByteArray.data (ByteArray.mk #[73,88,89,90]))))])
def jL.c12s:Shape:=⟨[(0,ff5),(2,ff21),(3,ff21),(4,ff5),(5,ff20),(6,ff5),(7,ff5)],[(5,ff81)]⟩
def jL.c12r:Ck:=Ck.of (T:=List (List UInt8)) jL.c12s (fun ρ X Z=>jL.c12 X.2.2.1 (q4 X).1 (q4 X).2.1 (q4 X).2.2.1 Z) (fun ρ X V Z=>Z 0 (Shape.inj jL.c12s (X.1,X.2.1,X.2.2.1,X.2.2.2.1,(q4 X).1,(q4 X).2.1,V,())))
def jL.ci_ (out:List (List UInt8))(t6:Int)(j:Int)(more:List (List UInt8))(Z:(Int×(List (List UInt8)))⊕(Int×(List (List UInt8)))→Option ρ):Option ρ:=
 br (decide (j<(4:Int)))
 (bnd (jL.c12 out t6 j more some) fun y=>
 Z (.inl ((IntKind.i64.wrap (j+(1:Int))),y)))
 (Z (.inr (j,more)))
def jL.ci_r:Ck:=Ck.ofLoop (S:=Int×(List (List UInt8))) (T:=Int×(List (List UInt8))) jL.c12s (fun X=>((q4 X).2.1,(q4 X).2.2.1)) (fun ρ X Q Z=>jL.ci_ X.2.2.1 (q4 X).1 Q.1 Q.2 Z) (fun ρ X V Z=>Z 6 (Shape.inj jL.c12s (X.1,X.2.1,X.2.2.1,X.2.2.2.1,(q4 X).1,V.1,V.2,())))
def jL.cd_ (out:List (List UInt8))(t6:Int)(more:List (List UInt8))(Z:(Int×(List (List UInt8)))⊕(Int×(List (List UInt8)))→Option ρ):Option ρ:=
 br (decide (t6<(↑(List.length out):Int)))
 (bnd (iter (fun s↦jL.ci_ out t6 s.1 s.2 some) ((0:Int),more)) fun y=>
 Z (.inl ((IntKind.i64.wrap (t6+(1:Int))),y.2)))
 (Z (.inr (t6,more)))
def jL.cd_s:Shape:=⟨[(0,ff5),(2,ff21),(3,ff21),(4,ff5),(5,ff20),(6,ff5)],[(5,ff81)]⟩
def jL.cd_r:Ck:=Ck.ofLoop (S:=Int×(List (List UInt8))) (T:=Int×(List (List UInt8))) jL.cd_s (fun X=>((q4 X).1,(q4 X).2.1)) (fun ρ X Q Z=>jL.cd_ X.2.2.1 Q.1 Q.2 Z) (fun ρ X V Z=>Z 4 (Shape.inj jL.cd_s (X.1,X.2.1,X.2.2.1,X.2.2.2.1,V.1,V.2,())))
def jL.ca_ (n:Int)(out:List (List UInt8))(i:Int)(Z:((List (List UInt8))×Int)⊕((List (List UInt8))×Int)→Option ρ):Option ρ:=
 br (decide (i<n))
 (bnd (iter (fun s↦jL.cd_ out s.1 s.2 some) ((0:Int),[])) fun y=>
 Z (.inl (y.2,(IntKind.i64.wrap (i+(1:Int))))))
 (Z (.inr (out,i)))
def jL.ca_s:Shape:=⟨[(0,ff5),(2,ff21),(3,ff21),(4,ff5)],[]⟩
def jL.ca_r:Ck:=Ck.ofLoop (S:=(List (List UInt8))×Int) (T:=(List (List UInt8))×Int) jL.ca_s (fun X=>(X.2.2.1,X.2.2.2.1)) (fun ρ X Q Z=>jL.ca_ X.1 Q.1 Q.2 Z) (fun ρ X V Z=>Z 2 (Shape.inj jL.ca_s (X.1,X.2.1,V.1,V.2,())))
def jL (n:Int):Option (List (List UInt8)):=
 bnd (iter (fun s↦jL.ca_ n s.1 s.2 some) ([Array.toList (ByteArray.data (ByteArray.mk #[]))],(0:Int))) fun y=>
 some y.1
def jL.ce:Go.Ql.Callee:=⟨[(.int .i64)],[(.sl .str)],fun X=>jL X⟩
def jL.G:Env:=⟨38,tab,[],[0,2,3,4,5,6,7,11,17,21],[5,5000036],[(12,[⟨[],[],[25,26,27,28,29,30,31,32,33,34],[34]⟩,⟨[],[],[24,26,29,30,31,32],[]⟩,⟨[],[],[24,25,29,30,31,32],[]⟩,⟨[1,2],[],[24,29,30,31,32],[]⟩,⟨[3,1,2],[],[24,29,30,31,32],[]⟩,⟨[],[],[24,25,26,27,28,30,31],[]⟩,⟨[],[],[24,25,26,27,28,29],[]⟩,⟨[6],[],[24,25,26,27,28,29],[]⟩,⟨[5,7,6],[],[24,25,26,27,28],[]⟩,⟨[4,3,1,2,8,5,7,6],[],[24],[]⟩,⟨[9,4,3,1,2,8,5,7,6],[34],[24],[]⟩,⟨[0,10,9,4,3,1,2,8,5,7,6],[5],[],[]⟩,⟨[11,0,10,9,4,3,1,2,8,5,7,6],[],[],[]⟩])],[(100003,jL.ca_r),(100007,jL.cd_r),(100010,jL.ci_r),(12,jL.c12r)],[],jy⟩
theorem jL.p0:PcA jL.G Tryz.f49 0:=
 jW (s:=jL.ca_r) (by kernel_rfl) (by kernel_rfl) (jT (sh:=jL.ca_s) (I:=fun X Q=>(X.1,X.2.1,Q.1,Q.2,())) (fun X=>rfl) (fun ρ X Q Z=>(jl (jb fun _=>jc) jc)) (fun ρ X t k=>(by kernel_rfl)) (fun X s=>by kernel_rfl))
theorem jL.p1:PcA jL.G Tryz.f49 1:=
 jW (s:=jL.cd_r) (by kernel_rfl) (by kernel_rfl) (jT (sh:=jL.cd_s) (I:=fun X Q=>(X.1,X.2.1,X.2.2.1,X.2.2.2.1,Q.1,Q.2,())) (fun X=>rfl) (fun ρ X Q Z=>(jl (jb fun _=>jc) jc)) (fun ρ X t k=>(by kernel_rfl)) (fun X s=>by kernel_rfl))
theorem jL.p2:PcA jL.G Tryz.f49 2:=
 jW (s:=jL.ci_r) (by kernel_rfl) (by kernel_rfl) (jT (sh:=jL.c12s) (I:=fun X Q=>(X.1,X.2.1,X.2.2.1,X.2.2.2.1,(q4 X).1,Q.1,Q.2,())) (fun X=>rfl) (fun ρ X Q Z=>(jl (jb fun _=>jc) jc)) (fun ρ X t k=>(by kernel_rfl)) (fun X s=>by kernel_rfl))
theorem jL.p3:PcA jL.G Tryz.f49 3:=
 js (s:=jL.c12r) (by kernel_rfl) (by kernel_rfl) (jq (sh:=jL.c12s) (fun ρ X Z=>(jb fun _=>(jb fun _=>(jb fun _=>(jb fun _=>jc))))) (fun ρ X t k=>(by kernel_rfl)) (fun X=>by kernel_rfl))
theorem jL.ok:CalleeOk Tryz.prog 49 jL.ce:=fn_ok (G:=jL.G) jG mixed Tryz.func49 ⟨jz,jx,jn⟩ (m:=4) (by kernel_rfl) ⟨⟨⟨⟨trivial,jL.p0⟩,jL.p1⟩,jL.p2⟩,jL.p3⟩ (by kernel_rfl) (fun _=>by kernel_rfl)
def JY.c1 (x0:Bool)(x1:List Int)(x2:Bool)(x3:List Int)(y0:Bool)(y1:List Int)(y2:Bool)(y3:List Int)(Z:Bool×(List Int)×YD→Option ρ):Option ρ:=
 bnd (jI (x0,x1) (y0,y1)) fun y_1=>
 bnd (jI (x2,x3) (y2,y3)) fun y_2=>
 bnd (kD y_1 y_2) fun y_3=>
 Z (y_3.1.1,y_3.1.2,y_3.2.1,y_3.2.2)
def JY.c1s:Shape:=⟨[(0,ff90),(1,ff90),(2,ff2),(3,ff12),(4,ff6)],[(2,ff89),(3,ff89),(4,ff89)]⟩
def JY.c1r:Ck:=Ck.of (T:=Bool×(List Int)×YD) JY.c1s (fun ρ X Z=>JY.c1 X.2.2.1 X.2.2.2.1 (q4 X).1 (q4 X).2.1 (q4 X).2.2.1 (q4 X).2.2.2.1 (q8 X).1 (q8 X).2.1 Z) (fun ρ X V Z=>Z 0 (Shape.inj JY.c1s (X.1,X.2.1,X.2.2.1,X.2.2.2.1,(q4 X).1,(q4 X).2.1,(q4 X).2.2.1,(q4 X).2.2.2.1,(q8 X).1,(q8 X).2.1,V.1,V.2.1,V.2.2.1,V.2.2.2,())))
def JY (x:YD×YD) (y:YD×YD):Option (YD×YD):=
 bnd (JY.c1 x.1.1 x.1.2 x.2.1 x.2.2 y.1.1 y.1.2 y.2.1 y.2.2 some) fun y_1=>
 some ((y_1.1,y_1.2.1),y_1.2.2.1,y_1.2.2.2)
def JY.ce:Go.Ql.Callee:=⟨[(.st (.pair (.st (.pair .bool (.sl (.int .i64)))) (.st (.pair .bool (.sl (.int .i64)))))),(.st (.pair (.st (.pair .bool (.sl (.int .i64)))) (.st (.pair .bool (.sl (.int .i64))))))],[(.st (.pair (.st (.pair .bool (.sl (.int .i64)))) (.st (.pair .bool (.sl (.int .i64))))))],fun X=>JY X.1 X.2⟩
def JY.G:Env:=⟨16,tab,[(44,jI.ce),(40,kD.ce)],[0,1,2,3,4],[],[(1,[⟨[],[],[7,8,10,11,12,13],[]⟩,⟨[0],[],[7,8,10,11,12,13],[]⟩,⟨[],[],[5,6,10,11,12,13],[]⟩,⟨[2],[],[5,6,10,11,12,13],[]⟩,⟨[1,0,3,2],[],[10,11,12,13],[]⟩,⟨[],[],[5,6,7,8,9,12,13],[]⟩,⟨[5],[],[5,6,7,8,9,12,13],[]⟩,⟨[],[],[5,6,7,8,9,10,11],[]⟩,⟨[7],[],[5,6,7,8,9,10,11],[]⟩,⟨[6,5,8,7,4,1,0,3,2],[],[],[]⟩,⟨[4,1,0,3,2,9,6,5,8,7],[],[],[]⟩,⟨[10,4,1,0,3,2,9,6,5,8,7],[4],[],[]⟩])],[(1,JY.c1r)],[],jy⟩
theorem JY.p0:PcA JY.G Tryz.f51 0:=
 js (s:=JY.c1r) (by kernel_rfl) (by kernel_rfl) (jq (sh:=JY.c1s) (fun ρ X Z=>(jb fun _=>(jb fun _=>(jb fun _=>jc)))) (fun ρ X t k=>(by kernel_rfl)) (fun X=>by kernel_rfl))
theorem JY.ok:CalleeOk Tryz.prog 51 JY.ce:=fn_ok (G:=JY.G) jG mixed Tryz.func51 ⟨(jj jI.ok (jj kD.ok jz)),jx,jn⟩ (m:=1) (by kernel_rfl) ⟨trivial,JY.p0⟩ (by kernel_rfl) (fun _=>by kernel_rfl)
def ka.c1 (x0:Bool)(x1:List Int)(x2:Bool)(x3:List Int)(y0:Bool)(y1:List Int)(y2:Bool)(y3:List Int)(Z:Bool×(List Int)×YD→Option ρ):Option ρ:=
 bnd (jI (x0,x1) (y2,y3)) fun y_1=>
 bnd (jI (y0,y1) (x2,x3)) fun y_2=>
 bnd (Jn y_1 y_2) fun y_3=>
 bnd (jI (x2,x3) (y2,y3)) fun y4=>
 bnd (kD y_3 y4) fun y5=>
 Z (y5.1.1,y5.1.2,y5.2.1,y5.2.2)
def ka.c1s:Shape:=⟨[(0,ff90),(1,ff90),(2,ff2),(3,ff12),(4,ff6)],[(2,ff89),(3,ff89),(4,ff89)]⟩
def ka.c1r:Ck:=Ck.of (T:=Bool×(List Int)×YD) ka.c1s (fun ρ X Z=>ka.c1 X.2.2.1 X.2.2.2.1 (q4 X).1 (q4 X).2.1 (q4 X).2.2.1 (q4 X).2.2.2.1 (q8 X).1 (q8 X).2.1 Z) (fun ρ X V Z=>Z 0 (Shape.inj ka.c1s (X.1,X.2.1,X.2.2.1,X.2.2.2.1,(q4 X).1,(q4 X).2.1,(q4 X).2.2.1,(q4 X).2.2.2.1,(q8 X).1,(q8 X).2.1,V.1,V.2.1,V.2.2.1,V.2.2.2,())))
def ka (x:YD×YD) (y:YD×YD):Option (YD×YD):=
 bnd (ka.c1 x.1.1 x.1.2 x.2.1 x.2.2 y.1.1 y.1.2 y.2.1 y.2.2 some) fun y_1=>
 some ((y_1.1,y_1.2.1),y_1.2.2.1,y_1.2.2.2)
def ka.ce:Go.Ql.Callee:=⟨[(.st (.pair (.st (.pair .bool (.sl (.int .i64)))) (.st (.pair .bool (.sl (.int .i64)))))),(.st (.pair (.st (.pair .bool (.sl (.int .i64)))) (.st (.pair .bool (.sl (.int .i64))))))],[(.st (.pair (.st (.pair .bool (.sl (.int .i64)))) (.st (.pair .bool (.sl (.int .i64))))))],fun X=>ka X.1 X.2⟩
def ka.G:Env:=⟨22,tab,[(44,jI.ce),(83,Jn.ce),(40,kD.ce)],[0,1,2,3,4],[],[(1,[⟨[],[],[7,8,10,11,12,13,16,17,18,19],[]⟩,⟨[0],[],[7,8,10,11,12,13,16,17,18,19],[]⟩,⟨[],[],[5,6,10,11,12,13,16,17,18,19],[]⟩,⟨[2],[],[5,6,10,11,12,13,16,17,18,19],[]⟩,⟨[1,0,3,2],[],[10,11,12,13,16,17,18,19],[]⟩,⟨[],[],[5,6,7,8,9,12,13,16,17,18,19],[]⟩,⟨[5],[],[5,6,7,8,9,12,13,16,17,18,19],[]⟩,⟨[],[],[5,6,7,8,9,10,11,16,17,18,19],[]⟩,⟨[7],[],[5,6,7,8,9,10,11,16,17,18,19],[]⟩,⟨[6,5,8,7,4,1,0,3,2],[],[16,17,18,19],[]⟩,⟨[4,1,0,3,2,9,6,5,8,7],[],[16,17,18,19],[]⟩,⟨[],[],[5,6,7,8,9,10,11,12,13,14,15,18,19],[]⟩,⟨[11],[],[5,6,7,8,9,10,11,12,13,14,15,18,19],[]⟩,⟨[],[],[5,6,7,8,9,10,11,12,13,14,15,16,17],[]⟩,⟨[13],[],[5,6,7,8,9,10,11,12,13,14,15,16,17],[]⟩,⟨[12,11,14,13,10,4,1,0,3,2,9,6,5,8,7],[],[],[]⟩,⟨[10,4,1,0,3,2,9,6,5,8,7,15,12,11,14,13],[],[],[]⟩,⟨[16,10,4,1,0,3,2,9,6,5,8,7,15,12,11,14,13],[4],[],[]⟩])],[(1,ka.c1r)],[],jy⟩
theorem ka.p0:PcA ka.G Tryz.f57 0:=
 js (s:=ka.c1r) (by kernel_rfl) (by kernel_rfl) (jq (sh:=ka.c1s) (fun ρ X Z=>(jb fun _=>(jb fun _=>(jb fun _=>(jb fun _=>(jb fun _=>jc)))))) (fun ρ X t k=>(by kernel_rfl)) (fun X=>by kernel_rfl))
theorem ka.ok:CalleeOk Tryz.prog 57 ka.ce:=fn_ok (G:=ka.G) jG mixed Tryz.func57 ⟨(jj jI.ok (jj Jn.ok (jj kD.ok jz))),jx,jn⟩ (m:=1) (by kernel_rfl) ⟨trivial,ka.p0⟩ (by kernel_rfl) (fun _=>by kernel_rfl)
def kh.c1 (x0:Bool)(x1:List Int)(x2:Bool)(x3:List Int)(y0:Bool)(y1:List Int)(y2:Bool)(y3:List Int)(Z:Bool×(List Int)×YD→Option ρ):Option ρ:=
 bnd (kK (y0,y1)) fun y_1=>
 bnd (ka ((x0,x1),x2,x3) ((y_1.1,y_1.2),y2,y3)) fun y_2=>
 Z (y_2.1.1,y_2.1.2,y_2.2.1,y_2.2.2)
def kh.c1s:Shape:=⟨[(0,ff90),(1,ff90),(2,ff2),(3,ff12),(4,ff6)],[(2,ff89),(3,ff89),(4,ff89)]⟩
def kh.c1r:Ck:=Ck.of (T:=Bool×(List Int)×YD) kh.c1s (fun ρ X Z=>kh.c1 X.2.2.1 X.2.2.2.1 (q4 X).1 (q4 X).2.1 (q4 X).2.2.1 (q4 X).2.2.2.1 (q8 X).1 (q8 X).2.1 Z) (fun ρ X V Z=>Z 0 (Shape.inj kh.c1s (X.1,X.2.1,X.2.2.1,X.2.2.2.1,(q4 X).1,(q4 X).2.1,(q4 X).2.2.1,(q4 X).2.2.2.1,(q8 X).1,(q8 X).2.1,V.1,V.2.1,V.2.2.1,V.2.2.2,())))
def kh (x:YD×YD) (y:YD×YD):Option (YD×YD):=
 bnd (kh.c1 x.1.1 x.1.2 x.2.1 x.2.2 y.1.1 y.1.2 y.2.1 y.2.2 some) fun y_1=>
 some ((y_1.1,y_1.2.1),y_1.2.2.1,y_1.2.2.2)
def kh.ce:Go.Ql.Callee:=⟨[(.st (.pair (.st (.pair .bool (.sl (.int .i64)))) (.st (.pair .bool (.sl (.int .i64)))))),(.st (.pair (.st (.pair .bool (.sl (.int .i64)))) (.st (.pair .bool (.sl (.int .i64))))))],[(.st (.pair (.st (.pair .bool (.sl (.int .i64)))) (.st (.pair .bool (.sl (.int .i64))))))],fun X=>kh X.1 X.2⟩
def kh.G:Env:=⟨13,tab,[(81,kK.ce),(57,ka.ce)],[0,1,2,3,4],[],[(1,[⟨[],[],[6,7,8,9,10,11],[]⟩,⟨[],[],[5,9,10],[]⟩,⟨[1],[],[5,9,10],[]⟩,⟨[2,1],[],[5,9,10],[]⟩,⟨[],[],[5,6,7,8],[]⟩,⟨[4],[],[5,6,7,8],[]⟩,⟨[3,2,1,5,4],[],[5],[]⟩,⟨[0,6,3,2,1,5,4],[],[],[]⟩,⟨[7,0,6,3,2,1,5,4],[4],[],[]⟩])],[(1,kh.c1r)],[],jy⟩
theorem kh.p0:PcA kh.G Tryz.f50 0:=
 js (s:=kh.c1r) (by kernel_rfl) (by kernel_rfl) (jq (sh:=kh.c1s) (fun ρ X Z=>(jb fun _=>(jb fun _=>jc))) (fun ρ X t k=>(by kernel_rfl)) (fun X=>by kernel_rfl))
theorem kh.ok:CalleeOk Tryz.prog 50 kh.ce:=fn_ok (G:=kh.G) jG mixed Tryz.func50 ⟨(jj kK.ok (jj ka.ok jz)),jx,jn⟩ (m:=1) (by kernel_rfl) ⟨trivial,kh.p0⟩ (by kernel_rfl) (fun _=>by kernel_rfl)
def Yd (b:Bool):Option Int:=
 br b
 (some (1:Int))
 (some (0:Int))
def Yd.ce:Go.Ql.Callee:=⟨[.bool],[(.int .i64)],fun X=>Yd X⟩
def Yd.G:Env:=⟨4,tab,[],[0,2,3],[],[],[],[],jy⟩
theorem Yd.ok:CalleeOk Tryz.prog 82 Yd.ce:=fn_ok (G:=Yd.G) jG mixed Tryz.func82 ⟨jz,jx,jn⟩ (m:=0) (by kernel_rfl) trivial (by kernel_rfl) (fun _=>by kernel_rfl)
def Jh.ca_ (e:List UInt8)(i:Int)(c1:List (List UInt8))(out:List Int)(Z:(Int×(List Int))⊕(Int×(List Int))→Option ρ):Option ρ:=
 br (decide (i<(↑(List.length c1):Int)))
 (bnd (idx c1 i) fun y=>
 bnd (okIf (decide ((1:Int)≤(↑(List.length y):Int))&&decide ((↑(List.length y):Int)≤(↑(List.length y):Int)))) fun y_1=>
 bnd (Jd (List.drop (1:Nat) (List.take (Int.toNat (↑(List.length y):Int)) y)) e) fun y_2=>
 bnd (Yd y_2) fun y_3=>
 bnd (okIf (decide ((List.length out+(1:Nat))*(8:Nat)≤(140737488355328:Nat))&&decide (List.length out+(1:Nat)≤(140737488355328:Nat)))) fun y4=>
 Z (.inl ((IntKind.i64.wrap (i+(1:Int))),(out++[y_3]))))
 (Z (.inr (i,out)))
def Jh.ca_s:Shape:=⟨[(0,ff0),(1,ff4),(2,ff2),(4,ff49),(5,ff20),(6,ff5)],[(2,ff3),(5,ff51)]⟩
def Jh.ca_r:Ck:=Ck.ofLoop (S:=Int×(List Int)) (T:=Int×(List Int)) Jh.ca_s (fun X=>(X.2.2.2.1,(q4 X).2.2.1)) (fun ρ X Q Z=>Jh.ca_ X.2.1 Q.1 (q4 X).2.1 Q.2 Z) (fun ρ X V Z=>Z 2 (Shape.inj Jh.ca_s (X.1,X.2.1,X.2.2.1,V.1,(q4 X).1,(q4 X).2.1,V.2,())))
def Jh (c:Int×(List (List UInt8))) (e:List UInt8):Option (List Int):=
 bnd (iter (fun s↦Jh.ca_ e s.1 c.2 s.2 some) ((0:Int),[])) fun y=>
 some y.2
def Jh.ce:Go.Ql.Callee:=⟨[(.st (.pair (.int .i64) (.sl .str))),.str],[(.sl (.int .i64))],fun X=>Jh X.1 X.2⟩
def Jh.G:Env:=⟨27,tab,[(35,Jd.ce),(82,Yd.ce)],[0,1,2,4,5,6,11],[5],[],[(100003,Jh.ca_r)],[],jy⟩
theorem Jh.p0:PcA Jh.G Tryz.f53 0:=
 jW (s:=Jh.ca_r) (by kernel_rfl) (by kernel_rfl) (jT (sh:=Jh.ca_s) (I:=fun X Q=>(X.1,X.2.1,X.2.2.1,Q.1,(q4 X).1,(q4 X).2.1,Q.2,())) (fun X=>rfl) (fun ρ X Q Z=>(jl (jb fun _=>(jb fun _=>(jb fun _=>(jb fun _=>(jb fun _=>jc))))) jc)) (fun ρ X t k=>(by kernel_rfl)) (fun X s=>by kernel_rfl))
theorem Jh.ok:CalleeOk Tryz.prog 53 Jh.ce:=fn_ok (G:=Jh.G) jG mixed Tryz.func53 ⟨(jj Jd.ok (jj Yd.ok jz)),jx,jn⟩ (m:=1) (by kernel_rfl) ⟨trivial,Jh.p0⟩ (by kernel_rfl) (fun _=>by kernel_rfl)
def Jg.cn_ (e:List UInt8)(n:Int)(i:Int)(Z:Int→Option ρ):Option ρ:=
 bnd (idx e i) fun y=>
 br ((↑(UInt8.toNat y):Int) !=(73:Int))
 (Z (IntKind.i64.wrap (n+(1:Int))))
 (Z n)
def Jg.cn_s:Shape:=⟨[(0,ff4),(2,ff5),(3,ff5),(4,ff5)],[]⟩
def Jg.cn_r:Ck:=Ck.of (T:=Int) Jg.cn_s (fun ρ X Z=>Jg.cn_ X.1 X.2.2.1 X.2.2.2.1 Z) (fun ρ X V Z=>Z 0 (Shape.inj Jg.cn_s (X.1,X.2.1,V,X.2.2.2)))
def Jg.ca_ (e:List UInt8)(n:Int)(i:Int)(Z:(Int×Int)⊕(Int×Int)→Option ρ):Option ρ:=
 br (decide (i<(↑(List.length e):Int)))
 (bnd (Jg.cn_ e n i some) fun y=>
 Z (.inl (y,(IntKind.i64.wrap (i+(1:Int))))))
 (Z (.inr (n,i)))
def Jg.ca_r:Ck:=Ck.ofLoop (S:=Int×Int) (T:=Int×Int) Jg.cn_s (fun X=>(X.2.2.1,X.2.2.2.1)) (fun ρ X Q Z=>Jg.ca_ X.1 Q.1 Q.2 Z) (fun ρ X V Z=>Z 2 (Shape.inj Jg.cn_s (X.1,X.2.1,V.1,V.2,())))
def Jg (e:List UInt8):Option Int:=
 bnd (iter (fun s↦Jg.ca_ e s.1 s.2 some) ((0:Int),(0:Int))) fun y=>
 some y.1
def Jg.ce:Go.Ql.Callee:=⟨[.str],[(.int .i64)],fun X=>Jg X⟩
def Jg.G:Env:=⟨18,tab,[],[0,2,3,4,8,14],[],[],[(100003,Jg.ca_r),(220486,Jg.cn_r)],[],jy⟩
theorem Jg.p0:PcA Jg.G Tryz.f56 0:=
 jW (s:=Jg.ca_r) (by kernel_rfl) (by kernel_rfl) (jT (sh:=Jg.cn_s) (I:=fun X Q=>(X.1,X.2.1,Q.1,Q.2,())) (fun X=>rfl) (fun ρ X Q Z=>(jl (jb fun _=>jc) jc)) (fun ρ X t k=>(by kernel_rfl)) (fun X s=>by kernel_rfl))
theorem Jg.p1:PcA Jg.G Tryz.f56 1:=
 JE (s:=Jg.cn_r) (by kernel_rfl) (by kernel_rfl) (jq (sh:=Jg.cn_s) (fun ρ X Z=>(jb fun _=>(jl jc jc))) (fun ρ X t k=>(by kernel_rfl)) (fun X=>by kernel_rfl))
theorem Jg.ok:CalleeOk Tryz.prog 56 Jg.ce:=fn_ok (G:=Jg.G) jG mixed Tryz.func56 ⟨jz,jx,jn⟩ (m:=2) (by kernel_rfl) ⟨⟨trivial,Jg.p0⟩,Jg.p1⟩ (by kernel_rfl) (fun _=>by kernel_rfl)
def jJ.c5 (s:List Int)(es:List (List UInt8))(best:List UInt8)(i:Int)(c0:Int)(c1:List (List UInt8))(Z:Bool→Option ρ):Option ρ:=
 br (best==Array.toList (ByteArray.data (ByteArray.mk #[])))
 (bnd (idx es i) fun y=>
 bnd (Jh (c0,c1) y) fun y_1=>
 bnd (jU y_1 s) fun y_2=>
 Z y_2)
 (bnd (idx es i) fun y_3=>
 bnd (Jg y_3) fun y4=>
 bnd (Jg best) fun y5=>
 br (decide (y4<y5))
 (bnd (idx es i) fun y6=>
 bnd (Jh (c0,c1) y6) fun y7=>
 bnd (jU y7 s) fun y8=>
 Z y8)
 (Z false))
def jJ.c5s:Shape:=⟨[(0,ff0),(1,ff49),(2,ff21),(3,ff12),(6,ff4),(7,ff4),(8,ff5)],[(3,ff3)]⟩
def jJ.c5x0:Shape:=⟨[(0,ff0),(1,ff49),(2,ff21),(3,ff12),(6,ff4),(7,ff4),(8,ff5),(36,ff7)],[(3,ff3)]⟩
def jJ.c5r:Ck:=Ck.of (T:=Bool) jJ.c5s (fun ρ X Z=>jJ.c5 X.2.1 X.2.2.1 (q4 X).1 (q4 X).2.1 (q4 X).2.2.1 (q4 X).2.2.2.1 Z) (fun ρ X V Z=>Z 0 (Shape.inj jJ.c5x0 (X.1,X.2.1,X.2.2.1,X.2.2.2.1,(q4 X).1,(q4 X).2.1,V,(q4 X).2.2)))
def jJ.cn_ (s:List Int)(es:List (List UInt8))(best:List UInt8)(i:Int)(c0:Int)(c1:List (List UInt8))(Z:List UInt8→Option ρ):Option ρ:=
 bnd (jJ.c5 s es best i c0 c1 some) fun y=>
 br y
 (bnd (idx es i) fun y_1=>
 Z y_1)
 (Z best)
def jJ.cn_r:Ck:=Ck.of (T:=List UInt8) jJ.c5s (fun ρ X Z=>jJ.cn_ X.2.1 X.2.2.1 (q4 X).1 (q4 X).2.1 (q4 X).2.2.1 (q4 X).2.2.2.1 Z) (fun ρ X V Z=>Z 0 (Shape.inj jJ.c5s (X.1,X.2.1,X.2.2.1,X.2.2.2.1,V,(q4 X).2)))
def jJ.ca_ (s:List Int)(es:List (List UInt8))(best:List UInt8)(i:Int)(c0:Int)(c1:List (List UInt8))(Z:((List UInt8)×Int)⊕((List UInt8)×Int)→Option ρ):Option ρ:=
 br (decide (i<(↑(List.length es):Int)))
 (bnd (jJ.cn_ s es best i c0 c1 some) fun y=>
 Z (.inl (y,(IntKind.i64.wrap (i+(1:Int))))))
 (Z (.inr (best,i)))
def jJ.ca_r:Ck:=Ck.ofLoop (S:=(List UInt8)×Int) (T:=(List UInt8)×Int) jJ.c5s (fun X=>((q4 X).1,(q4 X).2.1)) (fun ρ X Q Z=>jJ.ca_ X.2.1 X.2.2.1 Q.1 Q.2 (q4 X).2.2.1 (q4 X).2.2.2.1 Z) (fun ρ X V Z=>Z 2 (Shape.inj jJ.c5s (X.1,X.2.1,X.2.2.1,X.2.2.2.1,V.1,V.2,(q4 X).2.2)))
def jJ (c:Int×(List (List UInt8))) (s:List Int) (es:List (List UInt8)):Option (List UInt8):=
 bnd (iter (fun s_1↦jJ.ca_ s es s_1.1 s_1.2 c.1 c.2 some) (Array.toList (ByteArray.data (ByteArray.mk #[])),(0:Int))) fun y=>
 some y.1
def jJ.ce:Go.Ql.Callee:=⟨[(.st (.pair (.int .i64) (.sl .str))),(.sl (.int .i64)),(.sl .str)],[.str],fun X=>jJ X.1 X.2.1 X.2.2⟩
def jJ.G:Env:=⟨42,tab,[(56,Jg.ce),(53,Jh.ce),(47,jU.ce)],[0,1,2,3,6,7,8,12,36],[],[(5,[⟨[],[],[],[]⟩,⟨[0],[],[],[]⟩,⟨[1,0],[],[],[]⟩,⟨[2,1,0],[],[19,23],[]⟩,⟨[2,1,0],[],[18,23],[]⟩,⟨[3,2,1,0,4],[],[23],[]⟩,⟨[5,3,2,1,0,4],[],[23],[]⟩,⟨[6,5,3,2,1,0,4],[],[23],[]⟩,⟨[2,1,0],[],[18,19,20,21,22],[]⟩,⟨[8,2,1,0,7,6,5,3,4],[],[],[]⟩,⟨[7,6,5,3,2,1,0,4,9,8],[],[],[]⟩,⟨[2,1,0,10,7,6,5,3,4,9,8],[],[],[]⟩,⟨[11,2,1,0,10,7,6,5,3,4,9,8],[],[],[]⟩,⟨[12,11,2,1,0,10,7,6,5,3,4,9,8],[],[29,30,31,32,34],[]⟩,⟨[12,11,2,1,0,10,7,6,5,3,4,9,8],[],[28,30,34],[]⟩,⟨[12,11,2,1,0,10,7,6,5,3,4,9,8],[],[28,29,34],[]⟩,⟨[14,12,11,2,1,0,10,7,6,5,3,4,9,8,15],[],[28,34],[]⟩,⟨[16,14,12,11,2,1,0,10,7,6,5,3,4,9,8,15],[],[28,34],[]⟩,⟨[13,12,11,2,1,0,10,7,6,5,3,4,9,8,17,16,14,15],[],[34],[]⟩,⟨[12,11,2,1,0,10,7,6,5,3,4,9,8],[],[28,29,30,31,32,33],[]⟩,⟨[18,13,12,11,2,1,0,10,7,6,5,3,4,9,8,17,16,14,15,19],[],[],[]⟩,⟨[12,11,2,1,0,10,7,6,5,3,4,9,8,20,18,13,17,16,14,15,19],[],[],[]⟩])],[(100003,jJ.ca_r),(220486,jJ.cn_r),(5,jJ.c5r)],[],jy⟩
theorem jJ.p0:PcA jJ.G Tryz.f52 0:=
 jW (s:=jJ.ca_r) (by kernel_rfl) (by kernel_rfl) (jT (sh:=jJ.c5s) (I:=fun X Q=>(X.1,X.2.1,X.2.2.1,X.2.2.2.1,Q.1,Q.2,(q4 X).2.2)) (fun X=>rfl) (fun ρ X Q Z=>(jl (jb fun _=>jc) jc)) (fun ρ X t k=>(by kernel_rfl)) (fun X s=>by kernel_rfl))
theorem jJ.p1:PcA jJ.G Tryz.f52 1:=
 JE (s:=jJ.cn_r) (by kernel_rfl) (by kernel_rfl) (jq (sh:=jJ.c5s) (fun ρ X Z=>(jb fun _=>(jl (jb fun _=>jc) jc))) (fun ρ X t k=>(by kernel_rfl)) (fun X=>by kernel_rfl))
theorem jJ.p2:PcA jJ.G Tryz.f52 2:=
 js (s:=jJ.c5r) (by kernel_rfl) (by kernel_rfl) (jq (sh:=jJ.c5s) (fun ρ X Z=>(jl (jb fun _=>(jb fun _=>(jb fun _=>jc))) (jb fun _=>(jb fun _=>(jb fun _=>(jl (jb fun _=>(jb fun _=>(jb fun _=>jc))) jc)))))) (fun ρ X t k=>(by kernel_rfl)) (fun X=>by kernel_rfl))
theorem jJ.ok:CalleeOk Tryz.prog 52 jJ.ce:=fn_ok (G:=jJ.G) jG mixed Tryz.func52 ⟨(jj Jg.ok (jj Jh.ok (jj jU.ok jz))),jx,jn⟩ (m:=3) (by kernel_rfl) ⟨⟨⟨trivial,jJ.p0⟩,jJ.p1⟩,jJ.p2⟩ (by kernel_rfl) (fun _=>by kernel_rfl)
def jZ.ce_ (group:List (List UInt8))(e:List UInt8)(i:Int)(Z:Int⊕(Int⊕Int)→Option ρ):Option ρ:=
 br (decide (i<(↑(List.length group):Int)))
 (bnd (idx group i) fun y=>
 br (y==e)
 (Z (.inr (.inl i)))
 (Z (.inl (IntKind.i64.wrap (i+(1:Int))))))
 (Z (.inr (.inr i)))
def jZ.ce_s:Shape:=⟨[(0,ff21),(1,ff4),(4,ff7),(5,ff5)],[]⟩
def jZ.ce_r:Ck:=Ck.ofLoop (S:=Int) (T:=Int⊕Int) jZ.ce_s (fun X=>X.2.2.2.1) (fun ρ X Q Z=>jZ.ce_ X.1 X.2.1 Q Z) (fun ρ X V Z=>sel V (fun V=>Z 1 (Shape.inj jZ.ce_s (X.1,X.2.1,true,V,()))) (fun V=>Z 2 (Shape.inj jZ.ce_s (X.1,X.2.1,X.2.2.1,V,()))))
def jZ.c6 (group:List (List UInt8))(e:List UInt8)(Z:Bool→Option ρ):Option ρ:=
 br ((↑(List.length group):Int)==(0:Int))
 (bnd (Jg e) fun y=>
 Z (y==(0:Int)))
 (Z false)
def jZ.c6r:Ck:=Ck.of (T:=Bool) jZ.ce_s (fun ρ X Z=>jZ.c6 X.1 X.2.1 Z) (fun ρ X V Z=>Z 0 (Shape.inj jZ.ce_s (X.1,X.2.1,V,X.2.2.2)))
def jZ (group:List (List UInt8)) (e:List UInt8):Option Bool:=
 bnd (iter (fun s↦jZ.ce_ group e s some) (0:Int)) fun y=>
 sel y
 (fun u=>some true)
 (fun v=>bnd (jZ.c6 group e some) fun y_1=>
 some y_1)
def jZ.ce:Go.Ql.Callee:=⟨[(.sl .str),.str],[.bool],fun X=>jZ X.1 X.2⟩
def jZ.G:Env:=⟨26,tab,[(56,Jg.ce)],[0,1,4,5,9,17],[],[],[(6,jZ.c6r),(100002,jZ.ce_r)],[],jy⟩
theorem jZ.p0:PcA jZ.G Tryz.f54 0:=
 jW (s:=jZ.ce_r) (by kernel_rfl) (by kernel_rfl) (jT (sh:=jZ.ce_s) (I:=fun X Q=>(X.1,X.2.1,X.2.2.1,Q,())) (fun X=>rfl) (fun ρ X Q Z=>(jl (jb fun _=>(jl jc jc)) jc)) (fun ρ X t k=>(kU (fun _=>(by kernel_rfl)) (fun _=>(by kernel_rfl)))) (fun X s=>by kernel_rfl))
theorem jZ.p1:PcA jZ.G Tryz.f54 1:=
 js (s:=jZ.c6r) (by kernel_rfl) (by kernel_rfl) (jq (sh:=jZ.ce_s) (fun ρ X Z=>(jl (jb fun _=>jc) jc)) (fun ρ X t k=>(by kernel_rfl)) (fun X=>by kernel_rfl))
theorem jZ.ok:CalleeOk Tryz.prog 54 jZ.ce:=fn_ok (G:=jZ.G) jG mixed Tryz.func54 ⟨(jj Jg.ok jz),jx,jn⟩ (m:=2) (by kernel_rfl) ⟨⟨trivial,jZ.p0⟩,jZ.p1⟩ (by kernel_rfl) (fun _=>by kernel_rfl)
abbrev ff94:SD:=.one (.own 38 0)
abbrev ff95:SD:=.one (.ref 12 0)
def jm.c4 (t0:Bool)(t1:List Int)(t2:Bool)(t3:List Int)(Z:Bool×(List Int)×YD→Option ρ):Option ρ:=
 bnd (Jt (1:Int)) fun y=>
 bnd (Jt (1:Int)) fun y_1=>
 bnd (Jt (3:Int)) fun y_2=>
 bnd (Jt (1:Int)) fun y_3=>
 bnd (JY ((y_2.1,y_2.2),y_3.1,y_3.2) ((t0,t1),t2,t3)) fun y4=>
 bnd (kh ((y.1,y.2),y_1.1,y_1.2) y4) fun y5=>
 Z (y5.1.1,y5.1.2,y5.2.1,y5.2.2)
def jm.c4s:Shape:=⟨[(0,ff0),(1,ff90),(2,ff2),(3,ff12),(4,ff6),(5,ff21),(6,ff21),(7,ff42)],[(2,ff3),(3,ff89),(4,ff89),(7,ff89)]⟩
def jm.c4x0:Shape:=⟨[(0,ff0),(1,ff90),(2,ff2),(3,ff12),(4,ff6),(5,ff21),(6,ff21),(7,ff42),(8,ff43)],[(2,ff3),(3,ff89),(4,ff89),(7,ff89),(8,ff89)]⟩
def jm.c4r:Ck:=Ck.of (T:=Bool×(List Int)×YD) jm.c4s (fun ρ X Z=>jm.c4 (q4 X).2.2.1 (q4 X).2.2.2.1 (q8 X).1 (q8 X).2.1 Z) (fun ρ X V Z=>Z 0 (Shape.inj jm.c4x0 (X.1,X.2.1,X.2.2.1,X.2.2.2.1,(q4 X).1,(q4 X).2.1,(q4 X).2.2.1,(q4 X).2.2.2.1,(q8 X).1,(q8 X).2.1,(q8 X).2.2.1,(q8 X).2.2.2.1,(q4 (q8 X)).1,(q4 (q8 X)).2.1,(q4 (q8 X)).2.2.1,(q4 (q8 X)).2.2.2.1,(q8 (q8 X)).1,(q8 (q8 X)).2.1,V.1,V.2.1,V.2.2.1,V.2.2.2,())))
def jm.c9 (es:List (List UInt8))(i:Int)(c0:Int)(c1:List (List UInt8))(Z:List UInt8→Option ρ):Option ρ:=
 bnd (idx es i) fun y=>
 bnd (Jh (c0,c1) y) fun y_1=>
 bnd (jJ (c0,c1) y_1 es) fun y_2=>
 Z y_2
def jm.c9s:Shape:=⟨[(0,ff0),(1,ff90),(2,ff2),(3,ff12),(4,ff6),(5,ff21),(6,ff21),(7,ff42),(8,ff43),(9,ff94),(10,ff5)],[(2,ff3),(3,ff89),(4,ff89),(7,ff89),(8,ff89),(38,ff51)]⟩
def jm.c9x0:Shape:=⟨[(0,ff0),(1,ff90),(2,ff2),(3,ff12),(4,ff6),(5,ff21),(6,ff21),(7,ff42),(8,ff43),(9,ff94),(10,ff5),(11,ff4)],[(2,ff3),(3,ff89),(4,ff89),(7,ff89),(8,ff89),(38,ff51)]⟩
def jm.c9r:Ck:=Ck.of (T:=List UInt8) jm.c9s (fun ρ X Z=>jm.c9 X.2.2.2.1 (q4 X).1 (q4 X).2.1 (q4 X).2.2.1 Z) (fun ρ X V Z=>Z 0 (Shape.inj jm.c9x0 (X.1,X.2.1,X.2.2.1,X.2.2.2.1,(q4 X).1,V,(q4 X).2)))
def jm.cac_ (g:List (List UInt8))(es:List (List UInt8))(i:Int)(c0:Int)(c1:List (List UInt8))(t38:List Int)(Z:List Int→Option ρ):Option ρ:=
 bnd (jm.c9 es i c0 c1 some) fun y=>
 bnd (idx es i) fun y_1=>
 bnd (jh y y_1) fun y_2=>
 bnd (jZ g y_2) fun y_3=>
 br (!y_3)
 (bnd (idx es i) fun y4=>
 bnd (Jg y4) fun y5=>
 bnd (inR (List.length t38) y5) fun y6=>
 bnd (idx t38 y5) fun y7=>
 bnd (inR (List.length t38) y5) fun y8=>
 bnd (idx t38 y5) fun y9=>
 Z (List.set t38 (Int.toNat y5) (IntKind.i64.wrap (y7+(1:Int)))))
 (Z t38)
def jm.cac_r:Ck:=Ck.of (T:=List Int) jm.c9s (fun ρ X Z=>jm.cac_ X.2.2.1 X.2.2.2.1 (q4 X).1 (q4 X).2.1 (q4 X).2.2.1 (q4 (q8 (q8 X))).2.2.2.1 Z) (fun ρ X V Z=>uP X fun c X=>uP X fun t X=>uP X fun g X=>uP X fun es X=>uP X fun i X=>uP X fun c0 X=>uP X fun c1 X=>uP X fun t0 X=>uP X fun t1 X=>uP X fun t2 X=>uP X fun t3 X=>uP X fun t40 X=>uP X fun t41 X=>uP X fun t42 X=>uP X fun t43 X=>uP X fun t70 X=>uP X fun t71 X=>uP X fun t72 X=>uP X fun t73 X=>uP X fun well0 X=>uP X fun well1 X=>uP X fun well2 X=>uP X fun well3 X=>uP X fun t38 X=>Z 0 (Shape.inj jm.c9s (c,t,g,es,i,c0,c1,t0,t1,t2,t3,t40,t41,t42,t43,t70,t71,t72,t73,well0,well1,well2,well3,V,())))
def jm.cd_ (g:List (List UInt8))(es:List (List UInt8))(i:Int)(c0:Int)(c1:List (List UInt8))(t38:List Int)(Z:(Int×(List Int))⊕(Int×(List Int))→Option ρ):Option ρ:=
 br (decide (i<(↑(List.length es):Int)))
 (bnd (jm.cac_ g es i c0 c1 t38 some) fun y=>
 Z (.inl ((IntKind.i64.wrap (i+(1:Int))),y)))
 (Z (.inr (i,t38)))
def jm.cd_r:Ck:=Ck.ofLoop (S:=Int×(List Int)) (T:=Int×(List Int)) jm.c9s (fun X=>((q4 X).1,(q4 (q8 (q8 X))).2.2.2.1)) (fun ρ X Q Z=>jm.cd_ X.2.2.1 X.2.2.2.1 Q.1 (q4 X).2.1 (q4 X).2.2.1 Q.2 Z) (fun ρ X V Z=>uP X fun c X=>uP X fun t X=>uP X fun g X=>uP X fun es X=>uP X fun i X=>uP X fun c0 X=>uP X fun c1 X=>uP X fun t0 X=>uP X fun t1 X=>uP X fun t2 X=>uP X fun t3 X=>uP X fun t40 X=>uP X fun t41 X=>uP X fun t42 X=>uP X fun t43 X=>uP X fun t70 X=>uP X fun t71 X=>uP X fun t72 X=>uP X fun t73 X=>uP X fun well0 X=>uP X fun well1 X=>uP X fun well2 X=>uP X fun well3 X=>uP X fun t38 X=>Z 2 (Shape.inj jm.c9s (c,t,g,es,V.1,c0,c1,t0,t1,t2,t3,t40,t41,t42,t43,t70,t71,t72,t73,well0,well1,well2,well3,V.2,())))
def jm.cL_ (w:Int)(i_1:Int)(t0:Bool)(t1:List Int)(t2:Bool)(t3:List Int)(well0:Bool)(well1:List Int)(well2:Bool)(well3:List Int)(term0:Bool)(term1:List Int)(term2:Bool)(term3:List Int)(Z:Bool×(List Int)×YD→Option ρ):Option ρ:=
 br (decide (i_1<w))
 (bnd (JY ((term0,term1),term2,term3) ((t0,t1),t2,t3)) fun y=>
 Z (y.1.1,y.1.2,y.2.1,y.2.2))
 (bnd (JY ((term0,term1),term2,term3) ((well0,well1),well2,well3)) fun y_1=>
 Z (y_1.1.1,y_1.1.2,y_1.2.1,y_1.2.2))
def jm.cL_s:Shape:=⟨[(0,ff0),(1,ff90),(2,ff2),(3,ff12),(4,ff6),(5,ff21),(6,ff21),(7,ff42),(8,ff43),(9,ff94),(10,ff5),(12,ff95),(13,ff5),(14,ff88),(15,ff5)],[(2,ff3),(3,ff89),(4,ff89),(7,ff89),(8,ff89),(12,ff89),(14,ff89),(38,ff51)]⟩
def jm.cL_r:Ck:=Ck.of (T:=Bool×(List Int)×YD) jm.cL_s (fun ρ X Z=>jm.cL_ (q4 X).2.1 (q4 X).2.2.1 (q8 X).2.1 (q8 X).2.2.1 (q8 X).2.2.2.1 (q4 (q8 X)).1 (q4 (q8 (q8 X))).2.1 (q4 (q8 (q8 X))).2.2.1 (q4 (q8 (q8 X))).2.2.2.1 (q8 (q8 (q8 X))).1 (q4 (q8 (q8 (q8 X)))).2.1 (q4 (q8 (q8 (q8 X)))).2.2.1 (q4 (q8 (q8 (q8 X)))).2.2.2.1 (q8 (q8 (q8 (q8 X)))).1 Z) (fun ρ X V Z=>uP X fun c X=>uP X fun t X=>uP X fun g X=>uP X fun es X=>uP X fun i X=>uP X fun w X=>uP X fun i_1 X=>uP X fun c0 X=>uP X fun c1 X=>uP X fun t0 X=>uP X fun t1 X=>uP X fun t2 X=>uP X fun t3 X=>uP X fun t40 X=>uP X fun t41 X=>uP X fun t42 X=>uP X fun t43 X=>uP X fun t70 X=>uP X fun t71 X=>uP X fun t72 X=>uP X fun t73 X=>uP X fun well0 X=>uP X fun well1 X=>uP X fun well2 X=>uP X fun well3 X=>uP X fun sum0 X=>uP X fun sum1 X=>uP X fun sum2 X=>uP X fun sum3 X=>uP X fun term0 X=>uP X fun term1 X=>uP X fun term2 X=>uP X fun term3 X=>uP X fun t38 X=>Z 0 (Shape.inj jm.cL_s (c,t,g,es,i,w,i_1,c0,c1,t0,t1,t2,t3,t40,t41,t42,t43,t70,t71,t72,t73,well0,well1,well2,well3,sum0,sum1,sum2,sum3,V.1,V.2.1,V.2.2.1,V.2.2.2,t38,())))
def jm.cH_ (w:Int)(i_1:Int)(c0:Int)(t0:Bool)(t1:List Int)(t2:Bool)(t3:List Int)(well0:Bool)(well1:List Int)(well2:Bool)(well3:List Int)(term0:Bool)(term1:List Int)(term2:Bool)(term3:List Int)(Z:(Int×Bool×(List Int)×YD)⊕(Int×Bool×(List Int)×YD)→Option ρ):Option ρ:=
 br (decide (i_1<c0))
 (bnd (jm.cL_ w i_1 t0 t1 t2 t3 well0 well1 well2 well3 term0 term1 term2 term3 some) fun y=>
 Z (.inl ((IntKind.i64.wrap (i_1+(1:Int))),y.1,y.2.1,y.2.2.1,y.2.2.2)))
 (Z (.inr (i_1,term0,term1,term2,term3)))
def jm.cH_r:Ck:=Ck.ofLoop (S:=Int×Bool×(List Int)×YD) (T:=Int×Bool×(List Int)×YD) jm.cL_s (fun X=>((q4 X).2.2.1,(q4 (q8 (q8 (q8 X)))).2.1,(q4 (q8 (q8 (q8 X)))).2.2.1,(q4 (q8 (q8 (q8 X)))).2.2.2.1,(q8 (q8 (q8 (q8 X)))).1)) (fun ρ X Q Z=>jm.cH_ (q4 X).2.1 Q.1 (q4 X).2.2.2.1 (q8 X).2.1 (q8 X).2.2.1 (q8 X).2.2.2.1 (q4 (q8 X)).1 (q4 (q8 (q8 X))).2.1 (q4 (q8 (q8 X))).2.2.1 (q4 (q8 (q8 X))).2.2.2.1 (q8 (q8 (q8 X))).1 Q.2.1 Q.2.2.1 Q.2.2.2.1 Q.2.2.2.2 Z) (fun ρ X V Z=>uP X fun c X=>uP X fun t X=>uP X fun g X=>uP X fun es X=>uP X fun i X=>uP X fun w X=>uP X fun i_1 X=>uP X fun c0 X=>uP X fun c1 X=>uP X fun t0 X=>uP X fun t1 X=>uP X fun t2 X=>uP X fun t3 X=>uP X fun t40 X=>uP X fun t41 X=>uP X fun t42 X=>uP X fun t43 X=>uP X fun t70 X=>uP X fun t71 X=>uP X fun t72 X=>uP X fun t73 X=>uP X fun well0 X=>uP X fun well1 X=>uP X fun well2 X=>uP X fun well3 X=>uP X fun sum0 X=>uP X fun sum1 X=>uP X fun sum2 X=>uP X fun sum3 X=>uP X fun term0 X=>uP X fun term1 X=>uP X fun term2 X=>uP X fun term3 X=>uP X fun t38 X=>Z 6 (Shape.inj jm.cL_s (c,t,g,es,i,w,V.1,c0,c1,t0,t1,t2,t3,t40,t41,t42,t43,t70,t71,t72,t73,well0,well1,well2,well3,sum0,sum1,sum2,sum3,V.2.1,V.2.2.1,V.2.2.2.1,V.2.2.2.2,t38,())))
def jm.cs_ (w:Int)(c0:Int)(t0:Bool)(t1:List Int)(t2:Bool)(t3:List Int)(well0:Bool)(well1:List Int)(well2:Bool)(well3:List Int)(sum0:Bool)(sum1:List Int)(sum2:Bool)(sum3:List Int)(t38:List Int)(Z:(Int×Bool×(List Int)×YD)⊕(Int×Bool×(List Int)×YD)→Option ρ):Option ρ:=
 br (decide (w≤c0))
 (bnd (inR (List.length t38) w) fun y=>
 bnd (idx t38 w) fun y_1=>
 bnd (Jt y_1) fun y_2=>
 bnd (Jt (1:Int)) fun y_3=>
 bnd (iter (fun s↦jm.cH_ w s.1 c0 t0 t1 t2 t3 well0 well1 well2 well3 s.2.1 s.2.2.1 s.2.2.2.1 s.2.2.2.2 some) ((0:Int),y_2.1,y_2.2,y_3.1,y_3.2)) fun y4=>
 bnd (ka ((sum0,sum1),sum2,sum3) ((y4.2.1,y4.2.2.1),y4.2.2.2.1,y4.2.2.2.2)) fun y5=>
 Z (.inl ((IntKind.i64.wrap (w+(1:Int))),y5.1.1,y5.1.2,y5.2.1,y5.2.2)))
 (Z (.inr (w,sum0,sum1,sum2,sum3)))
def jm.cs_s:Shape:=⟨[(0,ff0),(1,ff90),(2,ff2),(3,ff12),(4,ff6),(5,ff21),(6,ff21),(7,ff42),(8,ff43),(9,ff94),(10,ff5),(12,ff95),(13,ff5)],[(2,ff3),(3,ff89),(4,ff89),(7,ff89),(8,ff89),(12,ff89),(38,ff51)]⟩
def jm.cs_r:Ck:=Ck.ofLoop (S:=Int×Bool×(List Int)×YD) (T:=Int×Bool×(List Int)×YD) jm.cs_s (fun X=>((q4 X).2.1,(q8 (q8 (q8 X))).1,(q8 (q8 (q8 X))).2.1,(q8 (q8 (q8 X))).2.2.1,(q8 (q8 (q8 X))).2.2.2.1)) (fun ρ X Q Z=>jm.cs_ Q.1 (q4 X).2.2.1 (q8 X).1 (q8 X).2.1 (q8 X).2.2.1 (q8 X).2.2.2.1 (q4 (q8 (q8 X))).1 (q4 (q8 (q8 X))).2.1 (q4 (q8 (q8 X))).2.2.1 (q4 (q8 (q8 X))).2.2.2.1 Q.2.1 Q.2.2.1 Q.2.2.2.1 Q.2.2.2.2 (q4 (q8 (q8 (q8 X)))).1 Z) (fun ρ X V Z=>uP X fun c X=>uP X fun t X=>uP X fun g X=>uP X fun es X=>uP X fun i X=>uP X fun w X=>uP X fun c0 X=>uP X fun c1 X=>uP X fun t0 X=>uP X fun t1 X=>uP X fun t2 X=>uP X fun t3 X=>uP X fun t40 X=>uP X fun t41 X=>uP X fun t42 X=>uP X fun t43 X=>uP X fun t70 X=>uP X fun t71 X=>uP X fun t72 X=>uP X fun t73 X=>uP X fun well0 X=>uP X fun well1 X=>uP X fun well2 X=>uP X fun well3 X=>uP X fun sum0 X=>uP X fun sum1 X=>uP X fun sum2 X=>uP X fun sum3 X=>uP X fun t38 X=>Z 4 (Shape.inj jm.cs_s (c,t,g,es,i,V.1,c0,c1,t0,t1,t2,t3,t40,t41,t42,t43,t70,t71,t72,t73,well0,well1,well2,well3,V.2.1,V.2.2.1,V.2.2.2.1,V.2.2.2.2,t38,())))
def jm (c:Int×(List (List UInt8))) (t:YD×YD):Option (YD×YD):=
 bnd (kb c.2) fun y=>
 bnd (jD y) fun y_1=>
 bnd (jL c.1) fun y_2=>
 bnd (Jt (0:Int)) fun y_3=>
 bnd (Jt (1:Int)) fun y4=>
 bnd (jm.c4 t.1.1 t.1.2 t.2.1 t.2.2 some) fun y5=>
 bnd (okIf (decide ((0:Int)≤IntKind.i64.wrap (c.1+(1:Int)))&&decide (IntKind.i64.wrap (c.1+(1:Int))≤IntKind.i64.wrap (c.1+(1:Int)))&&decide (IntKind.i64.wrap (c.1+(1:Int))*(↑(8:Nat):Int)≤(140737488355328:Int))&&decide (IntKind.i64.wrap (c.1+(1:Int))≤(140737488355328:Int)))) fun y6=>
 bnd (iter (fun s↦jm.cd_ y_1 y_2 s.1 c.1 c.2 s.2 some) ((0:Int),List.replicate (Int.toNat (IntKind.i64.wrap (c.1+(1:Int)))) (0:Int))) fun y7=>
 bnd (iter (fun s↦jm.cs_ s.1 c.1 t.1.1 t.1.2 t.2.1 t.2.2 y5.1 y5.2.1 y5.2.2.1 y5.2.2.2 s.2.1 s.2.2.1 s.2.2.2.1 s.2.2.2.2 y7.2 some) ((0:Int),y_3.1,y_3.2,y4.1,y4.2)) fun y8=>
 some ((y8.2.1,y8.2.2.1),y8.2.2.2.1,y8.2.2.2.2)
def jm.ce:Go.Ql.Callee:=⟨[(.st (.pair (.int .i64) (.sl .str))),(.st (.pair (.st (.pair .bool (.sl (.int .i64)))) (.st (.pair .bool (.sl (.int .i64))))))],[(.st (.pair (.st (.pair .bool (.sl (.int .i64)))) (.st (.pair .bool (.sl (.int .i64))))))],fun X=>jm X.1 X.2⟩
def jm.G:Env:=⟨106,tab,[(34,kb.ce),(36,jD.ce),(49,jL.ce),(8,Jt.ce),(51,JY.ce),(50,kh.ce),(53,Jh.ce),(52,jJ.ce),(55,jh.ce),(54,jZ.ce),(56,Jg.ce),(57,ka.ce)],[0,1,2,3,4,5,6,7,8,9,10,11,12,13,14,15,42,62,77,90,95],[38],[(9,[⟨[],[],[46,47,48,49,50,51,52],[]⟩,⟨[],[],[45,47,48,49,50,52],[]⟩,⟨[],[],[45,46,48,52],[]⟩,⟨[],[],[45,46,47,52],[]⟩,⟨[2,3],[],[45,46,52],[]⟩,⟨[4,2,3],[],[45,46,52],[]⟩,⟨[1,5,4,2,3],[],[45,52],[]⟩,⟨[],[],[45,46,47,48,49,50,51],[]⟩,⟨[0,6,1,5,4,2,3,7],[],[],[]⟩,⟨[8,0,6,1,5,4,2,3,7],[],[],[]⟩]),
 (4,[⟨[],[],[32,8],[8]⟩,⟨[0],[],[32,8],[8]⟩,⟨[0,1],[],[29,30,31,32,33,8],[8]⟩,⟨[1,0],[],[28,32,8],[8]⟩,⟨[3,1,0],[],[28,32,8],[8]⟩,⟨[3,1,0,4],[],[28,32,8],[8]⟩,⟨[],[],[26,27,28,29,30,31,8],[8]⟩,⟨[5,3,1,0,4,6],[],[28,8],[8]⟩,⟨[2,0,1,7,5,3,4,6],[],[8],[8]⟩,⟨[],[8],[26,27,28,29,30,31,32,33,34],[]⟩,⟨[9,8,2,0,1,7,5,3,4,6],[8],[],[]⟩])],[(100014,jm.cs_r),(100018,jm.cH_r),(281926,jm.cL_r),(100007,jm.cd_r),(236872,jm.cac_r),(9,jm.c9r),(4,jm.c4r)],[],jy⟩
theorem jm.p0:PcA jm.G Tryz.f13 0:=
 js (s:=jm.c4r) (by kernel_rfl) (by kernel_rfl) (jq (sh:=jm.c4s) (fun ρ X Z=>(jb fun _=>(jb fun _=>(jb fun _=>(jb fun _=>(jb fun _=>(jb fun _=>jc))))))) (fun ρ X t k=>(by kernel_rfl)) (fun X=>by kernel_rfl))
theorem jm.p1:PcA jm.G Tryz.f13 1:=
 jW (s:=jm.cd_r) (by kernel_rfl) (by kernel_rfl) (jT (sh:=jm.c9s) (I:=fun X Q=>(X.1,X.2.1,X.2.2.1,X.2.2.2.1,Q.1,(q4 X).2.1,(q4 X).2.2.1,(q4 X).2.2.2.1,(q8 X).1,(q8 X).2.1,(q8 X).2.2.1,(q8 X).2.2.2.1,(q4 (q8 X)).1,(q4 (q8 X)).2.1,(q4 (q8 X)).2.2.1,(q4 (q8 X)).2.2.2.1,(q8 (q8 X)).1,(q8 (q8 X)).2.1,(q8 (q8 X)).2.2.1,(q8 (q8 X)).2.2.2.1,(q4 (q8 (q8 X))).1,(q4 (q8 (q8 X))).2.1,(q4 (q8 (q8 X))).2.2.1,Q.2,())) (fun X=>rfl) (fun ρ X Q Z=>(jl (jb fun _=>jc) jc)) (fun ρ X t k=>(by kernel_rfl)) (fun X s=>by kernel_rfl))
theorem jm.p2:PcA jm.G Tryz.f13 2:=
 JE (s:=jm.cac_r) (by kernel_rfl) (by kernel_rfl) (jq (sh:=jm.c9s) (fun ρ X Z=>(jb fun _=>(jb fun _=>(jb fun _=>(jb fun _=>(jl (jb fun _=>(jb fun _=>(jb fun _=>(jb fun _=>(jb fun _=>(jb fun _=>jc)))))) jc)))))) (fun ρ X t k=>(by kernel_rfl)) (fun X=>by kernel_rfl))
theorem jm.p3:PcA jm.G Tryz.f13 3:=
 js (s:=jm.c9r) (by kernel_rfl) (by kernel_rfl) (jq (sh:=jm.c9s) (fun ρ X Z=>(jb fun _=>(jb fun _=>(jb fun _=>jc)))) (fun ρ X t k=>(by kernel_rfl)) (fun X=>by kernel_rfl))
theorem jm.p4:PcA jm.G Tryz.f13 4:=
 jW (s:=jm.cs_r) (by kernel_rfl) (by kernel_rfl) (jT (sh:=jm.cs_s) (I:=fun X Q=>(X.1,X.2.1,X.2.2.1,X.2.2.2.1,(q4 X).1,Q.1,(q4 X).2.2.1,(q4 X).2.2.2.1,(q8 X).1,(q8 X).2.1,(q8 X).2.2.1,(q8 X).2.2.2.1,(q4 (q8 X)).1,(q4 (q8 X)).2.1,(q4 (q8 X)).2.2.1,(q4 (q8 X)).2.2.2.1,(q8 (q8 X)).1,(q8 (q8 X)).2.1,(q8 (q8 X)).2.2.1,(q8 (q8 X)).2.2.2.1,(q4 (q8 (q8 X))).1,(q4 (q8 (q8 X))).2.1,(q4 (q8 (q8 X))).2.2.1,(q4 (q8 (q8 X))).2.2.2.1,Q.2.1,Q.2.2.1,Q.2.2.2.1,Q.2.2.2.2,(q4 (q8 (q8 (q8 X)))))) (fun X=>rfl) (fun ρ X Q Z=>(jl (jb fun _=>(jb fun _=>(jb fun _=>(jb fun _=>(jb fun _=>(jb fun _=>jc)))))) jc)) (fun ρ X t k=>(by kernel_rfl)) (fun X s=>by kernel_rfl))
theorem jm.p5:PcA jm.G Tryz.f13 5:=
 jW (s:=jm.cH_r) (by kernel_rfl) (by kernel_rfl) (jT (sh:=jm.cL_s) (I:=fun X Q=>(X.1,X.2.1,X.2.2.1,X.2.2.2.1,(q4 X).1,(q4 X).2.1,Q.1,(q4 X).2.2.2.1,(q8 X).1,(q8 X).2.1,(q8 X).2.2.1,(q8 X).2.2.2.1,(q4 (q8 X)).1,(q4 (q8 X)).2.1,(q4 (q8 X)).2.2.1,(q4 (q8 X)).2.2.2.1,(q8 (q8 X)).1,(q8 (q8 X)).2.1,(q8 (q8 X)).2.2.1,(q8 (q8 X)).2.2.2.1,(q4 (q8 (q8 X))).1,(q4 (q8 (q8 X))).2.1,(q4 (q8 (q8 X))).2.2.1,(q4 (q8 (q8 X))).2.2.2.1,(q8 (q8 (q8 X))).1,(q8 (q8 (q8 X))).2.1,(q8 (q8 (q8 X))).2.2.1,(q8 (q8 (q8 X))).2.2.2.1,(q4 (q8 (q8 (q8 X)))).1,Q.2.1,Q.2.2.1,Q.2.2.2.1,Q.2.2.2.2,(q8 (q8 (q8 (q8 X)))).2)) (fun X=>rfl) (fun ρ X Q Z=>(jl (jb fun _=>jc) jc)) (fun ρ X t k=>(by kernel_rfl)) (fun X s=>by kernel_rfl))
theorem jm.p6:PcA jm.G Tryz.f13 6:=
 JE (s:=jm.cL_r) (by kernel_rfl) (by kernel_rfl) (jq (sh:=jm.cL_s) (fun ρ X Z=>(jl (jb fun _=>jc) (jb fun _=>jc))) (fun ρ X t k=>(by kernel_rfl)) (fun X=>by kernel_rfl))
theorem jm.ok:CalleeOk Tryz.prog 13 jm.ce:=fn_ok (G:=jm.G) jG mixed Tryz.func13 ⟨(jj kb.ok (jj jD.ok (jj jL.ok (jj Jt.ok (jj JY.ok (jj kh.ok (jj Jh.ok (jj jJ.ok (jj jh.ok (jj jZ.ok (jj Jg.ok (jj ka.ok jz)))))))))))),jx,jn⟩ (m:=7) (by kernel_rfl) ⟨⟨⟨⟨⟨⟨⟨trivial,jm.p0⟩,jm.p1⟩,jm.p2⟩,jm.p3⟩,jm.p4⟩,jm.p5⟩,jm.p6⟩ (by kernel_rfl) (fun _=>by kernel_rfl)
end
end W
end

section
set_option maxHeartbeats 4000000
set_option maxRecDepth 100000
namespace W
open Go Go.Ql Go.Proofs
noncomputable section
variable {ρ:Type}
abbrev fg0:SD:=.one (.val (.st (.pair (.int .i64) (.sl .str))))
abbrev fg1:SD:=.one (.val .str)
abbrev fg2:SD:=.one (.ref 2 0)
abbrev fg3:SD:=.one (.ref 5 0)
abbrev fg4:SD:=.one (.ref 6 0)
abbrev fg5:SD:=.one (.ref 7 0)
abbrev fg6:SO:=.box [.val (.int .i64),.val (.sl .str)]
abbrev fg7:SO:=.box [.val (.int .i64),.val (.int .i64)]
abbrev fg8:SO:=.box [.val (.sl (.st (.pair (.int .u64) (.pair (.int .u64) .bool))))]
abbrev fg9:SD:=.one (.ref 8 0)
abbrev fg10:SD:=.one (.ref 9 0)
abbrev fg11:SD:=.one (.ref 11 0)
abbrev fg12:SD:=.one (.ref 13 0)
abbrev fg13:SO:=.box [.val .bool,.val (.sl (.int .u32)),.val .bool,.val (.sl (.int .u32))]
abbrev fg14:SD:=.one (.val .bool)
abbrev fg15:SD:=.one (.ref 15 0)
abbrev fg16:SD:=.one (.ref 16 0)
abbrev fg17:SO:=.box [.own 82 0]
abbrev fg18:SO:=.arr 0 false 60 (.sl (.pair (.int .i64) (.int .u64)))
abbrev fg19:SD:=.one (.ref 17 0)
abbrev fg20:SD:=.one (.ref 18 0)
abbrev fg21:SO:=.box [.own 86 0]
abbrev fg22:SO:=.arr 0 false 3 (.int .i64)
abbrev fg23:SO:=.clo 22 [] [.ref 15 0,.ref 6 0,.ref 16 0,.ref 17 0]
abbrev fg24:SD:=.one (.ref 20 0)
abbrev fg25:SD:=.one (.ref 21 0)
abbrev fg26:SD:=.one (.val (.int .i64))
abbrev fg27:SD:=.one (.ref 24 0)
abbrev fg28:SD:=.one (.own 86 0)
def jk.c3  (Z:Unit→Option ρ):Option ρ:=
 Z ()
def jk.c3s:Shape:=⟨[(0,fg0),(1,fg1),(2,fg2),(4,fg1),(5,fg3),(6,fg4),(7,fg5)],[(2,fg6),(5,fg7),(6,fg8),(7,fg7)]⟩
def jk.c3r:Ck:=Ck.of (T:=Unit) jk.c3s (fun ρ X Z=>jk.c3  Z) (fun ρ X V Z=>Z 0 (Shape.inj jk.c3s (X.1,X.2.1,(Array.toList (ByteArray.data (ByteArray.mk #[]))),X.2.2.2.1,(q4 X).1,(q8 X).1,(q8 X).2.1,(q4 X).2.2.2)))
def jk.c10 (chance0:Bool)(chance1:List Int)(chance2:Bool)(chance3:List Int)(third0:Bool)(third1:List Int)(third2:Bool)(third3:List Int)(nought0:Bool)(nought1:List Int)(nought2:Bool)(nought3:List Int)(Z:Bool→Option ρ):Option ρ:=
 bnd (whole_Frac_Cmp ((chance0,chance1),chance2,chance3) ((nought0,nought1),nought2,nought3)) fun y=>
 br (decide (y<(0:Int)))
 (Z true)
 (bnd (whole_Frac_Cmp ((chance0,chance1),chance2,chance3) ((third0,third1),third2,third3)) fun y1=>
 Z (decide (y1>(0:Int))))
def jk.c10s:Shape:=⟨[(0,fg0),(1,fg1),(2,fg2),(4,fg1),(5,fg3),(6,fg4),(7,fg5),(8,fg9),(9,fg10),(11,fg11),(13,fg12)],[(2,fg6),(5,fg7),(6,fg8),(7,fg7),(8,fg13),(9,fg13),(10,fg7),(11,fg13),(12,fg7),(13,fg13),(14,fg7)]⟩
def jk.c10x0:Shape:=⟨[(0,fg0),(1,fg1),(2,fg2),(4,fg1),(5,fg3),(6,fg4),(7,fg5),(8,fg9),(9,fg10),(11,fg11),(13,fg12),(72,fg14)],[(2,fg6),(5,fg7),(6,fg8),(7,fg7),(8,fg13),(9,fg13),(10,fg7),(11,fg13),(12,fg7),(13,fg13),(14,fg7)]⟩
def jk.c10r:Ck:=Ck.of (T:=Bool) jk.c10s (fun ρ X Z=>jk.c10 (q8 X).2.2.1 (q8 X).2.2.2.1 (q4 (q8 X)).1 (q4 (q8 X)).2.1 (q4 (q8 X)).2.2.1 (q4 (q8 X)).2.2.2.1 (q8 (q8 X)).1 (q8 (q8 X)).2.1 (q4 (q8 (q8 X))).1 (q4 (q8 (q8 X))).2.1 (q4 (q8 (q8 X))).2.2.1 (q4 (q8 (q8 X))).2.2.2.1 Z) (fun ρ X V Z=>Z 0 (Shape.inj jk.c10x0 (X.1,X.2.1,X.2.2.1,V,X.2.2.2)))
def jk.c14 (c0:Int)(c1:List (List UInt8))(l0:List YP)(Z:(List YP)×(List (List (Int×Int)))→Option ρ):Option ρ:=
 bnd (Jx (c0,c1) l0) fun y=>
 bnd (JB l0) fun y1=>
 Z (y,y1.1)
def jk.c14x0:Shape:=⟨[(0,fg0),(1,fg1),(2,fg2),(4,fg1),(5,fg3),(6,fg4),(7,fg5),(8,fg9),(9,fg10),(11,fg11),(13,fg12),(15,fg15),(16,fg16)],[(2,fg6),(5,fg7),(6,fg8),(7,fg7),(8,fg13),(9,fg13),(10,fg7),(11,fg13),(12,fg7),(13,fg13),(14,fg7),(15,fg8),(16,fg17),(82,fg18)]⟩
def jk.c14r:Ck:=Ck.of (T:=(List YP)×(List (List (Int×Int)))) jk.c10s (fun ρ X Z=>jk.c14 X.2.2.2.1 (q4 X).1 (q4 X).2.2.2.1 Z) (fun ρ X V Z=>uP X fun c X=>uP X fun t X=>uP X fun t4 X=>uP X fun c0 X=>uP X fun c1 X=>uP X fun t50 X=>uP X fun t51 X=>uP X fun l0 X=>uP X fun f0 X=>uP X fun f1 X=>uP X fun chance0 X=>uP X fun chance1 X=>uP X fun chance2 X=>uP X fun chance3 X=>uP X fun third0 X=>uP X fun third1 X=>uP X fun third2 X=>uP X fun third3 X=>uP X fun t100 X=>uP X fun t101 X=>uP X fun nought0 X=>uP X fun nought1 X=>uP X fun nought2 X=>uP X fun nought3 X=>uP X fun t120 X=>uP X fun t121 X=>uP X fun one0 X=>uP X fun one1 X=>uP X fun one2 X=>uP X fun one3 X=>uP X fun t140 X=>uP X fun t141 X=>Z 0 (Shape.inj jk.c14x0 (c,t,t4,c0,c1,t50,t51,l0,f0,f1,chance0,chance1,chance2,chance3,third0,third1,third2,third3,t100,t101,nought0,nought1,nought2,nought3,t120,t121,one0,one1,one2,one3,t140,t141,V.1,V.2,())))
def jk.c18 (chance0:Bool)(chance1:List Int)(chance2:Bool)(chance3:List Int)(one0:Bool)(one1:List Int)(one2:Bool)(one3:List Int)(three0:Bool)(three1:List Int)(three2:Bool)(three3:List Int)(Z:Bool×(List Int)×YD→Option ρ):Option ρ:=
 bnd (whole_Frac_Mul ((three0,three1),three2,three3) ((chance0,chance1),chance2,chance3)) fun y=>
 bnd (whole_Frac_Sub ((one0,one1),one2,one3) y) fun y1=>
 Z (y1.1.1,y1.1.2,y1.2.1,y1.2.2)
def jk.c18s:Shape:=⟨[(0,fg0),(1,fg1),(2,fg2),(4,fg1),(5,fg3),(6,fg4),(7,fg5),(8,fg9),(9,fg10),(11,fg11),(13,fg12),(15,fg15),(16,fg16),(17,fg19),(18,fg20)],[(2,fg6),(5,fg7),(6,fg8),(7,fg7),(8,fg13),(9,fg13),(10,fg7),(11,fg13),(12,fg7),(13,fg13),(14,fg7),(15,fg8),(16,fg17),(17,fg21),(18,fg13),(19,fg7),(82,fg18),(86,fg22),(89,fg23),(1017,fg22)]⟩
def jk.c18x0:Shape:=⟨[(0,fg0),(1,fg1),(2,fg2),(4,fg1),(5,fg3),(6,fg4),(7,fg5),(8,fg9),(9,fg10),(11,fg11),(13,fg12),(15,fg15),(16,fg16),(17,fg19),(18,fg20),(20,fg24)],[(2,fg6),(5,fg7),(6,fg8),(7,fg7),(8,fg13),(9,fg13),(10,fg7),(11,fg13),(12,fg7),(13,fg13),(14,fg7),(15,fg8),(16,fg17),(17,fg21),(18,fg13),(19,fg7),(20,fg13),(82,fg18),(86,fg22),(89,fg23),(1017,fg22)]⟩
def jk.c18r:Ck:=Ck.of (T:=Bool×(List Int)×YD) jk.c18s (fun ρ X Z=>jk.c18 (q8 X).2.2.1 (q8 X).2.2.2.1 (q4 (q8 X)).1 (q4 (q8 X)).2.1 (q8 (q8 (q8 X))).2.2.1 (q8 (q8 (q8 X))).2.2.2.1 (q4 (q8 (q8 (q8 X)))).1 (q4 (q8 (q8 (q8 X)))).2.1 (q8 (q8 (q8 (q8 X)))).2.1 (q8 (q8 (q8 (q8 X)))).2.2.1 (q8 (q8 (q8 (q8 X)))).2.2.2.1 (q4 (q8 (q8 (q8 (q8 X))))).1 Z) (fun ρ X V Z=>uP X fun c X=>uP X fun t X=>uP X fun t4 X=>uP X fun c0 X=>uP X fun c1 X=>uP X fun t50 X=>uP X fun t51 X=>uP X fun l0 X=>uP X fun f0 X=>uP X fun f1 X=>uP X fun chance0 X=>uP X fun chance1 X=>uP X fun chance2 X=>uP X fun chance3 X=>uP X fun third0 X=>uP X fun third1 X=>uP X fun third2 X=>uP X fun third3 X=>uP X fun t100 X=>uP X fun t101 X=>uP X fun nought0 X=>uP X fun nought1 X=>uP X fun nought2 X=>uP X fun nought3 X=>uP X fun t120 X=>uP X fun t121 X=>uP X fun one0 X=>uP X fun one1 X=>uP X fun one2 X=>uP X fun one3 X=>uP X fun t140 X=>uP X fun t141 X=>uP X fun best0 X=>uP X fun three0 X=>uP X fun three1 X=>uP X fun three2 X=>uP X fun three3 X=>uP X fun t190 X=>uP X fun t191 X=>uP X fun t82 X=>uP X fun t86 X=>uP X fun ua X=>Z 0 (Shape.inj jk.c18x0 (c,t,t4,c0,c1,t50,t51,l0,f0,f1,chance0,chance1,chance2,chance3,third0,third1,third2,third3,t100,t101,nought0,nought1,nought2,nought3,t120,t121,one0,one1,one2,one3,t140,t141,best0,three0,three1,three2,three3,t190,t191,V.1,V.2.1,V.2.2.1,V.2.2.2,t82,t86,ua,())))
def jk.cM_ (w:Int)(t119:Int)(chance0:Bool)(chance1:List Int)(chance2:Bool)(chance3:List Int)(well0:Bool)(well1:List Int)(well2:Bool)(well3:List Int)(term0:Bool)(term1:List Int)(term2:Bool)(term3:List Int)(Z:Bool×(List Int)×YD→Option ρ):Option ρ:=
 br (decide (t119<w))
 (bnd (whole_Frac_Mul ((term0,term1),term2,term3) ((chance0,chance1),chance2,chance3)) fun y=>
 Z (y.1.1,y.1.2,y.2.1,y.2.2))
 (bnd (whole_Frac_Mul ((term0,term1),term2,term3) ((well0,well1),well2,well3)) fun y1=>
 Z (y1.1.1,y1.1.2,y1.2.1,y1.2.2))
def jk.cM_s:Shape:=⟨[(0,fg0),(1,fg1),(2,fg2),(4,fg1),(5,fg3),(6,fg4),(7,fg5),(8,fg9),(9,fg10),(11,fg11),(13,fg12),(15,fg15),(16,fg16),(17,fg19),(18,fg20),(20,fg24),(21,fg25),(22,fg26),(23,fg26),(24,fg27),(103,fg28),(104,fg26),(105,fg26),(118,fg26),(119,fg26)],[(2,fg6),(5,fg7),(6,fg8),(7,fg7),(8,fg13),(9,fg13),(10,fg7),(11,fg13),(12,fg7),(13,fg13),(14,fg7),(15,fg8),(16,fg17),(17,fg21),(18,fg13),(19,fg7),(20,fg13),(21,fg13),(24,fg13),(25,fg7),(82,fg18),(86,fg22),(89,fg23),(1017,fg22)]⟩
def jk.cM_r:Ck:=Ck.of (T:=Bool×(List Int)×YD) jk.cM_s (fun ρ X Z=>jk.cM_ X.2.2.2.1 (q8 X).1 (q8 (q8 X)).1 (q8 (q8 X)).2.1 (q8 (q8 X)).2.2.1 (q8 (q8 X)).2.2.2.1 (q4 (q8 (q8 (q8 (q8 (q8 X)))))).2.1 (q4 (q8 (q8 (q8 (q8 (q8 X)))))).2.2.1 (q4 (q8 (q8 (q8 (q8 (q8 X)))))).2.2.2.1 (q8 (q8 (q8 (q8 (q8 (q8 X)))))).1 (q4 (q8 (q8 (q8 (q8 (q8 (q8 X))))))).2.1 (q4 (q8 (q8 (q8 (q8 (q8 (q8 X))))))).2.2.1 (q4 (q8 (q8 (q8 (q8 (q8 (q8 X))))))).2.2.2.1 (q8 (q8 (q8 (q8 (q8 (q8 (q8 X))))))).1 Z) (fun ρ X V Z=>uP X fun c X=>uP X fun t X=>uP X fun t4 X=>uP X fun w X=>uP X fun n X=>uP X fun t104 X=>uP X fun t105 X=>uP X fun t118 X=>uP X fun t119 X=>uP X fun c0 X=>uP X fun c1 X=>uP X fun t50 X=>uP X fun t51 X=>uP X fun l0 X=>uP X fun f0 X=>uP X fun f1 X=>uP X fun chance0 X=>uP X fun chance1 X=>uP X fun chance2 X=>uP X fun chance3 X=>uP X fun third0 X=>uP X fun third1 X=>uP X fun third2 X=>uP X fun third3 X=>uP X fun t100 X=>uP X fun t101 X=>uP X fun nought0 X=>uP X fun nought1 X=>uP X fun nought2 X=>uP X fun nought3 X=>uP X fun t120 X=>uP X fun t121 X=>uP X fun one0 X=>uP X fun one1 X=>uP X fun one2 X=>uP X fun one3 X=>uP X fun t140 X=>uP X fun t141 X=>uP X fun best0 X=>uP X fun three0 X=>uP X fun three1 X=>uP X fun three2 X=>uP X fun three3 X=>uP X fun t190 X=>uP X fun t191 X=>uP X fun well0 X=>uP X fun well1 X=>uP X fun well2 X=>uP X fun well3 X=>uP X fun sum0 X=>uP X fun sum1 X=>uP X fun sum2 X=>uP X fun sum3 X=>uP X fun term0 X=>uP X fun term1 X=>uP X fun term2 X=>uP X fun term3 X=>uP X fun t250 X=>uP X fun t251 X=>uP X fun t82 X=>uP X fun t86 X=>uP X fun ua X=>Z 0 (Shape.inj jk.cM_s (c,t,t4,w,n,t104,t105,t118,t119,c0,c1,t50,t51,l0,f0,f1,chance0,chance1,chance2,chance3,third0,third1,third2,third3,t100,t101,nought0,nought1,nought2,nought3,t120,t121,one0,one1,one2,one3,t140,t141,best0,three0,three1,three2,three3,t190,t191,well0,well1,well2,well3,sum0,sum1,sum2,sum3,V.1,V.2.1,V.2.2.1,V.2.2.2,t250,t251,t82,t86,ua,())))
def jk.cI_ (w:Int)(t118:Int)(t119:Int)(chance0:Bool)(chance1:List Int)(chance2:Bool)(chance3:List Int)(well0:Bool)(well1:List Int)(well2:Bool)(well3:List Int)(term0:Bool)(term1:List Int)(term2:Bool)(term3:List Int)(Z:(Int×Bool×(List Int)×YD)⊕(Int×Bool×(List Int)×YD)→Option ρ):Option ρ:=
 br (decide (t119<t118))
 (bnd (jk.cM_ w t119 chance0 chance1 chance2 chance3 well0 well1 well2 well3 term0 term1 term2 term3 some) fun y=>
 Z (.inl ((IntKind.i64.wrap (t119+(1:Int))),y.1,y.2.1,y.2.2.1,y.2.2.2)))
 (Z (.inr (t119,term0,term1,term2,term3)))
def jk.cI_r:Ck:=Ck.ofLoop (S:=Int×Bool×(List Int)×YD) (T:=Int×Bool×(List Int)×YD) jk.cM_s (fun X=>((q8 X).1,(q4 (q8 (q8 (q8 (q8 (q8 (q8 X))))))).2.1,(q4 (q8 (q8 (q8 (q8 (q8 (q8 X))))))).2.2.1,(q4 (q8 (q8 (q8 (q8 (q8 (q8 X))))))).2.2.2.1,(q8 (q8 (q8 (q8 (q8 (q8 (q8 X))))))).1)) (fun ρ X Q Z=>jk.cI_ X.2.2.2.1 (q4 X).2.2.2.1 Q.1 (q8 (q8 X)).1 (q8 (q8 X)).2.1 (q8 (q8 X)).2.2.1 (q8 (q8 X)).2.2.2.1 (q4 (q8 (q8 (q8 (q8 (q8 X)))))).2.1 (q4 (q8 (q8 (q8 (q8 (q8 X)))))).2.2.1 (q4 (q8 (q8 (q8 (q8 (q8 X)))))).2.2.2.1 (q8 (q8 (q8 (q8 (q8 (q8 X)))))).1 Q.2.1 Q.2.2.1 Q.2.2.2.1 Q.2.2.2.2 Z) (fun ρ X V Z=>uP X fun c X=>uP X fun t X=>uP X fun t4 X=>uP X fun w X=>uP X fun n X=>uP X fun t104 X=>uP X fun t105 X=>uP X fun t118 X=>uP X fun t119 X=>uP X fun c0 X=>uP X fun c1 X=>uP X fun t50 X=>uP X fun t51 X=>uP X fun l0 X=>uP X fun f0 X=>uP X fun f1 X=>uP X fun chance0 X=>uP X fun chance1 X=>uP X fun chance2 X=>uP X fun chance3 X=>uP X fun third0 X=>uP X fun third1 X=>uP X fun third2 X=>uP X fun third3 X=>uP X fun t100 X=>uP X fun t101 X=>uP X fun nought0 X=>uP X fun nought1 X=>uP X fun nought2 X=>uP X fun nought3 X=>uP X fun t120 X=>uP X fun t121 X=>uP X fun one0 X=>uP X fun one1 X=>uP X fun one2 X=>uP X fun one3 X=>uP X fun t140 X=>uP X fun t141 X=>uP X fun best0 X=>uP X fun three0 X=>uP X fun three1 X=>uP X fun three2 X=>uP X fun three3 X=>uP X fun t190 X=>uP X fun t191 X=>uP X fun well0 X=>uP X fun well1 X=>uP X fun well2 X=>uP X fun well3 X=>uP X fun sum0 X=>uP X fun sum1 X=>uP X fun sum2 X=>uP X fun sum3 X=>uP X fun term0 X=>uP X fun term1 X=>uP X fun term2 X=>uP X fun term3 X=>uP X fun t250 X=>uP X fun t251 X=>uP X fun t82 X=>uP X fun t86 X=>uP X fun ua X=>Z 4 (Shape.inj jk.cM_s (c,t,t4,w,n,t104,t105,t118,V.1,c0,c1,t50,t51,l0,f0,f1,chance0,chance1,chance2,chance3,third0,third1,third2,third3,t100,t101,nought0,nought1,nought2,nought3,t120,t121,one0,one1,one2,one3,t140,t141,best0,three0,three1,three2,three3,t190,t191,well0,well1,well2,well3,sum0,sum1,sum2,sum3,V.2.1,V.2.2.1,V.2.2.2.1,V.2.2.2.2,t250,t251,t82,t86,ua,())))
def jk.cE_ (t104:Int)(t105:Int)(c0:Int)(chance0:Bool)(chance1:List Int)(chance2:Bool)(chance3:List Int)(well0:Bool)(well1:List Int)(well2:Bool)(well3:List Int)(sum0:Bool)(sum1:List Int)(sum2:Bool)(sum3:List Int)(t86:List Int)(Z:(Int×Bool×(List Int)×YD)⊕(Int×Bool×(List Int)×YD)→Option ρ):Option ρ:=
 br (decide (t105<t104))
 (bnd (inR (List.length t86) t105) fun y=>
 bnd (idx t86 t105) fun y1=>
 bnd (whole_Of y1) fun y2=>
 bnd (whole_Of (1:Int)) fun y3=>
 bnd (whole_Over y2 y3) fun y4=>
 bnd (iter (fun s↦jk.cI_ t105 c0 s.1 chance0 chance1 chance2 chance3 well0 well1 well2 well3 s.2.1 s.2.2.1 s.2.2.2.1 s.2.2.2.2 some) ((0:Int),y4.1.1.1,y4.1.1.2,y4.1.2.1,y4.1.2.2)) fun y5=>
 bnd (whole_Frac_Add ((sum0,sum1),sum2,sum3) ((y5.2.1,y5.2.2.1),y5.2.2.2.1,y5.2.2.2.2)) fun y6=>
 Z (.inl ((IntKind.i64.wrap (t105+(1:Int))),y6.1.1,y6.1.2,y6.2.1,y6.2.2)))
 (Z (.inr (t105,sum0,sum1,sum2,sum3)))
def jk.cE_s:Shape:=⟨[(0,fg0),(1,fg1),(2,fg2),(4,fg1),(5,fg3),(6,fg4),(7,fg5),(8,fg9),(9,fg10),(11,fg11),(13,fg12),(15,fg15),(16,fg16),(17,fg19),(18,fg20),(20,fg24),(21,fg25),(103,fg28),(104,fg26),(105,fg26)],[(2,fg6),(5,fg7),(6,fg8),(7,fg7),(8,fg13),(9,fg13),(10,fg7),(11,fg13),(12,fg7),(13,fg13),(14,fg7),(15,fg8),(16,fg17),(17,fg21),(18,fg13),(19,fg7),(20,fg13),(21,fg13),(82,fg18),(86,fg22),(89,fg23),(1017,fg22)]⟩
def jk.cE_r:Ck:=Ck.ofLoop (S:=Int×Bool×(List Int)×YD) (T:=Int×Bool×(List Int)×YD) jk.cE_s (fun X=>((q4 X).1,(q4 (q8 (q8 (q8 (q8 (q8 X)))))).2.1,(q4 (q8 (q8 (q8 (q8 (q8 X)))))).2.2.1,(q4 (q8 (q8 (q8 (q8 (q8 X)))))).2.2.2.1,(q8 (q8 (q8 (q8 (q8 (q8 X)))))).1)) (fun ρ X Q Z=>jk.cE_ X.2.2.2.1 Q.1 (q4 X).2.1 (q4 (q8 X)).1 (q4 (q8 X)).2.1 (q4 (q8 X)).2.2.1 (q4 (q8 X)).2.2.2.1 (q8 (q8 (q8 (q8 (q8 X))))).2.1 (q8 (q8 (q8 (q8 (q8 X))))).2.2.1 (q8 (q8 (q8 (q8 (q8 X))))).2.2.2.1 (q4 (q8 (q8 (q8 (q8 (q8 X)))))).1 Q.2.1 Q.2.2.1 Q.2.2.2.1 Q.2.2.2.2 (q8 (q8 (q8 (q8 (q8 (q8 X)))))).2.2.1 Z) (fun ρ X V Z=>uP X fun c X=>uP X fun t X=>uP X fun t4 X=>uP X fun t104 X=>uP X fun t105 X=>uP X fun c0 X=>uP X fun c1 X=>uP X fun t50 X=>uP X fun t51 X=>uP X fun l0 X=>uP X fun f0 X=>uP X fun f1 X=>uP X fun chance0 X=>uP X fun chance1 X=>uP X fun chance2 X=>uP X fun chance3 X=>uP X fun third0 X=>uP X fun third1 X=>uP X fun third2 X=>uP X fun third3 X=>uP X fun t100 X=>uP X fun t101 X=>uP X fun nought0 X=>uP X fun nought1 X=>uP X fun nought2 X=>uP X fun nought3 X=>uP X fun t120 X=>uP X fun t121 X=>uP X fun one0 X=>uP X fun one1 X=>uP X fun one2 X=>uP X fun one3 X=>uP X fun t140 X=>uP X fun t141 X=>uP X fun best0 X=>uP X fun three0 X=>uP X fun three1 X=>uP X fun three2 X=>uP X fun three3 X=>uP X fun t190 X=>uP X fun t191 X=>uP X fun well0 X=>uP X fun well1 X=>uP X fun well2 X=>uP X fun well3 X=>uP X fun sum0 X=>uP X fun sum1 X=>uP X fun sum2 X=>uP X fun sum3 X=>uP X fun t82 X=>uP X fun t86 X=>uP X fun ua X=>Z 2 (Shape.inj jk.cE_s (c,t,t4,t104,V.1,c0,c1,t50,t51,l0,f0,f1,chance0,chance1,chance2,chance3,third0,third1,third2,third3,t100,t101,nought0,nought1,nought2,nought3,t120,t121,one0,one1,one2,one3,t140,t141,best0,three0,three1,three2,three3,t190,t191,well0,well1,well2,well3,V.2.1,V.2.2.1,V.2.2.2.1,V.2.2.2.2,t82,t86,ua,())))
def jk (c:Int×(List (List UInt8))) (t:List UInt8):Option ((List UInt8)×(Int×Int)):=
 bnd (jo (c.1,c.2)) fun y=>
 br (y.2.1 !=(0:Int))
 (bnd (jk.c3 some) fun y1=>
 some (Array.toList (ByteArray.data (ByteArray.mk #[])),y.2.1,y.2.2))
 (bnd (whole_ParseFrac t) fun y2=>
 br (y2.2.1 !=(0:Int))
 (some (Array.toList (ByteArray.data (ByteArray.mk #[])),(1:Int),(0:Int)))
 (bnd (whole_Of (1:Int)) fun y3=>
 bnd (whole_Of (3:Int)) fun y4=>
 bnd (whole_Over y3 y4) fun y5=>
 bnd (whole_Of (0:Int)) fun y6=>
 bnd (whole_Of (1:Int)) fun y7=>
 bnd (whole_Over y6 y7) fun y8=>
 bnd (whole_Of (1:Int)) fun y9=>
 bnd (whole_Of (1:Int)) fun y10=>
 bnd (whole_Over y9 y10) fun y11=>
 bnd (jk.c10 y2.1.1.1 y2.1.1.2 y2.1.2.1 y2.1.2.2 y5.1.1.1 y5.1.1.2 y5.1.2.1 y5.1.2.2 y8.1.1.1 y8.1.1.2 y8.1.2.1 y8.1.2.2 some) fun y12=>
 br y12
 (some (Array.toList (ByteArray.data (ByteArray.mk #[])),(29:Int),(0:Int)))
 (br (decide (c.1>(6:Int)))
 (some (Array.toList (ByteArray.data (ByteArray.mk #[])),(21:Int),(0:Int)))
 (bnd (jk.c14 c.1 c.2 y.1 some) fun y13=>
 bnd (okIf (decide ((0:Int)≤IntKind.i64.wrap (c.1+(1:Int)))&&decide (IntKind.i64.wrap (c.1+(1:Int))≤IntKind.i64.wrap (c.1+(1:Int)))&&decide (IntKind.i64.wrap (c.1+(1:Int))*(↑(8:Nat):Int)≤(140737488355328:Int))&&decide (IntKind.i64.wrap (c.1+(1:Int))≤(140737488355328:Int)))) fun y14=>
 bnd (Ju c.1 y13.1 y.1 y13.2 (List.replicate (Int.toNat (IntKind.i64.wrap (c.1+(1:Int)))) (0:Int))) fun y15=>
 bnd (whole_Of (3:Int)) fun y16=>
 bnd (whole_Of (1:Int)) fun y17=>
 bnd (whole_Over y16 y17) fun y18=>
 bnd (jk.c18 y2.1.1.1 y2.1.1.2 y2.1.2.1 y2.1.2.2 y11.1.1.1 y11.1.1.2 y11.1.2.1 y11.1.2.2 y18.1.1.1 y18.1.1.2 y18.1.2.1 y18.1.2.2 some) fun y19=>
 bnd (iter (fun s↦jk.cE_ (↑(List.length y15.2.2.2.1):Int) s.1 c.1 y2.1.1.1 y2.1.1.2 y2.1.2.1 y2.1.2.2 y19.1 y19.2.1 y19.2.2.1 y19.2.2.2 s.2.1 s.2.2.1 s.2.2.2.1 s.2.2.2.2 y15.2.2.2.1 some) ((0:Int),y8.1.1.1,y8.1.1.2,y8.1.2.1,y8.1.2.2)) fun y20=>
 bnd (whole_Frac_Text ((y20.2.1,y20.2.2.1),y20.2.2.2.1,y20.2.2.2.2)) fun y21=>
 some (y21,(0:Int),(0:Int))))))
def jk.ce:Go.Ql.Callee:=⟨[(.st (.pair (.int .i64) (.sl .str))),.str],[.str,(.st (.pair (.int .i64) (.int .i64)))],fun X=>jk X.1 X.2⟩
def jk.G:Env:=⟨139,tab,[(14,jo.ce),(15,whole_ParseFrac.ce),(17,whole_Of.ce),(16,whole_Over.ce),(18,whole_Frac_Cmp.ce),(19,Jx.ce),(29,whole_Frac_Mul.ce),(28,whole_Frac_Sub.ce),(30,whole_Frac_Add.ce),(31,whole_Frac_Text.ce)],[0,1,2,4,5,6,7,8,9,11,13,15,16,17,18,20,21,22,23,24,26,34,43,72,76,103,104,105,106,118,119,120,124],[16,17,82,86,1017],[(18,[⟨[],[],[98,99,100,20],[20]⟩,⟨[],[],[97,99,20],[20]⟩,⟨[],[],[97,98,20],[20]⟩,⟨[1,2],[],[97,20],[20]⟩,⟨[0,3,1,2],[],[20],[20]⟩,⟨[],[20],[97,98,99,100,101],[]⟩,⟨[5,4,0,3,1,2],[20],[],[]⟩]),
 (14,[⟨[],[],[79,81,15,16],[15,16]⟩,⟨[],[],[78,81,15,16],[15,16]⟩,⟨[0,1],[],[81,15,16],[15,16]⟩,⟨[],[],[78,79,80,15,16],[15,16]⟩,⟨[3,2,0,1],[82],[15,16],[15,16]⟩,⟨[],[15],[78,79,80,81,82,16],[82,16]⟩,⟨[],[16],[78,79,80,81,82,15],[82,15]⟩,⟨[5,2,0,1,4,3,6],[15],[],[]⟩,⟨[6,4,3,2,0,1,7,5],[16],[],[]⟩]),
 (3,[⟨[],[],[4],[]⟩,⟨[],[],[35],[]⟩,⟨[0,1],[5],[],[]⟩])],[(100021,jk.cE_r),(100025,jk.cI_r),(306504,jk.cM_r),(18,jk.c18r),(14,jk.c14r),(10,jk.c10r),(3,jk.c3r)],[(20,JB.mc),(21,Ju.mc)],jy⟩
theorem jk.p0:PcA jk.G Tryz.f4 0:=
 js (s:=jk.c3r) (by kernel_rfl) (by kernel_rfl) (jq (sh:=jk.c3s) (fun ρ X Z=>jc) (fun ρ X t k=>(by kernel_rfl)) (fun X=>by kernel_rfl))
theorem jk.p1:PcA jk.G Tryz.f4 1:=
 js (s:=jk.c10r) (by kernel_rfl) (by kernel_rfl) (jq (sh:=jk.c10s) (fun ρ X Z=>(jb fun _=>(jl jc (jb fun _=>jc)))) (fun ρ X t k=>(by kernel_rfl)) (fun X=>by kernel_rfl))
theorem jk.p2:PcA jk.G Tryz.f4 2:=
 js (s:=jk.c14r) (by kernel_rfl) (by kernel_rfl) (jq (sh:=jk.c10s) (fun ρ X Z=>(jb fun _=>(jb fun _=>jc))) (fun ρ X t k=>(by kernel_rfl)) (fun X=>by kernel_rfl))
theorem jk.p3:PcA jk.G Tryz.f4 3:=
 js (s:=jk.c18r) (by kernel_rfl) (by kernel_rfl) (jq (sh:=jk.c18s) (fun ρ X Z=>(jb fun _=>(jb fun _=>jc))) (fun ρ X t k=>(by kernel_rfl)) (fun X=>by kernel_rfl))
theorem jk.p4:PcA jk.G Tryz.f4 4:=
 jW (s:=jk.cE_r) (by kernel_rfl) (by kernel_rfl) (jT (sh:=jk.cE_s) (I:=fun X Q=>(X.1,X.2.1,X.2.2.1,X.2.2.2.1,Q.1,(q4 X).2.1,(q4 X).2.2.1,(q4 X).2.2.2.1,(q8 X).1,(q8 X).2.1,(q8 X).2.2.1,(q8 X).2.2.2.1,(q4 (q8 X)).1,(q4 (q8 X)).2.1,(q4 (q8 X)).2.2.1,(q4 (q8 X)).2.2.2.1,(q8 (q8 X)).1,(q8 (q8 X)).2.1,(q8 (q8 X)).2.2.1,(q8 (q8 X)).2.2.2.1,(q4 (q8 (q8 X))).1,(q4 (q8 (q8 X))).2.1,(q4 (q8 (q8 X))).2.2.1,(q4 (q8 (q8 X))).2.2.2.1,(q8 (q8 (q8 X))).1,(q8 (q8 (q8 X))).2.1,(q8 (q8 (q8 X))).2.2.1,(q8 (q8 (q8 X))).2.2.2.1,(q4 (q8 (q8 (q8 X)))).1,(q4 (q8 (q8 (q8 X)))).2.1,(q4 (q8 (q8 (q8 X)))).2.2.1,(q4 (q8 (q8 (q8 X)))).2.2.2.1,(q8 (q8 (q8 (q8 X)))).1,(q8 (q8 (q8 (q8 X)))).2.1,(q8 (q8 (q8 (q8 X)))).2.2.1,(q8 (q8 (q8 (q8 X)))).2.2.2.1,(q4 (q8 (q8 (q8 (q8 X))))).1,(q4 (q8 (q8 (q8 (q8 X))))).2.1,(q4 (q8 (q8 (q8 (q8 X))))).2.2.1,(q4 (q8 (q8 (q8 (q8 X))))).2.2.2.1,(q8 (q8 (q8 (q8 (q8 X))))).1,(q8 (q8 (q8 (q8 (q8 X))))).2.1,(q8 (q8 (q8 (q8 (q8 X))))).2.2.1,(q8 (q8 (q8 (q8 (q8 X))))).2.2.2.1,(q4 (q8 (q8 (q8 (q8 (q8 X)))))).1,Q.2.1,Q.2.2.1,Q.2.2.2.1,Q.2.2.2.2,(q8 (q8 (q8 (q8 (q8 (q8 X)))))).2)) (fun X=>rfl) (fun ρ X Q Z=>(jl (jb fun _=>(jb fun _=>(jb fun _=>(jb fun _=>(jb fun _=>(jb fun _=>(jb fun _=>jc))))))) jc)) (fun ρ X t k=>(by kernel_rfl)) (fun X s=>by kernel_rfl))
theorem jk.p5:PcA jk.G Tryz.f4 5:=
 jW (s:=jk.cI_r) (by kernel_rfl) (by kernel_rfl) (jT (sh:=jk.cM_s) (I:=fun X Q=>(X.1,X.2.1,X.2.2.1,X.2.2.2.1,(q4 X).1,(q4 X).2.1,(q4 X).2.2.1,(q4 X).2.2.2.1,Q.1,(q8 X).2.1,(q8 X).2.2.1,(q8 X).2.2.2.1,(q4 (q8 X)).1,(q4 (q8 X)).2.1,(q4 (q8 X)).2.2.1,(q4 (q8 X)).2.2.2.1,(q8 (q8 X)).1,(q8 (q8 X)).2.1,(q8 (q8 X)).2.2.1,(q8 (q8 X)).2.2.2.1,(q4 (q8 (q8 X))).1,(q4 (q8 (q8 X))).2.1,(q4 (q8 (q8 X))).2.2.1,(q4 (q8 (q8 X))).2.2.2.1,(q8 (q8 (q8 X))).1,(q8 (q8 (q8 X))).2.1,(q8 (q8 (q8 X))).2.2.1,(q8 (q8 (q8 X))).2.2.2.1,(q4 (q8 (q8 (q8 X)))).1,(q4 (q8 (q8 (q8 X)))).2.1,(q4 (q8 (q8 (q8 X)))).2.2.1,(q4 (q8 (q8 (q8 X)))).2.2.2.1,(q8 (q8 (q8 (q8 X)))).1,(q8 (q8 (q8 (q8 X)))).2.1,(q8 (q8 (q8 (q8 X)))).2.2.1,(q8 (q8 (q8 (q8 X)))).2.2.2.1,(q4 (q8 (q8 (q8 (q8 X))))).1,(q4 (q8 (q8 (q8 (q8 X))))).2.1,(q4 (q8 (q8 (q8 (q8 X))))).2.2.1,(q4 (q8 (q8 (q8 (q8 X))))).2.2.2.1,(q8 (q8 (q8 (q8 (q8 X))))).1,(q8 (q8 (q8 (q8 (q8 X))))).2.1,(q8 (q8 (q8 (q8 (q8 X))))).2.2.1,(q8 (q8 (q8 (q8 (q8 X))))).2.2.2.1,(q4 (q8 (q8 (q8 (q8 (q8 X)))))).1,(q4 (q8 (q8 (q8 (q8 (q8 X)))))).2.1,(q4 (q8 (q8 (q8 (q8 (q8 X)))))).2.2.1,(q4 (q8 (q8 (q8 (q8 (q8 X)))))).2.2.2.1,(q8 (q8 (q8 (q8 (q8 (q8 X)))))).1,(q8 (q8 (q8 (q8 (q8 (q8 X)))))).2.1,(q8 (q8 (q8 (q8 (q8 (q8 X)))))).2.2.1,(q8 (q8 (q8 (q8 (q8 (q8 X)))))).2.2.2.1,(q4 (q8 (q8 (q8 (q8 (q8 (q8 X))))))).1,Q.2.1,Q.2.2.1,Q.2.2.2.1,Q.2.2.2.2,(q8 (q8 (q8 (q8 (q8 (q8 (q8 X))))))).2)) (fun X=>rfl) (fun ρ X Q Z=>(jl (jb fun _=>jc) jc)) (fun ρ X t k=>(by kernel_rfl)) (fun X s=>by kernel_rfl))
theorem jk.p6:PcA jk.G Tryz.f4 6:=
 JE (s:=jk.cM_r) (by kernel_rfl) (by kernel_rfl) (jq (sh:=jk.cM_s) (fun ρ X Z=>(jl (jb fun _=>jc) (jb fun _=>jc))) (fun ρ X t k=>(by kernel_rfl)) (fun X=>by kernel_rfl))
theorem jk.ok:CalleeOk Tryz.prog 4 jk.ce:=fn_ok (G:=jk.G) jG mixed Tryz.func4 ⟨(jj jo.ok (jj whole_ParseFrac.ok (jj whole_Of.ok (jj whole_Over.ok (jj whole_Frac_Cmp.ok (jj Jx.ok (jj whole_Frac_Mul.ok (jj whole_Frac_Sub.ok (jj whole_Frac_Add.ok (jj whole_Frac_Text.ok jz)))))))))),(kF JB.ok (kF Ju.ok jx)),jn⟩ (m:=7) (by kernel_rfl) ⟨⟨⟨⟨⟨⟨⟨trivial,jk.p0⟩,jk.p1⟩,jk.p2⟩,jk.p3⟩,jk.p4⟩,jk.p5⟩,jk.p6⟩ (by kernel_rfl) (fun _=>by kernel_rfl)
abbrev fg29:SD:=.one (.ref 10 0)
abbrev fg30:SO:=.box [.val .bool,.val (.sl (.int .i64)),.val .bool,.val (.sl (.int .i64))]
def jg.c5 (g0:Int)(h0:Int)(Z:Bool→Option ρ):Option ρ:=
 br (g0==(0:Int))
 (Z (h0 !=(0:Int)))
 (Z false)
def jg.c5s:Shape:=⟨[(0,fg0),(1,fg1),(2,fg2),(4,fg14),(5,fg1),(6,fg4),(7,fg5),(8,fg9),(9,fg10),(10,fg29)],[(2,fg6),(6,fg7),(7,fg7),(8,fg30),(9,fg7),(10,fg30)]⟩
def jg.c5x0:Shape:=⟨[(0,fg0),(1,fg1),(2,fg2),(4,fg14),(5,fg1),(6,fg4),(7,fg5),(8,fg9),(9,fg10),(10,fg29),(35,fg14)],[(2,fg6),(6,fg7),(7,fg7),(8,fg30),(9,fg7),(10,fg30)]⟩
def jg.c5r:Ck:=Ck.of (T:=Bool) jg.c5s (fun ρ X Z=>jg.c5 (q8 X).1 (q4 (q8 X)).2.2.1 Z) (fun ρ X V Z=>Z 0 (Shape.inj jg.c5x0 (X.1,X.2.1,X.2.2.1,X.2.2.2.1,V,(q4 X))))
def jg.cS_ (g0:Int)(g1:Int)(h0:Int)(Z:Int×Int→Option ρ):Option ρ:=
 bnd (jg.c5 g0 h0 some) fun y=>
 br y
 (Z ((1:Int),(0:Int)))
 (Z (g0,g1))
def jg.cS_r:Ck:=Ck.of (T:=Int×Int) jg.c5s (fun ρ X Z=>jg.cS_ (q8 X).1 (q8 X).2.1 (q4 (q8 X)).2.2.1 Z) (fun ρ X V Z=>Z 0 (Shape.inj jg.c5s (X.1,X.2.1,X.2.2.1,X.2.2.2.1,(q4 X).1,(q4 X).2.1,(q4 X).2.2.1,(q4 X).2.2.2.1,V.1,V.2,(q8 X).2.2)))
def jg.c7 (g0:Int)(chance0:Bool)(chance1:List Int)(chance2:Bool)(chance3:List Int)(third0:Bool)(third1:List Int)(third2:Bool)(third3:List Int)(Z:Bool→Option ρ):Option ρ:=
 br (g0==(0:Int))
 (bnd (Yc (chance0,chance1)) fun y=>
 br (decide (y<(0:Int)))
 (Z true)
 (bnd (kl ((chance0,chance1),chance2,chance3) ((third0,third1),third2,third3)) fun y1=>
 Z (decide (y1>(0:Int)))))
 (Z false)
def jg.c7x0:Shape:=⟨[(0,fg0),(1,fg1),(2,fg2),(4,fg14),(5,fg1),(6,fg4),(7,fg5),(8,fg9),(9,fg10),(10,fg29),(51,fg14)],[(2,fg6),(6,fg7),(7,fg7),(8,fg30),(9,fg7),(10,fg30)]⟩
def jg.c7r:Ck:=Ck.of (T:=Bool) jg.c5s (fun ρ X Z=>jg.c7 (q8 X).1 (q8 X).2.2.1 (q8 X).2.2.2.1 (q4 (q8 X)).1 (q4 (q8 X)).2.1 (q8 (q8 X)).1 (q8 (q8 X)).2.1 (q8 (q8 X)).2.2.1 (q8 (q8 X)).2.2.2.1 Z) (fun ρ X V Z=>Z 0 (Shape.inj jg.c7x0 (X.1,X.2.1,X.2.2.1,X.2.2.2.1,V,(q4 X))))
def jg.cm_ (g0:Int)(g1:Int)(chance0:Bool)(chance1:List Int)(chance2:Bool)(chance3:List Int)(third0:Bool)(third1:List Int)(third2:Bool)(third3:List Int)(Z:Int×Int→Option ρ):Option ρ:=
 bnd (jg.c7 g0 chance0 chance1 chance2 chance3 third0 third1 third2 third3 some) fun y=>
 br y
 (Z ((29:Int),(0:Int)))
 (Z (g0,g1))
def jg.cm_r:Ck:=Ck.of (T:=Int×Int) jg.c5s (fun ρ X Z=>jg.cm_ (q8 X).1 (q8 X).2.1 (q8 X).2.2.1 (q8 X).2.2.2.1 (q4 (q8 X)).1 (q4 (q8 X)).2.1 (q8 (q8 X)).1 (q8 (q8 X)).2.1 (q8 (q8 X)).2.2.1 (q8 (q8 X)).2.2.2.1 Z) (fun ρ X V Z=>Z 0 (Shape.inj jg.c5s (X.1,X.2.1,X.2.2.1,X.2.2.2.1,(q4 X).1,(q4 X).2.1,(q4 X).2.2.1,(q4 X).2.2.2.1,V.1,V.2,(q8 X).2.2)))
def jg.c9 (c0:Int)(g0:Int)(Z:Bool→Option ρ):Option ρ:=
 br (g0==(0:Int))
 (Z (decide (c0>(6:Int))))
 (Z false)
def jg.c9x0:Shape:=⟨[(0,fg0),(1,fg1),(2,fg2),(4,fg14),(5,fg1),(6,fg4),(7,fg5),(8,fg9),(9,fg10),(10,fg29),(60,fg14)],[(2,fg6),(6,fg7),(7,fg7),(8,fg30),(9,fg7),(10,fg30)]⟩
def jg.c9r:Ck:=Ck.of (T:=Bool) jg.c5s (fun ρ X Z=>jg.c9 (q4 X).1 (q8 X).1 Z) (fun ρ X V Z=>Z 0 (Shape.inj jg.c9x0 (X.1,X.2.1,X.2.2.1,X.2.2.2.1,V,(q4 X))))
def jg.cw_ (c0:Int)(g0:Int)(g1:Int)(Z:Int×Int→Option ρ):Option ρ:=
 bnd (jg.c9 c0 g0 some) fun y=>
 br y
 (Z ((21:Int),(0:Int)))
 (Z (g0,g1))
def jg.cw_r:Ck:=Ck.of (T:=Int×Int) jg.c5s (fun ρ X Z=>jg.cw_ (q4 X).1 (q8 X).1 (q8 X).2.1 Z) (fun ρ X V Z=>Z 0 (Shape.inj jg.c5s (X.1,X.2.1,X.2.2.1,X.2.2.2.1,(q4 X).1,(q4 X).2.1,(q4 X).2.2.1,(q4 X).2.2.2.1,V.1,V.2,(q8 X).2.2)))
def jg.c11 (f0:Int)(f1:Int)(g0:Int)(g1:Int)(Z:Bool→Option ρ):Option ρ:=
 bnd Jm fun y=>
 br (!y)
 (Z true)
 (Z (!Ty.eqT (Ty.pair (Ty.int IntKind.i64) (Ty.int IntKind.i64)) (f0,f1) (g0,g1)))
def jg.c11x0:Shape:=⟨[(0,fg0),(1,fg1),(2,fg2),(4,fg14),(5,fg1),(6,fg4),(7,fg5),(8,fg9),(9,fg10),(10,fg29),(68,fg14)],[(2,fg6),(6,fg7),(7,fg7),(8,fg30),(9,fg7),(10,fg30)]⟩
def jg.c11r:Ck:=Ck.of (T:=Bool) jg.c5s (fun ρ X Z=>jg.c11 (q4 X).2.2.1 (q4 X).2.2.2.1 (q8 X).1 (q8 X).2.1 Z) (fun ρ X V Z=>Z 0 (Shape.inj jg.c11x0 (X.1,X.2.1,X.2.2.1,X.2.2.2.1,V,(q4 X))))
def jg.c15 (text:List UInt8)(c0:Int)(c1:List (List UInt8))(chance0:Bool)(chance1:List Int)(chance2:Bool)(chance3:List Int)(Z:Bool→Option ρ):Option ρ:=
 br (decide (c0>(4:Int)))
 (Z true)
 (bnd (jm (c0,c1) ((chance0,chance1),chance2,chance3)) fun y=>
 bnd (JO y) fun y1=>
 Z (text==y1))
def jg.c15r:Ck:=Ck.of (T:=Bool) jg.c5s (fun ρ X Z=>jg.c15 X.2.2.2.1 (q4 X).1 (q4 X).2.1 (q8 X).2.2.1 (q8 X).2.2.2.1 (q4 (q8 X)).1 (q4 (q8 X)).2.1 Z) (fun ρ X V Z=>Z 0 (Shape.inj jg.c5s (X.1,X.2.1,V,X.2.2.2)))
def jg (c:Int×(List (List UInt8))) (t:List UInt8):Option Bool:=
 bnd (Jr (c.1,c.2)) fun y=>
 bnd (jk y t) fun y1=>
 bnd (jd (c.1,c.2)) fun y2=>
 bnd (jw t) fun y3=>
 bnd (Jt (1:Int)) fun y4=>
 bnd (Jt (3:Int)) fun y5=>
 bnd (jg.cS_ y2.1 y2.2 y3.2.1 some) fun y6=>
 bnd (jg.cm_ y6.1 y6.2 y3.1.1.1 y3.1.1.2 y3.1.2.1 y3.1.2.2 y4.1 y4.2 y5.1 y5.2 some) fun y7=>
 bnd (jg.cw_ c.1 y7.1 y7.2 some) fun y8=>
 bnd (jg.c11 y1.2.1 y1.2.2 y8.1 y8.2 some) fun y9=>
 br y9
 (some false)
 (br (y8.1 !=(0:Int))
 (some (y1.1==Array.toList (ByteArray.data (ByteArray.mk #[]))))
 (bnd (jg.c15 y1.1 c.1 c.2 y3.1.1.1 y3.1.1.2 y3.1.2.1 y3.1.2.2 some) fun y10=>
 some y10))
def jg.ce:Go.Ql.Callee:=⟨[(.st (.pair (.int .i64) (.sl .str))),.str],[.bool],fun X=>jg X.1 X.2⟩
def jg.G:Env:=⟨85,tab,[(5,Jr.ce),(4,jk.ce),(6,jd.ce),(7,jw.ce),(8,Jt.ce),(9,Yc.ce),(10,kl.ce),(11,Jm.ce),(13,jm.ce),(12,JO.ce)],[0,1,2,4,5,6,7,8,9,10,35,51,60,68,71],[],[],[(15,jg.c15r),(11,jg.c11r),(236869,jg.cw_r),(9,jg.c9r),(228677,jg.cm_r),(7,jg.c7r),(220485,jg.cS_r),(5,jg.c5r)],[],jy⟩
theorem jg.p0:PcA jg.G Tryz.f3 0:=
 JE (s:=jg.cS_r) (by kernel_rfl) (by kernel_rfl) (jq (sh:=jg.c5s) (fun ρ X Z=>(jb fun _=>(jl jc jc))) (fun ρ X t k=>(by kernel_rfl)) (fun X=>by kernel_rfl))
theorem jg.p1:PcA jg.G Tryz.f3 1:=
 js (s:=jg.c5r) (by kernel_rfl) (by kernel_rfl) (jq (sh:=jg.c5s) (fun ρ X Z=>(jl jc jc)) (fun ρ X t k=>(by kernel_rfl)) (fun X=>by kernel_rfl))
theorem jg.p2:PcA jg.G Tryz.f3 2:=
 JE (s:=jg.cm_r) (by kernel_rfl) (by kernel_rfl) (jq (sh:=jg.c5s) (fun ρ X Z=>(jb fun _=>(jl jc jc))) (fun ρ X t k=>(by kernel_rfl)) (fun X=>by kernel_rfl))
theorem jg.p3:PcA jg.G Tryz.f3 3:=
 js (s:=jg.c7r) (by kernel_rfl) (by kernel_rfl) (jq (sh:=jg.c5s) (fun ρ X Z=>(jl (jb fun _=>(jl jc (jb fun _=>jc))) jc)) (fun ρ X t k=>(by kernel_rfl)) (fun X=>by kernel_rfl))
theorem jg.p4:PcA jg.G Tryz.f3 4:=
 JE (s:=jg.cw_r) (by kernel_rfl) (by kernel_rfl) (jq (sh:=jg.c5s) (fun ρ X Z=>(jb fun _=>(jl jc jc))) (fun ρ X t k=>(by kernel_rfl)) (fun X=>by kernel_rfl))
theorem jg.p5:PcA jg.G Tryz.f3 5:=
 js (s:=jg.c9r) (by kernel_rfl) (by kernel_rfl) (jq (sh:=jg.c5s) (fun ρ X Z=>(jl jc jc)) (fun ρ X t k=>(by kernel_rfl)) (fun X=>by kernel_rfl))
theorem jg.p6:PcA jg.G Tryz.f3 6:=
 js (s:=jg.c11r) (by kernel_rfl) (by kernel_rfl) (jq (sh:=jg.c5s) (fun ρ X Z=>(jb fun _=>(jl jc jc))) (fun ρ X t k=>(by kernel_rfl)) (fun X=>by kernel_rfl))
theorem jg.p7:PcA jg.G Tryz.f3 7:=
 js (s:=jg.c15r) (by kernel_rfl) (by kernel_rfl) (jq (sh:=jg.c5s) (fun ρ X Z=>(jl jc (jb fun _=>(jb fun _=>jc)))) (fun ρ X t k=>(by kernel_rfl)) (fun X=>by kernel_rfl))
theorem jg.ok:CalleeOk Tryz.prog 3 jg.ce:=fn_ok (G:=jg.G) jG mixed Tryz.func3 ⟨(jj Jr.ok (jj jk.ok (jj jd.ok (jj jw.ok (jj Jt.ok (jj Yc.ok (jj kl.ok (jj Jm.ok (jj jm.ok (jj JO.ok jz)))))))))),jx,jn⟩ (m:=8) (by kernel_rfl) ⟨⟨⟨⟨⟨⟨⟨⟨trivial,jg.p0⟩,jg.p1⟩,jg.p2⟩,jg.p3⟩,jg.p4⟩,jg.p5⟩,jg.p6⟩,jg.p7⟩ (by kernel_rfl) (fun _=>by kernel_rfl)
end
end W
end
