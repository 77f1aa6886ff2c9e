/- Lifted functions, part 2: each with its contract. -/
import Derived.Test.YtjlmpaffhddmdaaGreatDoorWa
import Derived.Test.YtjlmpaffhddmdaaGreatDoorProg
set_option linter.all false
section
set_option maxHeartbeats 4000000
set_option maxRecDepth 100000
namespace W
open Go Go.Ql Go.Proofs Go.IntKind
noncomputable section
variable {ρ:Type}
abbrev ob50:SD:=.one (.own 27 0)
abbrev ob51:SD:=.one (.own 52 0)
def whole_quotient.c2 (a:List (Int))(b:List (Int))(s:Int)(Z:(List Int)×(List Int)→Option ρ):Option ρ:=
  bnd (whole_left a s) fun y=>
  bnd (whole_left b s) fun y1=>
  bnd (okIf (decide ((0:Int)≤(b.length:Int))&&decide ((b.length:Int)≤(↑(List.length y1.1):Int)))) fun y2=>
  Z ((List.take (Int.toNat (b.length:Int)) y1.1),y.1)
def whole_quotient.c2s:Shape:=⟨[(0,ob1),(1,ob1),(4,ob1),(5,ob1),(6,ob3)],[]⟩
def whole_quotient.c2x0:Shape:=⟨[(0,ob1),(1,ob1),(4,ob1),(5,ob1),(6,ob3),(7,ob50),(8,ob1)],[(27,ob8)]⟩
def whole_quotient.c2r:Ck:=Ck.of (T:=(List Int)×(List Int)) whole_quotient.c2s (fun ρ X Z=>whole_quotient.c2 X.1 X.2.1 (q4 X).1 Z) (fun ρ X V Z=>Z 0 (Shape.inj whole_quotient.c2x0 (X.1,X.2.1,X.2.2.1,X.2.2.2.1,(q4 X).1,V.1,V.2,())))
def whole_quotient.c3 (v:List (Int))(Z:Int→Option ρ):Option ρ:=
  bnd (idx v (i64.wrap ((v.length:Int)-1))) fun y=>
  Z (IntKind.wrap IntKind.u64 y)
def whole_quotient.c3x0:Shape:=⟨[(0,ob1),(1,ob1),(4,ob1),(5,ob1),(6,ob3),(7,ob50),(8,ob1),(9,ob3),(10,ob6)],[(27,ob8)]⟩
def whole_quotient.c3r:Ck:=Ck.of (T:=Int) whole_quotient.c2x0 (fun ρ X Z=>whole_quotient.c3 (q4 X).2.1 Z) (fun ρ X V Z=>Z 0 (Shape.inj whole_quotient.c3x0 (X.1,X.2.1,X.2.2.1,X.2.2.2.1,(q4 X).1,(q4 X).2.1,(X.2.2.2.2.2.1.length:Int),V,(q4 X).2.2)))
def whole_quotient.c10 (n:Int)(j:Int)(t27:List (Int))(Z:Int→Option ρ):Option ρ:=
  bnd (inR (t27.length) (i64.wrap (j+n))) fun y=>
  bnd (idx t27 (i64.wrap (j+n))) fun y1=>
  bnd (inR (t27.length) (i64.wrap (i64.wrap (j+n)-1))) fun y2=>
  bnd (idx t27 (i64.wrap (i64.wrap (j+n)-1))) fun y3=>
  Z (ibits BinOp.or IntKind.u64 (u64.wrap (IntKind.wrap IntKind.u64 y1*2 ^32)) (IntKind.wrap IntKind.u64 y3))
def whole_quotient.c10s:Shape:=⟨[(0,ob1),(1,ob1),(4,ob1),(5,ob1),(6,ob3),(7,ob50),(8,ob1),(9,ob3),(10,ob6),(11,ob51),(12,ob3)],[(27,ob8),(52,ob8)]⟩
def whole_quotient.c10x0:Shape:=⟨[(0,ob1),(1,ob1),(4,ob1),(5,ob1),(6,ob3),(7,ob50),(8,ob1),(9,ob3),(10,ob6),(11,ob51),(12,ob3),(13,ob6)],[(27,ob8),(52,ob8)]⟩
def whole_quotient.c10r:Ck:=Ck.of (T:=Int) whole_quotient.c10s (fun ρ X Z=>whole_quotient.c10 (q4 X).2.2.1 (q8 X).1 (q8 X).2.1 Z) (fun ρ X V Z=>Z 0 (Shape.inj whole_quotient.c10x0 (X.1,X.2.1,X.2.2.1,X.2.2.2.1,(q4 X).1,(q4 X).2.1,(q4 X).2.2.1,(q4 X).2.2.2.1,(q8 X).1,V,(q8 X).2)))
def whole_quotient.c11 (top:Int)(Z:Unit→Option ρ):Option ρ:=
  bnd (okIf (top !=0)) fun y=>
  bnd (okIf (top !=0)) fun y1=>
  Z ()
def whole_quotient.c11x0:Shape:=⟨[(0,ob1),(1,ob1),(4,ob1),(5,ob1),(6,ob3),(7,ob50),(8,ob1),(9,ob3),(10,ob6),(11,ob51),(12,ob3),(13,ob6),(14,ob6),(15,ob6)],[(27,ob8),(52,ob8)]⟩
def whole_quotient.c11r:Ck:=Ck.of (T:=Unit) whole_quotient.c10x0 (fun ρ X Z=>whole_quotient.c11 (q4 X).2.2.2.1 Z) (fun ρ X V Z=>Z 0 (Shape.inj whole_quotient.c11x0 (X.1,X.2.1,X.2.2.1,X.2.2.2.1,(q4 X).1,(q4 X).2.1,(q4 X).2.2.1,(q4 X).2.2.2.1,(q8 X).1,(q8 X).2.1,(u64.wrap (Int.tdiv (q8 X).2.1 (q4 X).2.2.2.1)),(Int.tmod (q8 X).2.1 (q4 X).2.2.2.1),(q8 X).2.2)))
def whole_quotient.c12 (v:List (Int))(n:Int)(j:Int)(guess:Int)(rest:Int)(t27:List (Int))(Z:Bool→Option ρ):Option ρ:=
  br (decide (guess≥4294967296))
   (Z true)
   (bnd (idx v (i64.wrap (n-2))) fun y=>
    bnd (inR (t27.length) (i64.wrap (i64.wrap (j+n)-2))) fun y1=>
    bnd (idx t27 (i64.wrap (i64.wrap (j+n)-2))) fun y2=>
    Z (decide (u64.wrap (guess*IntKind.wrap IntKind.u64 y)>ibits BinOp.or IntKind.u64 (u64.wrap (rest*2 ^32)) (IntKind.wrap IntKind.u64 y2))))
def whole_quotient.c12x0:Shape:=⟨[(0,ob1),(1,ob1),(4,ob1),(5,ob1),(6,ob3),(7,ob50),(8,ob1),(9,ob3),(10,ob6),(11,ob51),(12,ob3),(13,ob6),(14,ob6),(15,ob6),(108,ob0)],[(27,ob8),(52,ob8)]⟩
def whole_quotient.c12r:Ck:=Ck.of (T:=Bool) whole_quotient.c11x0 (fun ρ X Z=>whole_quotient.c12 (q4 X).2.1 (q4 X).2.2.1 (q8 X).1 (q8 X).2.2.1 (q8 X).2.2.2.1 (q4 (q8 X)).1 Z) (fun ρ X V Z=>Z 0 (Shape.inj whole_quotient.c12x0 (X.1,X.2.1,X.2.2.1,X.2.2.2.1,(q4 X).1,(q4 X).2.1,(q4 X).2.2.1,(q4 X).2.2.2.1,(q8 X).1,(q8 X).2.1,(q8 X).2.2.1,(q8 X).2.2.2.1,V,(q4 (q8 X)))))
def whole_quotient.cs_ (v:List (Int))(n:Int)(top:Int)(j:Int)(guess:Int)(rest:Int)(t27:List (Int))(Z:((Int)×(Int))⊕((Int)×(Int))→Option ρ):Option ρ:=
  bnd (whole_quotient.c12 v n j guess rest t27 some) fun y=>
  br y
   (br (decide (u64.wrap (rest+top)≥4294967296))
     (Z (.inr ((u64.wrap (guess-1)),(u64.wrap (rest+top)))))
     (Z (.inl ((u64.wrap (guess-1)),(u64.wrap (rest+top))))))
   (Z (.inr (guess,rest)))
def whole_quotient.cs_r:Ck:=Ck.ofLoop (S:=(Int)×(Int)) (T:=(Int)×(Int)) whole_quotient.c11x0 (fun X=>((q8 X).2.2.1,(q8 X).2.2.2.1)) (fun ρ X Q Z=>whole_quotient.cs_ (q4 X).2.1 (q4 X).2.2.1 (q4 X).2.2.2.1 (q8 X).1 Q.1 Q.2 (q4 (q8 X)).1 Z) (fun ρ X V Z=>Z 4 (Shape.inj whole_quotient.c11x0 (X.1,X.2.1,X.2.2.1,X.2.2.2.1,(q4 X).1,(q4 X).2.1,(q4 X).2.2.1,(q4 X).2.2.2.1,(q8 X).1,(q8 X).2.1,V.1,V.2,(q4 (q8 X)))))
def whole_quotient.cD_ (v:List (Int))(n:Int)(j:Int)(guess:Int)(t27:List (Int))(Z:(Int)×(List Int)→Option ρ):Option ρ:=
  bnd (okIf (decide ((0:Int)≤j)&&decide (j≤i64.wrap (i64.wrap (j+n)+1))&&decide (i64.wrap (i64.wrap (j+n)+1)≤(t27.length:Int)))) fun y=>
  bnd (whole_takeAway j (i64.wrap (i64.wrap (j+n)+1)-j) v (IntKind.wrap IntKind.u32 guess) t27) fun y1=>
  br y1.1
   (bnd (okIf (decide ((0:Int)≤j)&&decide (j≤i64.wrap (i64.wrap (j+n)+1))&&decide (i64.wrap (i64.wrap (j+n)+1)≤(↑(List.length y1.2.1):Int)))) fun y2=>
    bnd (whole_giveBack j (i64.wrap (i64.wrap (j+n)+1)-j) v y1.2.1) fun y3=>
    Z ((u64.wrap (guess-1)),y3.1))
   (Z (guess,y1.2.1))
def whole_quotient.cD_r:Ck:=Ck.of (T:=(Int)×(List Int)) whole_quotient.c11x0 (fun ρ X Z=>whole_quotient.cD_ (q4 X).2.1 (q4 X).2.2.1 (q8 X).1 (q8 X).2.2.1 (q4 (q8 X)).1 Z) (fun ρ X V Z=>Z 0 (Shape.inj whole_quotient.c11x0 (X.1,X.2.1,X.2.2.1,X.2.2.2.1,(q4 X).1,(q4 X).2.1,(q4 X).2.2.1,(q4 X).2.2.2.1,(q8 X).1,(q8 X).2.1,V.1,(q8 X).2.2.2.1,V.2,(q4 (q8 X)).2)))
def whole_quotient.ci_ (v:List (Int))(n:Int)(top:Int)(j:Int)(t27:List (Int))(t52:List (Int))(Z:((Int)×(List Int)×(List Int))⊕((Int)×(List Int)×(List Int))→Option ρ):Option ρ:=
  br (decide (j≥0))
   (bnd (whole_quotient.c10 n j t27 some) fun y=>
    bnd (whole_quotient.c11 top some) fun y1=>
    bnd (iter (fun s↦whole_quotient.cs_ v n top j s.1 s.2 t27 some) (u64.wrap (Int.tdiv y top),Int.tmod y top)) fun y2=>
    bnd (whole_quotient.cD_ v n j y2.1 t27 some) fun y3=>
    bnd (inR (t52.length) j) fun y4=>
    bnd (idx t52 j) fun y5=>
    Z (.inl ((i64.wrap (j-1)),y3.2,(List.set t52 (Int.toNat j) (u32.wrap y3.1)))))
   (Z (.inr (j,t27,t52)))
def whole_quotient.ci_r:Ck:=Ck.ofLoop (S:=(Int)×(List Int)×(List Int)) (T:=(Int)×(List Int)×(List Int)) whole_quotient.c10s (fun X=>((q8 X).1,(q8 X).2.1,(q8 X).2.2.1)) (fun ρ X Q Z=>whole_quotient.ci_ (q4 X).2.1 (q4 X).2.2.1 (q4 X).2.2.2.1 Q.1 Q.2.1 Q.2.2 Z) (fun ρ X V Z=>Z 2 (Shape.inj whole_quotient.c10s (X.1,X.2.1,X.2.2.1,X.2.2.2.1,(q4 X).1,(q4 X).2.1,(q4 X).2.2.1,(q4 X).2.2.2.1,V.1,V.2.1,V.2.2,())))
def whole_quotient (a:List (Int)) (b:List (Int)):Option ((List Int)×(List Int)):=
  bnd (idx b (i64.wrap ((b.length:Int)-1))) fun y=>
  bnd (Js y) fun y1=>
  bnd (whole_quotient.c2 a b y1 some) fun y2=>
  bnd (whole_quotient.c3 y2.1 some) fun y3=>
  br (decide ((↑(List.length y2.2):Int)≤(↑(List.length y2.1):Int)))
   (some ([],a))
   (bnd (okIf (decide ((0:Int)≤i64.wrap ((↑(List.length y2.2):Int)-(↑(List.length y2.1):Int)))&&decide (i64.wrap ((↑(List.length y2.2):Int)-(↑(List.length y2.1):Int))≤i64.wrap ((↑(List.length y2.2):Int)-(↑(List.length y2.1):Int)))&&decide (i64.wrap ((↑(List.length y2.2):Int)-(↑(List.length y2.1):Int))*(↑(4:Nat):Int)≤140737488355328)&&decide (i64.wrap ((↑(List.length y2.2):Int)-(↑(List.length y2.1):Int))≤140737488355328))) fun y4=>
    bnd (iter (fun s↦whole_quotient.ci_ y2.1 (↑(List.length y2.1):Int) y3 s.1 s.2.1 s.2.2 some) (i64.wrap (i64.wrap ((↑(List.length y2.2):Int)-(↑(List.length y2.1):Int))-1),y2.2,List.replicate (Int.toNat (i64.wrap ((↑(List.length y2.2):Int)-(↑(List.length y2.1):Int)))) (0:Int))) fun y5=>
    bnd (whole_right y5.2.1 y1) fun y6=>
    some (y5.2.2,y6.1))
def whole_quotient.ce:Go.Ql.Callee:=⟨[(.sl (.int .u32)),(.sl (.int .u32))],[(.sl (.int .u32)),(.sl (.int .u32))],fun X=>whole_quotient X.1 X.2⟩
def whole_quotient.G:Env:=⟨151,tab,[(134,Js.ce),(97,whole_right.ce)],[0,1,4,5,6,7,8,9,10,11,12,13,14,15,16,46,59,108,115,126],[27,52],[(12,[⟨[],[],[],[]⟩,⟨[0],[],[],[]⟩,⟨[1,0],[],[],[]⟩,⟨[2,1,0],[],[89,90,91,92,93,94,96,97,98,99,100,101,102,103,104,105,106],[]⟩,⟨[2,1,0],[],[88,90,91,96,97,98,99,100,101,102,103,104,105,106],[]⟩,⟨[2,1,0],[],[88,89,96,97,98,99,100,101,102,103,104,105,106],[]⟩,⟨[5,2,1,0],[],[88,89,96,97,98,99,100,101,102,103,104,105,106],[]⟩,⟨[4,2,1,0,6,5],[],[88,96,97,98,99,100,101,102,103,104,105,106],[]⟩,⟨[7,4,2,1,0,6,5],[],[88,96,97,98,99,100,101,102,103,104,105,106],[]⟩,⟨[8,7,4,2,1,0,6,5],[],[88,96,97,98,99,100,101,102,103,104,105,106],[]⟩,⟨[3,2,1,0,9,8,7,4,6,5],[],[96,97,98,99,100,101,102,103,104,105,106],[]⟩,⟨[2,1,0],[],[88,89,90,91,92,93,94,95,98,99,100,101,102,103,104,105],[]⟩,⟨[11,2,1,0],[],[88,89,90,91,92,93,94,95,98,99,100,101,102,103,104,105],[]⟩,⟨[2,1,0],[],[88,89,90,91,92,93,94,95,96,97,99,100,101,102],[]⟩,⟨[2,1,0],[],[88,89,90,91,92,93,94,95,96,97,98,100],[]⟩,⟨[2,1,0],[],[88,89,90,91,92,93,94,95,96,97,98,99],[]⟩,⟨[14,2,1,0,15],[],[88,89,90,91,92,93,94,95,96,97,98],[]⟩,⟨[16,14,2,1,0,15],[],[88,89,90,91,92,93,94,95,96,97,98],[]⟩,⟨[13,2,1,0,17,16,14,15],[],[88,89,90,91,92,93,94,95,96,97],[]⟩,⟨[18,13,2,1,0,17,16,14,15],[],[88,89,90,91,92,93,94,95,96,97],[]⟩,⟨[19,18,13,2,1,0,17,16,14,15],[],[88,89,90,91,92,93,94,95,96,97],[]⟩,⟨[12,11,2,1,0,20,19,18,13,17,16,14,15],[],[88,89,90,91,92,93,94,95],[]⟩,⟨[10,3,2,1,0,9,8,7,4,6,5,21,12,11,20,19,18,13,17,16,14,15],[],[],[]⟩,⟨[2,1,0,22,10,3,9,8,7,4,6,5,21,12,11,20,19,18,13,17,16,14,15],[],[],[]⟩]),
  (11,[⟨[],[],[80,82,83,84],[]⟩,⟨[],[],[79,82,83,84],[]⟩,⟨[0,1],[],[82,83,84],[]⟩,⟨[],[],[79,80,81,83,14],[]⟩,⟨[],[],[79,80,81,82,14],[]⟩,⟨[3,4],[],[79,80,81,14],[]⟩,⟨[2,0,1],[],[82,83,84],[]⟩,⟨[5,3,4,6,2,0,1],[],[],[]⟩]),
  (10,[⟨[],[],[63,64,65,70,71,72,73,74,75,76,77],[]⟩,⟨[],[],[62,64,70,71,72,73,74,75,76,77],[]⟩,⟨[],[],[62,63,70,71,72,73,74,75,76,77],[]⟩,⟨[1,2],[],[62,70,71,72,73,74,75,76,77],[]⟩,⟨[0,3,1,2],[],[70,71,72,73,74,75,76,77],[]⟩,⟨[4,0,3,1,2],[],[70,71,72,73,74,75,76,77],[]⟩,⟨[5,4,0,3,1,2],[],[70,71,72,73,74,75,76,77],[]⟩,⟨[6,5,4,0,3,1,2],[],[70,71,72,73,74,75,76,77],[]⟩,⟨[],[],[62,63,64,65,66,67,68,69,71,72,73,74],[]⟩,⟨[],[],[62,63,64,65,66,67,68,69,70,72],[]⟩,⟨[],[],[62,63,64,65,66,67,68,69,70,71],[]⟩,⟨[9,10],[],[62,63,64,65,66,67,68,69,70],[]⟩,⟨[11,9,10],[],[62,63,64,65,66,67,68,69,70],[]⟩,⟨[8,12,11,9,10],[],[62,63,64,65,66,67,68,69],[]⟩,⟨[13,8,12,11,9,10],[],[62,63,64,65,66,67,68,69],[]⟩,⟨[14,13,8,12,11,9,10],[],[62,63,64,65,66,67,68,69],[]⟩,⟨[7,6,5,4,0,3,1,2,15,14,13,8,12,11,9,10],[],[],[]⟩,⟨[16,7,6,5,4,0,3,1,2,15,14,13,8,12,11,9,10],[],[],[]⟩]),
  (3,[⟨[],[],[36,37,38,39,40,41,42],[]⟩,⟨[0],[],[36,37,38,39,40,41,42],[]⟩,⟨[],[],[34,35,37,38,39,9],[]⟩,⟨[],[],[34,35,36,9],[]⟩,⟨[3],[],[34,35,36,9],[]⟩,⟨[4,3],[],[34,35,36,9],[]⟩,⟨[2,5,4,3],[],[34,35,9],[]⟩,⟨[6,2,5,4,3],[],[34,35,9],[]⟩,⟨[7,6,2,5,4,3],[],[34,35,9],[]⟩,⟨[1,0],[],[36,37,38,39,40,41,42],[]⟩,⟨[8,7,6,2,5,4,3,9,1,0],[],[],[]⟩]),
  (2,[⟨[],[],[26,28,29,31,32],[]⟩,⟨[],[],[25,28,29,31,32],[]⟩,⟨[0,1],[27],[28,29,31,32],[]⟩,⟨[],[],[25,26,27,29,31,32],[27]⟩,⟨[],[],[25,26,27,28,31,32],[27]⟩,⟨[3,4,2,0,1],[30],[31,32],[]⟩,⟨[],[],[25,26,27,28,29,30,7],[27,30]⟩,⟨[6],[],[25,26,27,28,29,30,7],[27,30]⟩,⟨[5,3,4,2,0,1,7,6],[30],[7],[]⟩,⟨[2,0,1,5,3,4],[],[31,32,33],[30]⟩,⟨[8,5,3,4,2,0,1,7,6,9],[],[],[]⟩])],[(100008,whole_quotient.ci_r),(265543,whole_quotient.cD_r),(100012,whole_quotient.cs_r),(12,whole_quotient.c12r),(11,whole_quotient.c11r),(10,whole_quotient.c10r),(3,whole_quotient.c3r),(2,whole_quotient.c2r)],[(96,whole_left.mc),(135,whole_takeAway.mc),(136,whole_giveBack.mc)],jE,[]⟩
theorem whole_quotient.p0:PcA whole_quotient.G Tryz.f121 0:=
  jv (s:=whole_quotient.c2r) (by kernel_rfl) (by kernel_rfl) (jp (sh:=whole_quotient.c2s) (fun ρ X Z=>(jb fun _=>(jb fun _=>(jb fun _=>jc)))) (fun ρ X t k=>(by kernel_rfl)) (fun X=>by kernel_rfl))
theorem whole_quotient.p1:PcA whole_quotient.G Tryz.f121 1:=
  jv (s:=whole_quotient.c3r) (by kernel_rfl) (by kernel_rfl) (jp (sh:=whole_quotient.c2x0) (fun ρ X Z=>(jb fun _=>jc)) (fun ρ X t k=>(by kernel_rfl)) (fun X=>by kernel_rfl))
theorem whole_quotient.p2:PcA whole_quotient.G Tryz.f121 2:=
  Ja (s:=whole_quotient.ci_r) (by kernel_rfl) (by kernel_rfl) (jU (sh:=whole_quotient.c10s) (I:=fun X Q=>(X.1,X.2.1,X.2.2.1,X.2.2.2.1,(q4 X).1,(q4 X).2.1,(q4 X).2.2.1,(q4 X).2.2.2.1,Q.1,Q.2.1,Q.2.2,())) (fun X=>rfl) (fun ρ X Q Z=>(jl (jb fun _=>(jb fun _=>(jb fun _=>(jb fun _=>(jb fun _=>(jb fun _=>jc)))))) jc)) (fun ρ X t k=>(by kernel_rfl)) (fun X s=>by kernel_rfl))
theorem whole_quotient.p3:PcA whole_quotient.G Tryz.f121 3:=
  jv (s:=whole_quotient.c10r) (by kernel_rfl) (by kernel_rfl) (jp (sh:=whole_quotient.c10s) (fun ρ X Z=>(jb fun _=>(jb fun _=>(jb fun _=>(jb fun _=>jc))))) (fun ρ X t k=>(by kernel_rfl)) (fun X=>by kernel_rfl))
theorem whole_quotient.p4:PcA whole_quotient.G Tryz.f121 4:=
  jv (s:=whole_quotient.c11r) (by kernel_rfl) (by kernel_rfl) (jp (sh:=whole_quotient.c10x0) (fun ρ X Z=>(jb fun _=>(jb fun _=>jc))) (fun ρ X t k=>(by kernel_rfl)) (fun X=>by kernel_rfl))
theorem whole_quotient.p5:PcA whole_quotient.G Tryz.f121 5:=
  Ja (s:=whole_quotient.cs_r) (by kernel_rfl) (by kernel_rfl) (jU (sh:=whole_quotient.c11x0) (I:=fun X Q=>(X.1,X.2.1,X.2.2.1,X.2.2.2.1,(q4 X).1,(q4 X).2.1,(q4 X).2.2.1,(q4 X).2.2.2.1,(q8 X).1,(q8 X).2.1,Q.1,Q.2,(q4 (q8 X)))) (fun X=>rfl) (fun ρ X Q Z=>(jb fun _=>(jl (jl jc jc) jc))) (fun ρ X t k=>(by kernel_rfl)) (fun X s=>by kernel_rfl))
theorem whole_quotient.p6:PcA whole_quotient.G Tryz.f121 6:=
  jv (s:=whole_quotient.c12r) (by kernel_rfl) (by kernel_rfl) (jp (sh:=whole_quotient.c11x0) (fun ρ X Z=>(jl jc (jb fun _=>(jb fun _=>(jb fun _=>jc))))) (fun ρ X t k=>(by kernel_rfl)) (fun X=>by kernel_rfl))
theorem whole_quotient.p7:PcA whole_quotient.G Tryz.f121 7:=
  Jo (s:=whole_quotient.cD_r) (by kernel_rfl) (by kernel_rfl) (jp (sh:=whole_quotient.c11x0) (fun ρ X Z=>(jb fun _=>(jb fun _=>(jl (jb fun _=>(jb fun _=>jc)) jc)))) (fun ρ X t k=>(by kernel_rfl)) (fun X=>by kernel_rfl))
theorem whole_quotient.ok:CalleeOk Tryz.prog 121 whole_quotient.ce:=fn_ok (G:=whole_quotient.G) jM mixed Tryz.func121 ⟨(jh Js.ok (jh whole_right.ok jF)),(Yy whole_left.ok (Yy whole_takeAway.ok (Yy whole_giveBack.ok jA))),jo,jz⟩ (m:=8) (by kernel_rfl) ⟨⟨⟨⟨⟨⟨⟨⟨trivial,whole_quotient.p0⟩,whole_quotient.p1⟩,whole_quotient.p2⟩,whole_quotient.p3⟩,whole_quotient.p4⟩,whole_quotient.p5⟩,whole_quotient.p6⟩,whole_quotient.p7⟩ (by kernel_rfl) (fun _=>by kernel_rfl)
abbrev ob52:SD:=.one (.ref 6 0)
abbrev ob53:SD:=.one (.ref 7 0)
def whole_Int_Div.c7 (a1:List (Int))(b1:List (Int))(Z:(List Int)×(Int)→Option ρ):Option ρ:=
  bnd (idx b1 (0:Int)) fun y=>
  bnd (whole_short a1 y) fun y1=>
  Z (y1.1,y1.2)
def whole_Int_Div.c7s:Shape:=⟨[(0,ob11),(1,ob11),(2,ob5),(3,ob28),(4,ob2),(5,ob44),(6,ob52),(7,ob53),(8,ob45)],[(2,ob4),(3,ob4),(4,ob4),(5,ob4),(6,ob37),(7,ob4),(8,ob4)]⟩
def whole_Int_Div.c7x0:Shape:=⟨[(0,ob11),(1,ob11),(2,ob5),(3,ob28),(4,ob2),(5,ob44),(6,ob52),(7,ob53),(8,ob45),(9,ob1),(10,ob40)],[(2,ob4),(3,ob4),(4,ob4),(5,ob4),(6,ob37),(7,ob4),(8,ob4)]⟩
def whole_Int_Div.c7r:Ck:=Ck.of (T:=(List Int)×(Int)) whole_Int_Div.c7s (fun ρ X Z=>whole_Int_Div.c7 X.2.2.2.1 (q4 X).2.1 Z) (fun ρ X V Z=>Z 0 (Shape.inj whole_Int_Div.c7x0 (X.1,X.2.1,V.1,V.2,X.2.2)))
def whole_Int_Div.cP_ (a1:List (Int))(b1:List (Int))(q0:Bool)(q1:List (Int))(Z:Bool×(List Int)×Bool×(List Int)→Option ρ):Option ρ:=
  bnd (whole_order a1 b1) fun y=>
  br (decide (y<0))
   (bnd (whole_made false a1) fun y1=>
    Z (q0,q1,y1.1,y1.2))
   (br ((b1.length:Int)==1)
     (bnd (whole_Int_Div.c7 a1 b1 some) fun y2=>
      bnd (whole_made false y2.1) fun y3=>
      bnd (whole_made false [y2.2]) fun y4=>
      Z (y3.1,y3.2,y4.1,y4.2))
     (bnd (whole_quotient a1 b1) fun y5=>
      bnd (whole_made false y5.1) fun y6=>
      bnd (whole_made false y5.2) fun y7=>
      Z (y6.1,y6.2,y7.1,y7.2)))
def whole_Int_Div.cP_r:Ck:=Ck.of (T:=Bool×(List Int)×Bool×(List Int)) whole_Int_Div.c7s (fun ρ X Z=>whole_Int_Div.cP_ X.2.2.2.1 (q4 X).2.1 (q4 (q8 X)).1 (q4 (q8 X)).2.1 Z) (fun ρ X V Z=>Z 0 (Shape.inj whole_Int_Div.c7s (X.1,X.2.1,X.2.2.1,X.2.2.2.1,(q4 X).1,(q4 X).2.1,(q4 X).2.2.1,(q4 X).2.2.2.1,(q8 X).1,(q8 X).2.1,(q8 X).2.2.1,(q8 X).2.2.2.1,V.1,V.2.1,V.2.2.1,V.2.2.2,())))
def whole_Int_Div.c11 (a0:Bool)(r1:List (Int))(Z:Bool→Option ρ):Option ρ:=
  br a0
   (Z (decide ((r1.length:Int)>0)))
   (Z false)
def whole_Int_Div.c11x0:Shape:=⟨[(0,ob11),(1,ob11),(2,ob5),(3,ob28),(4,ob2),(5,ob44),(6,ob52),(7,ob53),(8,ob45),(67,ob0)],[(2,ob4),(3,ob4),(4,ob4),(5,ob4),(6,ob37),(7,ob4),(8,ob4)]⟩
def whole_Int_Div.c11r:Ck:=Ck.of (T:=Bool) whole_Int_Div.c7s (fun ρ X Z=>whole_Int_Div.c11 X.2.2.1 (q4 (q8 X)).2.2.2.1 Z) (fun ρ X V Z=>Z 0 (Shape.inj whole_Int_Div.c11x0 (X.1,X.2.1,V,X.2.2)))
def whole_Int_Div.c12 (b1:List (Int))(q0:Bool)(q1:List (Int))(r1:List (Int))(Z:Bool×(List Int)×Bool×(List Int)→Option ρ):Option ρ:=
  bnd (whole_Of (1:Int)) fun y=>
  bnd (whole_Int_Add (q0,q1) y) fun y1=>
  bnd (whole_less b1 r1) fun y2=>
  bnd (whole_made false y2) fun y3=>
  Z (y1.1,y1.2,y3.1,y3.2)
def whole_Int_Div.c12r:Ck:=Ck.of (T:=Bool×(List Int)×Bool×(List Int)) whole_Int_Div.c7s (fun ρ X Z=>whole_Int_Div.c12 (q4 X).2.1 (q4 (q8 X)).1 (q4 (q8 X)).2.1 (q4 (q8 X)).2.2.2.1 Z) (fun ρ X V Z=>Z 0 (Shape.inj whole_Int_Div.c7s (X.1,X.2.1,X.2.2.1,X.2.2.2.1,(q4 X).1,(q4 X).2.1,(q4 X).2.2.1,(q4 X).2.2.2.1,(q8 X).1,(q8 X).2.1,(q8 X).2.2.1,(q8 X).2.2.2.1,V.1,V.2.1,V.2.2.1,V.2.2.2,())))
def whole_Int_Div.cq_ (a0:Bool)(b1:List (Int))(q0:Bool)(q1:List (Int))(r0:Bool)(r1:List (Int))(Z:Bool×(List Int)×Bool×(List Int)→Option ρ):Option ρ:=
  bnd (whole_Int_Div.c11 a0 r1 some) fun y=>
  br y
   (bnd (whole_Int_Div.c12 b1 q0 q1 r1 some) fun y1=>
    Z (y1.1,y1.2.1,y1.2.2.1,y1.2.2.2))
   (Z (q0,q1,r0,r1))
def whole_Int_Div.cq_r:Ck:=Ck.of (T:=Bool×(List Int)×Bool×(List Int)) whole_Int_Div.c7s (fun ρ X Z=>whole_Int_Div.cq_ X.2.2.1 (q4 X).2.1 (q4 (q8 X)).1 (q4 (q8 X)).2.1 (q4 (q8 X)).2.2.1 (q4 (q8 X)).2.2.2.1 Z) (fun ρ X V Z=>Z 0 (Shape.inj whole_Int_Div.c7s (X.1,X.2.1,X.2.2.1,X.2.2.2.1,(q4 X).1,(q4 X).2.1,(q4 X).2.2.1,(q4 X).2.2.2.1,(q8 X).1,(q8 X).2.1,(q8 X).2.2.1,(q8 X).2.2.2.1,V.1,V.2.1,V.2.2.1,V.2.2.2,())))
def whole_Int_Div.c13 (a0:Bool)(b0:Bool)(q1:List (Int))(Z:Bool×(List Int)→Option ρ):Option ρ:=
  bnd (whole_made (!a0==b0) q1) fun y=>
  Z (y.1,y.2)
def whole_Int_Div.c13r:Ck:=Ck.of (T:=Bool×(List Int)) whole_Int_Div.c7s (fun ρ X Z=>whole_Int_Div.c13 X.2.2.1 (q4 X).1 (q4 (q8 X)).2.1 Z) (fun ρ X V Z=>Z 0 (Shape.inj whole_Int_Div.c7s (X.1,X.2.1,X.2.2.1,X.2.2.2.1,(q4 X).1,(q4 X).2.1,V.1,V.2,(q4 (q8 X)).2.2.1,(q4 (q8 X)).2.2.2.1,(0:Int),(0:Int),(q4 (q8 X)))))
def whole_Int_Div (a:Bool×(List Int)) (b:Bool×(List Int)):Option ((Bool×(List Int))×(Bool×(List Int))×((Int)×(Int))):=
  br ((↑(List.length b.2):Int)==0)
   (some ((false,[]),(false,[]),(4:Int),(0:Int)))
   (bnd (whole_Int_Div.cP_ a.2 b.2 false [] some) fun y=>
    bnd (whole_Int_Div.cq_ a.1 b.2 y.1 y.2.1 y.2.2.1 y.2.2.2 some) fun y1=>
    bnd (whole_Int_Div.c13 a.1 b.1 y1.2.1 some) fun y2=>
    some ((y2.1,y2.2),(y1.2.2.1,y1.2.2.2),(0:Int),(0:Int)))
def whole_Int_Div.ce:Go.Ql.Callee:=⟨[(.st (.pair .bool (.sl (.int .u32)))),(.st (.pair .bool (.sl (.int .u32))))],[(.st (.pair .bool (.sl (.int .u32)))),(.st (.pair .bool (.sl (.int .u32)))),(.st (.pair (.int .i64) (.int .i64)))],fun X=>whole_Int_Div X.1 X.2⟩
def whole_Int_Div.G:Env:=⟨87,tab,[(105,whole_order.ce),(59,whole_made.ce),(120,whole_short.ce),(121,whole_quotient.ce),(43,whole_Of.ce),(81,whole_Int_Add.ce),(106,whole_less.ce)],[0,1,2,3,4,5,6,7,8,9,10,11,12,16,25,32,67],[],[(13,[⟨[],[],[79,80,82,83,85,86],[]⟩,⟨[0],[],[79,80,82,83,85,86],[]⟩,⟨[],[],[77,78,82,83,85,86],[]⟩,⟨[2],[],[77,78,82,83,85,86],[]⟩,⟨[1,0,3,2],[],[82,83,85,86],[]⟩,⟨[],[],[77,78,79,80,81,85,86],[]⟩,⟨[5],[],[77,78,79,80,81,85,86],[]⟩,⟨[4,1,0,3,2,6,5],[],[85,86],[]⟩,⟨[],[],[77,78,79,80,81,82,83,84,86],[4]⟩,⟨[],[],[77,78,79,80,81,82,83,84,85],[4,5]⟩,⟨[7,4,1,0,3,2,6,5],[4],[85,86],[]⟩,⟨[8,10,7,4,1,0,3,2,6,5],[5],[86],[]⟩,⟨[9,11,8,10,7,4,1,0,3,2,6,5],[6],[],[]⟩]),
  (12,[⟨[],[],[69,71,72,73,74],[]⟩,⟨[],[],[68,71,72,73,74],[]⟩,⟨[0,1],[],[71,72,73,74],[]⟩,⟨[],[],[68,69,70,73,74],[]⟩,⟨[3],[],[68,69,70,73,74],[]⟩,⟨[],[],[68,69,70,71,72],[]⟩,⟨[5],[],[68,69,70,71,72],[]⟩,⟨[4,3,6,5,2,0,1],[],[],[]⟩,⟨[7,4,3,6,5,2,0,1],[],[],[]⟩,⟨[2,0,1,8,7,4,3,6,5],[7],[],[]⟩,⟨[8,7,4,3,6,5,2,0,1,9],[8],[],[]⟩]),
  (7,[⟨[],[],[36,37,38,39],[]⟩,⟨[0],[],[36,37,38,39],[]⟩,⟨[],[],[34,35],[]⟩,⟨[2],[],[34,35],[]⟩,⟨[3,2],[],[34,35],[]⟩,⟨[4,3,2],[],[34,35],[]⟩,⟨[1,0,5,4,3,2],[],[],[]⟩,⟨[6,1,0,5,4,3,2],[],[],[]⟩,⟨[7,6,1,0,5,4,3,2],[],[42],[]⟩,⟨[7,6,1,0,5,4,3,2],[],[41,9],[]⟩,⟨[8,7,6,1,0,5,4,3,2],[],[42],[]⟩,⟨[9,7,6,1,0,5,4,3,2,10,8],[],[],[]⟩])],[(13,whole_Int_Div.c13r),(245061,whole_Int_Div.cq_r),(12,whole_Int_Div.c12r),(11,whole_Int_Div.c11r),(216397,whole_Int_Div.cP_r),(7,whole_Int_Div.c7r)],[],jE,[]⟩
theorem whole_Int_Div.p0:PcA whole_Int_Div.G Tryz.f100 0:=
  Jo (s:=whole_Int_Div.cP_r) (by kernel_rfl) (by kernel_rfl) (jp (sh:=whole_Int_Div.c7s) (fun ρ X Z=>(jb fun _=>(jl (jb fun _=>jc) (jl (jb fun _=>(jb fun _=>(jb fun _=>jc))) (jb fun _=>(jb fun _=>(jb fun _=>jc))))))) (fun ρ X t k=>(by kernel_rfl)) (fun X=>by kernel_rfl))
theorem whole_Int_Div.p1:PcA whole_Int_Div.G Tryz.f100 1:=
  jv (s:=whole_Int_Div.c7r) (by kernel_rfl) (by kernel_rfl) (jp (sh:=whole_Int_Div.c7s) (fun ρ X Z=>(jb fun _=>(jb fun _=>jc))) (fun ρ X t k=>(by kernel_rfl)) (fun X=>by kernel_rfl))
theorem whole_Int_Div.p2:PcA whole_Int_Div.G Tryz.f100 2:=
  Jo (s:=whole_Int_Div.cq_r) (by kernel_rfl) (by kernel_rfl) (jp (sh:=whole_Int_Div.c7s) (fun ρ X Z=>(jb fun _=>(jl (jb fun _=>jc) jc))) (fun ρ X t k=>(by kernel_rfl)) (fun X=>by kernel_rfl))
theorem whole_Int_Div.p3:PcA whole_Int_Div.G Tryz.f100 3:=
  jv (s:=whole_Int_Div.c11r) (by kernel_rfl) (by kernel_rfl) (jp (sh:=whole_Int_Div.c7s) (fun ρ X Z=>(jl jc jc)) (fun ρ X t k=>(by kernel_rfl)) (fun X=>by kernel_rfl))
theorem whole_Int_Div.p4:PcA whole_Int_Div.G Tryz.f100 4:=
  jv (s:=whole_Int_Div.c12r) (by kernel_rfl) (by kernel_rfl) (jp (sh:=whole_Int_Div.c7s) (fun ρ X Z=>(jb fun _=>(jb fun _=>(jb fun _=>(jb fun _=>jc))))) (fun ρ X t k=>(by kernel_rfl)) (fun X=>by kernel_rfl))
theorem whole_Int_Div.p5:PcA whole_Int_Div.G Tryz.f100 5:=
  jv (s:=whole_Int_Div.c13r) (by kernel_rfl) (by kernel_rfl) (jp (sh:=whole_Int_Div.c7s) (fun ρ X Z=>(jb fun _=>jc)) (fun ρ X t k=>(by kernel_rfl)) (fun X=>by kernel_rfl))
theorem whole_Int_Div.ok:CalleeOk Tryz.prog 100 whole_Int_Div.ce:=fn_ok (G:=whole_Int_Div.G) jM mixed Tryz.func100 ⟨(jh whole_order.ok (jh whole_made.ok (jh whole_short.ok (jh whole_quotient.ok (jh whole_Of.ok (jh whole_Int_Add.ok (jh whole_less.ok jF))))))),jA,jo,jz⟩ (m:=6) (by kernel_rfl) ⟨⟨⟨⟨⟨⟨trivial,whole_Int_Div.p0⟩,whole_Int_Div.p1⟩,whole_Int_Div.p2⟩,whole_Int_Div.p3⟩,whole_Int_Div.p4⟩,whole_Int_Div.p5⟩ (by kernel_rfl) (fun _=>by kernel_rfl)
def whole_Gcd.c3  (Z:Unit→Option ρ):Option ρ:=
  Z ()
def whole_Gcd.c3s:Shape:=⟨[(0,ob11),(1,ob11),(2,ob5),(3,ob28),(4,ob2),(6,ob52)],[(2,ob4),(3,ob4),(4,ob4),(5,ob4),(6,ob4),(7,ob37)]⟩
def whole_Gcd.c3r:Ck:=Ck.of (T:=Unit) whole_Gcd.c3s (fun ρ X Z=>whole_Gcd.c3  Z) (fun ρ X V Z=>Z 0 (Shape.inj whole_Gcd.c3s (X.1,X.2.1,(q4 X).1,(q4 X).2.1,(q8 X).2.2.1,(q8 X).2.2.2.1,(q4 X).2.2)))
def whole_Gcd.ce_ (a0:Bool)(a1:List (Int))(b0:Bool)(b1:List (Int))(Z:(Bool×(List Int)×Bool×(List Int))⊕(Bool×(List Int)×Bool×(List Int))→Option ρ):Option ρ:=
  br (decide ((b1.length:Int)>0))
   (bnd (whole_Int_Div (a0,a1) (b0,b1)) fun y=>
    bnd (whole_Gcd.c3 some) fun y1=>
    Z (.inl (b0,b1,y.2.1.1,y.2.1.2)))
   (Z (.inr (a0,a1,b0,b1)))
def whole_Gcd.ce_s:Shape:=⟨[(0,ob11),(1,ob11),(2,ob5),(3,ob28),(4,ob2)],[(2,ob4),(3,ob4),(4,ob4)]⟩
def whole_Gcd.ce_r:Ck:=Ck.ofLoop (S:=Bool×(List Int)×Bool×(List Int)) (T:=Bool×(List Int)×Bool×(List Int)) whole_Gcd.ce_s (fun X=>(X.2.2.1,X.2.2.2.1,(q4 X).1,(q4 X).2.1)) (fun ρ X Q Z=>whole_Gcd.ce_ Q.1 Q.2.1 Q.2.2.1 Q.2.2.2 Z) (fun ρ X V Z=>Z 2 (Shape.inj whole_Gcd.ce_s (X.1,X.2.1,V.1,V.2.1,V.2.2.1,V.2.2.2,(q4 X).2.2)))
def whole_Gcd (a:Bool×(List Int)) (b:Bool×(List Int)):Option (Bool×(List Int)):=
  bnd (iter (fun s↦whole_Gcd.ce_ s.1 s.2.1 s.2.2.1 s.2.2.2 some) (a.1,a.2,b.1,b.2)) fun y=>
  bnd (whole_made false y.2.1) fun y1=>
  some (y1.1,y1.2)
def whole_Gcd.ce:Go.Ql.Callee:=⟨[(.st (.pair .bool (.sl (.int .u32)))),(.st (.pair .bool (.sl (.int .u32))))],[(.st (.pair .bool (.sl (.int .u32))))],fun X=>whole_Gcd X.1 X.2⟩
def whole_Gcd.G:Env:=⟨24,tab,[(100,whole_Int_Div.ce),(59,whole_made.ce)],[0,1,2,3,4,6,11],[],[(3,[⟨[],[],[20],[]⟩,⟨[],[],[19],[2]⟩,⟨[0],[2],[20],[]⟩,⟨[1,2,0],[3],[],[]⟩])],[(100001,whole_Gcd.ce_r),(3,whole_Gcd.c3r)],[],jE,[]⟩
theorem whole_Gcd.p0:PcA whole_Gcd.G Tryz.f99 0:=
  Ja (s:=whole_Gcd.ce_r) (by kernel_rfl) (by kernel_rfl) (jU (sh:=whole_Gcd.ce_s) (I:=fun X Q=>(X.1,X.2.1,Q.1,Q.2.1,Q.2.2.1,Q.2.2.2,(q4 X).2.2)) (fun X=>rfl) (fun ρ X Q Z=>(jl (jb fun _=>(jb fun _=>jc)) jc)) (fun ρ X t k=>(by kernel_rfl)) (fun X s=>by kernel_rfl))
theorem whole_Gcd.p1:PcA whole_Gcd.G Tryz.f99 1:=
  jv (s:=whole_Gcd.c3r) (by kernel_rfl) (by kernel_rfl) (jp (sh:=whole_Gcd.c3s) (fun ρ X Z=>jc) (fun ρ X t k=>(by kernel_rfl)) (fun X=>by kernel_rfl))
theorem whole_Gcd.ok:CalleeOk Tryz.prog 99 whole_Gcd.ce:=fn_ok (G:=whole_Gcd.G) jM mixed Tryz.func99 ⟨(jh whole_Int_Div.ok (jh whole_made.ok jF)),jA,jo,jz⟩ (m:=2) (by kernel_rfl) ⟨⟨trivial,whole_Gcd.p0⟩,whole_Gcd.p1⟩ (by kernel_rfl) (fun _=>by kernel_rfl)
abbrev ob54:SO:=.box [.val .bool,.val (.sl (.int .u32)),.val .bool,.val (.sl (.int .u32))]
def whole_lowest.c5 (a0:Bool)(a1:List (Int))(b0:Bool)(b1:List (Int))(Z:Bool×(List Int)×Bool×(List Int)→Option ρ):Option ρ:=
  bnd (whole_Int_Neg (a0,a1)) fun y=>
  bnd (whole_Int_Neg (b0,b1)) fun y1=>
  Z (y.1,y.2,y1.1,y1.2)
def whole_lowest.c5s:Shape:=⟨[(0,ob11),(1,ob11),(2,ob5),(3,ob28),(4,ob2),(5,ob44)],[(2,ob4),(3,ob4),(4,ob54),(5,ob4)]⟩
def whole_lowest.c5r:Ck:=Ck.of (T:=Bool×(List Int)×Bool×(List Int)) whole_lowest.c5s (fun ρ X Z=>whole_lowest.c5 X.2.2.1 X.2.2.2.1 (q4 X).1 (q4 X).2.1 Z) (fun ρ X V Z=>Z 0 (Shape.inj whole_lowest.c5s (X.1,X.2.1,V.1,V.2.1,V.2.2.1,V.2.2.2,(q4 X).2.2)))
def whole_lowest.cl_ (a0:Bool)(a1:List (Int))(b0:Bool)(b1:List (Int))(Z:Bool×(List Int)×Bool×(List Int)→Option ρ):Option ρ:=
  bnd (whole_Int_Sign (b0,b1)) fun y=>
  br (decide (y<0))
   (bnd (whole_lowest.c5 a0 a1 b0 b1 some) fun y1=>
    Z (y1.1,y1.2.1,y1.2.2.1,y1.2.2.2))
   (Z (a0,a1,b0,b1))
def whole_lowest.cl_r:Ck:=Ck.of (T:=Bool×(List Int)×Bool×(List Int)) whole_lowest.c5s (fun ρ X Z=>whole_lowest.cl_ X.2.2.1 X.2.2.2.1 (q4 X).1 (q4 X).2.1 Z) (fun ρ X V Z=>Z 0 (Shape.inj whole_lowest.c5s (X.1,X.2.1,V.1,V.2.1,V.2.2.1,V.2.2.2,(q4 X).2.2)))
def whole_lowest.c6 (b0:Bool)(b1:List (Int))(Z:Bool×(List Int)→Option ρ):Option ρ:=
  bnd (whole_Of (1:Int)) fun y=>
  bnd (whole_Int_Sub (b0,b1) y) fun y1=>
  Z (y1.1,y1.2)
def whole_lowest.c6r:Ck:=Ck.of (T:=Bool×(List Int)) whole_lowest.c5s (fun ρ X Z=>whole_lowest.c6 (q4 X).1 (q4 X).2.1 Z) (fun ρ X V Z=>Z 0 (Shape.inj whole_lowest.c5s (X.1,X.2.1,X.2.2.1,X.2.2.2.1,(q4 X).1,(q4 X).2.1,X.2.2.1,X.2.2.2.1,V.1,V.2,(q8 X).2.2)))
def whole_lowest (a:Bool×(List Int)) (b:Bool×(List Int)):Option ((Bool×(List Int))×(Bool×(List Int))):=
  bnd (whole_Gcd (a.1,a.2) (b.1,b.2)) fun y=>
  bnd (whole_Int_Div (a.1,a.2) (y.1,y.2)) fun y1=>
  bnd (whole_Int_Div (b.1,b.2) (y.1,y.2)) fun y2=>
  bnd (whole_lowest.cl_ y1.1.1 y1.1.2 y2.1.1 y2.1.2 some) fun y3=>
  bnd (whole_lowest.c6 y3.2.2.1 y3.2.2.2 some) fun y4=>
  some ((y3.1,y3.2.1),y4.1,y4.2)
def whole_lowest.ce:Go.Ql.Callee:=⟨[(.st (.pair .bool (.sl (.int .u32)))),(.st (.pair .bool (.sl (.int .u32))))],[(.st (.pair (.st (.pair .bool (.sl (.int .u32)))) (.st (.pair .bool (.sl (.int .u32))))))],fun X=>whole_lowest X.1 X.2⟩
def whole_lowest.G:Env:=⟨35,tab,[(99,whole_Gcd.ce),(100,whole_Int_Div.ce),(38,whole_Int_Sign.ce),(52,whole_Int_Neg.ce),(43,whole_Of.ce),(98,whole_Int_Sub.ce)],[0,1,2,3,4,5,25],[],[(6,[⟨[],[],[31,32,33],[]⟩,⟨[],[],[30,32],[]⟩,⟨[],[],[30,31],[]⟩,⟨[1,2],[],[30],[]⟩,⟨[0,3,1,2],[],[],[]⟩,⟨[4,0,3,1,2],[4],[],[]⟩]),
  (5,[⟨[],[],[28],[]⟩,⟨[0],[],[28],[]⟩,⟨[],[],[26,27],[]⟩,⟨[2,1,0],[],[],[]⟩,⟨[1,0,3,2],[2],[],[]⟩,⟨[3,2,1,0,4],[3],[],[]⟩])],[(6,whole_lowest.c6r),(216389,whole_lowest.cl_r),(5,whole_lowest.c5r)],[],jE,[]⟩
theorem whole_lowest.p0:PcA whole_lowest.G Tryz.f76 0:=
  Jo (s:=whole_lowest.cl_r) (by kernel_rfl) (by kernel_rfl) (jp (sh:=whole_lowest.c5s) (fun ρ X Z=>(jb fun _=>(jl (jb fun _=>jc) jc))) (fun ρ X t k=>(by kernel_rfl)) (fun X=>by kernel_rfl))
theorem whole_lowest.p1:PcA whole_lowest.G Tryz.f76 1:=
  jv (s:=whole_lowest.c5r) (by kernel_rfl) (by kernel_rfl) (jp (sh:=whole_lowest.c5s) (fun ρ X Z=>(jb fun _=>(jb fun _=>jc))) (fun ρ X t k=>(by kernel_rfl)) (fun X=>by kernel_rfl))
theorem whole_lowest.p2:PcA whole_lowest.G Tryz.f76 2:=
  jv (s:=whole_lowest.c6r) (by kernel_rfl) (by kernel_rfl) (jp (sh:=whole_lowest.c5s) (fun ρ X Z=>(jb fun _=>(jb fun _=>jc))) (fun ρ X t k=>(by kernel_rfl)) (fun X=>by kernel_rfl))
theorem whole_lowest.ok:CalleeOk Tryz.prog 76 whole_lowest.ce:=fn_ok (G:=whole_lowest.G) jM mixed Tryz.func76 ⟨(jh whole_Gcd.ok (jh whole_Int_Div.ok (jh whole_Int_Sign.ok (jh whole_Int_Neg.ok (jh whole_Of.ok (jh whole_Int_Sub.ok jF)))))),jA,jo,jz⟩ (m:=3) (by kernel_rfl) ⟨⟨⟨trivial,whole_lowest.p0⟩,whole_lowest.p1⟩,whole_lowest.p2⟩ (by kernel_rfl) (fun _=>by kernel_rfl)
def whole_Over (a:Bool×(List Int)) (b:Bool×(List Int)):Option (((Bool×(List Int))×(Bool×(List Int)))×((Int)×(Int))):=
  bnd (whole_Int_Sign (b.1,b.2)) fun y=>
  br (y==0)
   (some (((false,[]),false,[]),(4:Int),(0:Int)))
   (bnd (whole_lowest (a.1,a.2) (b.1,b.2)) fun y1=>
    some (((y1.1.1,y1.1.2),y1.2.1,y1.2.2),(0:Int),(0:Int)))
def whole_Over.ce:Go.Ql.Callee:=⟨[(.st (.pair .bool (.sl (.int .u32)))),(.st (.pair .bool (.sl (.int .u32))))],[(.st (.pair (.st (.pair .bool (.sl (.int .u32)))) (.st (.pair .bool (.sl (.int .u32)))))),(.st (.pair (.int .i64) (.int .i64)))],fun X=>whole_Over X.1 X.2⟩
def whole_Over.G:Env:=⟨15,tab,[(38,whole_Int_Sign.ce),(76,whole_lowest.ce)],[0,1,2,3,4,5,8],[],[],[],[],jE,[]⟩
theorem whole_Over.ok:CalleeOk Tryz.prog 45 whole_Over.ce:=fn_ok (G:=whole_Over.G) jM mixed Tryz.func45 ⟨(jh whole_Int_Sign.ok (jh whole_lowest.ok jF)),jA,jo,jz⟩ (m:=0) (by kernel_rfl) trivial (by kernel_rfl) (fun _=>by kernel_rfl)
abbrev ob55:SD:=.one (.aptr 6 0)
def jr.ca_ (t10:List (Bool×(List Int)))(t11:Int)(t12:Int)(Z:(Int)⊕((Int)⊕(Int))→Option ρ):Option ρ:=
  br (decide (t12<t11))
   (bnd (idx t10 t12) fun y=>
    bnd (whole_Int_Sign (y.1,y.2)) fun y1=>
    br (y1 !=0)
     (Z (.inr (.inl t12)))
     (Z (.inl (i64.wrap (t12+1)))))
   (Z (.inr (.inr t12)))
def jr.ca_s:Shape:=⟨[(0,ob16),(1,ob17),(2,ob5),(3,ob0),(10,ob20),(11,ob3),(12,ob3)],[(2,ob54)]⟩
def jr.ca_r:Ck:=Ck.ofLoop (S:=Int) (T:=(Int)⊕(Int)) jr.ca_s (fun X=>(q4 X).2.1) (fun ρ X Q Z=>jr.ca_ X.2.2.2.1 (q4 X).1 Q Z) (fun ρ X V Z=>sel V (fun V=>Z 1 (Shape.inj jr.ca_s (X.1,X.2.1,false,X.2.2.2.1,(q4 X).1,V,false,[],false,[],()))) (fun V=>Z 2 (Shape.inj jr.ca_s (X.1,X.2.1,X.2.2.1,X.2.2.2.1,(q4 X).1,V,(q4 X).2.2))))
def jr.c10  (Z:Unit→Option ρ):Option ρ:=
  Z ()
def jr.c10s:Shape:=⟨[(0,ob16),(1,ob17),(2,ob5),(3,ob0),(6,ob55),(7,ob53),(8,ob45),(10,ob20),(11,ob3),(12,ob3)],[(2,ob54),(6,ob47),(7,ob54),(8,ob37)]⟩
def jr.c10r:Ck:=Ck.of (T:=Unit) jr.c10s (fun ρ X Z=>jr.c10  Z) (fun ρ X V Z=>Z 0 (Shape.inj jr.c10s (X.1,X.2.1,((q4 (q8 X)).2.2.2.1==0),X.2.2.2.1,(q4 X).1,(q4 X).2.1,(q8 X).2.2.2.1,(q4 (q8 X)).1,(q4 (q8 X)).2.1,(q4 (q8 X)).2.2.1,(q8 X).2.2)))
def jr (a:(List (Bool×(List Int)))×(Int)):Option (((Bool×(List Int))×(Bool×(List Int)))×Bool):=
  bnd (iter (fun s↦jr.ca_ (List.drop (1:Nat) (List.take (8:Nat) a.1)) (↑(List.length (List.drop (1:Nat) (List.take (8:Nat) a.1))):Int) s some) (0:Int)) fun y=>
  sel y
   (fun u=>some (((false,([]:List (Ty.den (Ty.int IntKind.u32)))),false,([]:List (Ty.den (Ty.int IntKind.u32)))),false))
   (fun v=>bnd (whole_Of (1:Int)) fun y1=>
    bnd (okIf (decide (List.length (List.set (List.replicate (8:Nat) (false,([]:List (Ty.den (Ty.int IntKind.u32))))) (0:Nat) y1)=List.length (List.replicate (8:Nat) (false,([]:List (Ty.den (Ty.int IntKind.u32)))))))) fun y2=>
    bnd (jG (i64.wrap ((0:Int)-a.2)) (List.set (List.replicate (8:Nat) (false,([]:List (Ty.den (Ty.int IntKind.u32))))) (0:Nat) y1)) fun y3=>
    bnd (idx a.1 (0:Int)) fun y4=>
    bnd (inR (List.length y3.1) (0:Int)) fun y5=>
    bnd (idx y3.1 (0:Int)) fun y6=>
    bnd (whole_Over y4 y6) fun y7=>
    bnd (jr.c10 some) fun y8=>
    some (((y7.1.1.1,y7.1.1.2),y7.1.2.1,y7.1.2.2),y7.2.1==0))
def jr.ce:Go.Ql.Callee:=⟨[(.st (.pair (.ar 8 (.st (.pair .bool (.sl (.int .u32))))) (.int .i64)))],[(.st (.pair (.st (.pair .bool (.sl (.int .u32)))) (.st (.pair .bool (.sl (.int .u32)))))),.bool],fun X=>jr X⟩
def jr.G:Env:=⟨40,tab,[(38,whole_Int_Sign.ce),(43,whole_Of.ce),(45,whole_Over.ce)],[0,1,2,3,5,6,7,8,10,11,12,13,18],[6,22,8000001],[(10,[⟨[],[],[37,38,39],[]⟩,⟨[],[],[36],[2]⟩,⟨[1],[],[36],[2]⟩,⟨[2,1],[],[36],[2]⟩,⟨[0],[2],[37,38,39],[]⟩,⟨[3,2,1,4,0],[],[],[]⟩])],[(10,jr.c10r),(100002,jr.ca_r)],[(44,jG.mc)],jE,[]⟩
theorem jr.p0:PcA jr.G Tryz.f9 0:=
  Ja (s:=jr.ca_r) (by kernel_rfl) (by kernel_rfl) (jU (sh:=jr.ca_s) (I:=fun X Q=>(X.1,X.2.1,X.2.2.1,X.2.2.2.1,(q4 X).1,Q,(q4 X).2.2)) (fun X=>rfl) (fun ρ X Q Z=>(jl (jb fun _=>(jb fun _=>(jl jc jc))) jc)) (fun ρ X t k=>(kj (fun _=>(by kernel_rfl)) (fun _=>(by kernel_rfl)))) (fun X s=>by kernel_rfl))
theorem jr.p1:PcA jr.G Tryz.f9 1:=
  jv (s:=jr.c10r) (by kernel_rfl) (by kernel_rfl) (jp (sh:=jr.c10s) (fun ρ X Z=>jc) (fun ρ X t k=>(by kernel_rfl)) (fun X=>by kernel_rfl))
theorem jr.ok:CalleeOk Tryz.prog 9 jr.ce:=fn_ok (G:=jr.G) jM mixed Tryz.func9 ⟨(jh whole_Int_Sign.ok (jh whole_Of.ok (jh whole_Over.ok jF))),(Yy jG.ok jA),jo,jz⟩ (m:=2) (by kernel_rfl) ⟨⟨trivial,jr.p0⟩,jr.p1⟩ (by kernel_rfl) (fun _=>by kernel_rfl)
def Yk (n:Bool×(List Int)):Option ((List (Bool×(List Int)))×(Int)):=
  bnd (idx (List.replicate (8:Nat) (false,([]:List (Ty.den (Ty.int IntKind.i64))))) (0:Int)) fun y=>
  some (List.set (List.replicate (8:Nat) (false,([]:List (Ty.den (Ty.int IntKind.i64))))) (0:Nat) (n.1,n.2),(0:Int))
def Yk.ce:Go.Ql.Callee:=⟨[(.st (.pair .bool (.sl (.int .i64))))],[(.st (.pair (.ar 8 (.st (.pair .bool (.sl (.int .i64))))) (.int .i64)))],fun X=>Yk X⟩
def Yk.G:Env:=⟨9,tab,[],[0,1,2,3],[2,3,4],[],[],[],jE,[]⟩
theorem Yk.ok:CalleeOk Tryz.prog 47 Yk.ce:=fn_ok (G:=Yk.G) jM mixed Tryz.func47 ⟨jF,jA,jo,jz⟩ (m:=0) (by kernel_rfl) trivial (by kernel_rfl) (fun _=>by kernel_rfl)
def JW.ca_ (i:Int)(a_1:List ((List (Bool×(List Int)))×(Int)))(Z:((Int)×(List ((List (Bool×(List Int)))×(Int))))⊕((Int)×(List ((List (Bool×(List Int)))×(Int))))→Option ρ):Option ρ:=
  br (decide (i<8))
   (bnd (inR (a_1.length) (0:Int)) fun y=>
    bnd (okIf (decide ((0:Ty.den (Ty.int IntKind.i64))≤i)&&decide (i<(↑(8:Nat):Int)))) fun y1=>
    bnd (idx a_1 (0:Int)) fun y2=>
    bnd (idx y2.1 i) fun y3=>
    bnd (kl y3) fun y4=>
    bnd (inR (a_1.length) (0:Int)) fun y5=>
    bnd (okIf (decide ((0:Ty.den (Ty.int IntKind.i64))≤i)&&decide (i<(↑(8:Nat):Int)))) fun y6=>
    bnd (idx a_1 (0:Int)) fun y7=>
    bnd (idx y7.1 i) fun y8=>
    Z (.inl ((i64.wrap (i+1)),(List.set a_1 (0:Nat) (List.set y7.1 (Int.toNat i) y4,y7.2)))))
   (Z (.inr (i,a_1)))
def JW.ca_s:Shape:=⟨[(0,ob29),(1,ob32),(2,ob33),(3,ob3)],[(1,ob34),(2,ob34)]⟩
def JW.ca_r:Ck:=Ck.ofLoop (S:=(Int)×(List ((List (Bool×(List Int)))×(Int)))) (T:=(Int)×(List ((List (Bool×(List Int)))×(Int)))) JW.ca_s (fun X=>(X.2.1,X.2.2.1)) (fun ρ X Q Z=>JW.ca_ Q.1 Q.2 Z) (fun ρ X V Z=>Z 2 (Shape.inj JW.ca_s (X.1,V.1,V.2,X.2.2.2)))
def JW (a:(List (Bool×(List Int)))×(Int)):Option ((List (Bool×(List Int)))×(Int)):=
  bnd (iter (fun s↦JW.ca_ s.1 s.2 some) ((0:Int),[a])) fun y=>
  bnd (idx y.2 (0:Int)) fun y1=>
  some y1
def JW.ce:Go.Ql.Callee:=⟨[(.st (.pair (.ar 8 (.st (.pair .bool (.sl (.int .i64))))) (.int .i64)))],[(.st (.pair (.ar 8 (.st (.pair .bool (.sl (.int .i64))))) (.int .i64)))],fun X=>JW X⟩
def JW.G:Env:=⟨17,tab,[(53,kl.ce)],[0,1,2,3,5],[1,2],[],[(100002,JW.ca_r)],[],jE,[]⟩
theorem JW.p0:PcA JW.G Tryz.f78 0:=
  Ja (s:=JW.ca_r) (by kernel_rfl) (by kernel_rfl) (jU (sh:=JW.ca_s) (I:=fun X Q=>(X.1,Q.1,Q.2,X.2.2.2)) (fun X=>rfl) (fun ρ X Q Z=>(jl (jb fun _=>(jb fun _=>(jb fun _=>(jb fun _=>(jb fun _=>(jb fun _=>(jb fun _=>(jb fun _=>(jb fun _=>jc))))))))) jc)) (fun ρ X t k=>(by kernel_rfl)) (fun X s=>by kernel_rfl))
theorem JW.ok:CalleeOk Tryz.prog 78 JW.ce:=fn_ok (G:=JW.G) jM mixed Tryz.func78 ⟨(jh kl.ok jF),jA,jo,jz⟩ (m:=1) (by kernel_rfl) ⟨trivial,JW.p0⟩ (by kernel_rfl) (fun _=>by kernel_rfl)
abbrev ob56:SD:=.one (.own 17 0)
def jJ.c7 (c:Int)(j:Int)(b1:List (Int))(Z:Bool→Option ρ):Option ρ:=
  br (decide (j<(b1.length:Int)))
   (Z true)
   (Z (decide (c>0)))
def jJ.c7s:Shape:=⟨[(0,ob27),(1,ob27),(2,ob5),(3,ob28),(4,ob2),(5,ob56),(6,ob3),(7,ob3),(8,ob3)],[(2,ob23),(3,ob23),(4,ob23),(17,ob25)]⟩
def jJ.c7x0:Shape:=⟨[(0,ob27),(1,ob27),(2,ob5),(3,ob28),(4,ob2),(5,ob56),(6,ob3),(7,ob3),(8,ob3),(33,ob0)],[(2,ob23),(3,ob23),(4,ob23),(17,ob25)]⟩
def jJ.c7r:Ck:=Ck.of (T:=Bool) jJ.c7s (fun ρ X Z=>jJ.c7 X.2.2.2.1 (q4 X).1 (q8 X).1 Z) (fun ρ X V Z=>Z 0 (Shape.inj jJ.c7x0 (X.1,X.2.1,X.2.2.1,X.2.2.2.1,(q4 X).1,V,(q4 X).2)))
def jJ.c11 (i:Int)(c:Int)(j:Int)(a1:List (Int))(b1:List (Int))(Z:Int→Option ρ):Option ρ:=
  bnd (idx a1 i) fun y=>
  bnd (idx b1 j) fun y1=>
  Z (i64.wrap (c+i64.wrap (y*y1)))
def jJ.c11r:Ck:=Ck.of (T:=Int) jJ.c7s (fun ρ X Z=>jJ.c11 X.2.2.1 X.2.2.2.1 (q4 X).1 (q4 X).2.2.1 (q8 X).1 Z) (fun ρ X V Z=>Z 0 (Shape.inj jJ.c7s (X.1,X.2.1,X.2.2.1,V,(q4 X))))
def jJ.cn_ (i:Int)(c:Int)(j:Int)(a1:List (Int))(b1:List (Int))(Z:Int→Option ρ):Option ρ:=
  br (decide (j<(b1.length:Int)))
   (bnd (jJ.c11 i c j a1 b1 some) fun y=>
    Z y)
   (Z c)
def jJ.cn_r:Ck:=Ck.of (T:=Int) jJ.c7s (fun ρ X Z=>jJ.cn_ X.2.2.1 X.2.2.2.1 (q4 X).1 (q4 X).2.2.1 (q8 X).1 Z) (fun ρ X V Z=>Z 0 (Shape.inj jJ.c7s (X.1,X.2.1,X.2.2.1,V,(q4 X))))
def jJ.cf_ (i:Int)(c:Int)(j:Int)(a1:List (Int))(b1:List (Int))(t17:List (Int))(Z:((Int)×(Int)×(List Int))⊕((Int)×(Int)×(List Int))→Option ρ):Option ρ:=
  bnd (jJ.c7 c j b1 some) fun y=>
  br y
   (bnd (inR (t17.length) (i64.wrap (i+j))) fun y1=>
    bnd (idx t17 (i64.wrap (i+j))) fun y2=>
    bnd (jJ.cn_ i (i64.wrap (c+y2)) j a1 b1 some) fun y3=>
    bnd (inR (t17.length) (i64.wrap (i+j))) fun y4=>
    bnd (idx t17 (i64.wrap (i+j))) fun y5=>
    Z (.inl ((i64.wrap (Int.tdiv y3 (10000:Int))),(i64.wrap (j+1)),(List.set t17 (Int.toNat (i64.wrap (i+j))) (Int.tmod y3 (10000:Int))))))
   (Z (.inr (c,j,t17)))
def jJ.cf_r:Ck:=Ck.ofLoop (S:=(Int)×(Int)×(List Int)) (T:=(Int)×(Int)×(List Int)) jJ.c7s (fun X=>(X.2.2.2.1,(q4 X).1,(q8 X).2.2.2.1)) (fun ρ X Q Z=>jJ.cf_ X.2.2.1 Q.1 Q.2.1 (q4 X).2.2.1 (q8 X).1 Q.2.2 Z) (fun ρ X V Z=>Z 4 (Shape.inj jJ.c7s (X.1,X.2.1,X.2.2.1,V.1,V.2.1,(q4 X).2.1,(q4 X).2.2.1,(q4 X).2.2.2.1,(q8 X).1,(q8 X).2.1,(q8 X).2.2.1,V.2.2,())))
def jJ.cd_ (i:Int)(a1:List (Int))(b1:List (Int))(t17:List (Int))(Z:((Int)×(List Int))⊕((Int)×(List Int))→Option ρ):Option ρ:=
  br (decide (i<(a1.length:Int)))
   (bnd (iter (fun s↦jJ.cf_ i s.1 s.2.1 a1 b1 s.2.2 some) ((0:Int),(0:Int),t17)) fun y=>
    Z (.inl ((i64.wrap (i+1)),y.2.2)))
   (Z (.inr (i,t17)))
def jJ.cd_s:Shape:=⟨[(0,ob27),(1,ob27),(2,ob5),(3,ob28),(4,ob2),(5,ob56),(6,ob3)],[(2,ob23),(3,ob23),(4,ob23),(17,ob25)]⟩
def jJ.cd_r:Ck:=Ck.ofLoop (S:=(Int)×(List Int)) (T:=(Int)×(List Int)) jJ.cd_s (fun X=>(X.2.2.1,(q8 X).2.1)) (fun ρ X Q Z=>jJ.cd_ Q.1 (q4 X).1 (q4 X).2.2.1 Q.2 Z) (fun ρ X V Z=>Z 2 (Shape.inj jJ.cd_s (X.1,X.2.1,V.1,X.2.2.2.1,(q4 X).1,(q4 X).2.1,(q4 X).2.2.1,(q4 X).2.2.2.1,(q8 X).1,V.2,())))
def jJ (a:Bool×(List Int)) (b:Bool×(List Int)):Option (Bool×(List Int)):=
  bnd (okIf (decide ((0:Int)≤i64.wrap (i64.wrap ((↑(List.length a.2):Int)+(↑(List.length b.2):Int))+1))&&decide (i64.wrap (i64.wrap ((↑(List.length a.2):Int)+(↑(List.length b.2):Int))+1)≤i64.wrap (i64.wrap ((↑(List.length a.2):Int)+(↑(List.length b.2):Int))+1))&&decide (i64.wrap (i64.wrap ((↑(List.length a.2):Int)+(↑(List.length b.2):Int))+1)*(↑(8:Nat):Int)≤140737488355328)&&decide (i64.wrap (i64.wrap ((↑(List.length a.2):Int)+(↑(List.length b.2):Int))+1)≤140737488355328))) fun y=>
  bnd (iter (fun s↦jJ.cd_ s.1 a.2 b.2 s.2 some) ((0:Int),List.replicate (Int.toNat (i64.wrap (i64.wrap ((↑(List.length a.2):Int)+(↑(List.length b.2):Int))+1))) (0:Int))) fun y1=>
  bnd (jS (!a.1==b.1) y1.2) fun y2=>
  some (y2.1,y2.2)
def jJ.ce:Go.Ql.Callee:=⟨[(.st (.pair .bool (.sl (.int .i64)))),(.st (.pair .bool (.sl (.int .i64))))],[(.st (.pair .bool (.sl (.int .i64))))],fun X=>jJ X.1 X.2⟩
def jJ.G:Env:=⟨78,tab,[(64,jS.ce)],[0,1,2,3,4,5,6,7,8,22,33,48],[17],[(11,[⟨[],[],[50,51,52,53,54,55,56,57,58,59,60],[]⟩,⟨[],[],[49,52,55,56,57,58,59],[]⟩,⟨[1],[],[49,52,55,56,57,58,59],[]⟩,⟨[],[],[49,50,51,55,56,57,58,59],[]⟩,⟨[2,1,3],[],[49,55,56,57,58,59],[]⟩,⟨[4,2,1,3],[],[49,55,56,57,58,59],[]⟩,⟨[],[],[49,50,51,52,53,54,57],[]⟩,⟨[6],[],[49,50,51,52,53,54,57],[]⟩,⟨[],[],[49,50,51,52,53,54,55,56],[]⟩,⟨[7,6,8],[],[49,50,51,52,53,54],[]⟩,⟨[9,7,6,8],[],[49,50,51,52,53,54],[]⟩,⟨[5,4,2,1,3,10,9,7,6,8],[],[49],[]⟩,⟨[0,11,5,4,2,1,3,10,9,7,6,8],[],[],[]⟩,⟨[12,0,11,5,4,2,1,3,10,9,7,6,8],[],[],[]⟩])],[(100003,jJ.cd_r),(100007,jJ.cf_r),(240965,jJ.cn_r),(11,jJ.c11r),(7,jJ.c7r)],[],jE,[]⟩
theorem jJ.p0:PcA jJ.G Tryz.f80 0:=
  Ja (s:=jJ.cd_r) (by kernel_rfl) (by kernel_rfl) (jU (sh:=jJ.cd_s) (I:=fun X Q=>(X.1,X.2.1,Q.1,X.2.2.2.1,(q4 X).1,(q4 X).2.1,(q4 X).2.2.1,(q4 X).2.2.2.1,(q8 X).1,Q.2,())) (fun X=>rfl) (fun ρ X Q Z=>(jl (jb fun _=>jc) jc)) (fun ρ X t k=>(by kernel_rfl)) (fun X s=>by kernel_rfl))
theorem jJ.p1:PcA jJ.G Tryz.f80 1:=
  Ja (s:=jJ.cf_r) (by kernel_rfl) (by kernel_rfl) (jU (sh:=jJ.c7s) (I:=fun X Q=>(X.1,X.2.1,X.2.2.1,Q.1,Q.2.1,(q4 X).2.1,(q4 X).2.2.1,(q4 X).2.2.2.1,(q8 X).1,(q8 X).2.1,(q8 X).2.2.1,Q.2.2,())) (fun X=>rfl) (fun ρ X Q Z=>(jb fun _=>(jl (jb fun _=>(jb fun _=>(jb fun _=>(jb fun _=>(jb fun _=>jc))))) jc))) (fun ρ X t k=>(by kernel_rfl)) (fun X s=>by kernel_rfl))
theorem jJ.p2:PcA jJ.G Tryz.f80 2:=
  jv (s:=jJ.c7r) (by kernel_rfl) (by kernel_rfl) (jp (sh:=jJ.c7s) (fun ρ X Z=>(jl jc jc)) (fun ρ X t k=>(by kernel_rfl)) (fun X=>by kernel_rfl))
theorem jJ.p3:PcA jJ.G Tryz.f80 3:=
  Jo (s:=jJ.cn_r) (by kernel_rfl) (by kernel_rfl) (jp (sh:=jJ.c7s) (fun ρ X Z=>(jl (jb fun _=>jc) jc)) (fun ρ X t k=>(by kernel_rfl)) (fun X=>by kernel_rfl))
theorem jJ.p4:PcA jJ.G Tryz.f80 4:=
  jv (s:=jJ.c11r) (by kernel_rfl) (by kernel_rfl) (jp (sh:=jJ.c7s) (fun ρ X Z=>(jb fun _=>(jb fun _=>jc))) (fun ρ X t k=>(by kernel_rfl)) (fun X=>by kernel_rfl))
theorem jJ.ok:CalleeOk Tryz.prog 80 jJ.ce:=fn_ok (G:=jJ.G) jM mixed Tryz.func80 ⟨(jh jS.ok jF),jA,jo,jz⟩ (m:=5) (by kernel_rfl) ⟨⟨⟨⟨⟨trivial,jJ.p0⟩,jJ.p1⟩,jJ.p2⟩,jJ.p3⟩,jJ.p4⟩ (by kernel_rfl) (fun _=>by kernel_rfl)
def Jl.cl_ (n:Int)(out0:Bool)(out1:List (Int))(t40:Bool)(t41:List (Int))(Z:Bool×(List Int)→Option ρ):Option ρ:=
  br (Int.tmod n (2:Int)==1)
   (bnd (jJ (out0,out1) (t40,t41)) fun y=>
    Z (y.1,y.2))
   (Z (out0,out1))
def Jl.cl_s:Shape:=⟨[(0,ob3),(2,ob5),(3,ob28),(4,ob2)],[(2,ob23),(3,ob23),(4,ob23)]⟩
def Jl.cl_r:Ck:=Ck.of (T:=Bool×(List Int)) Jl.cl_s (fun ρ X Z=>Jl.cl_ X.1 X.2.2.2.1 (q4 X).1 (q4 X).2.1 (q4 X).2.2.1 Z) (fun ρ X V Z=>Z 0 (Shape.inj Jl.cl_s (X.1,X.2.1,X.2.2.1,V.1,V.2,(q4 X).2)))
def Jl.cd_ (n:Int)(out0:Bool)(out1:List (Int))(t40:Bool)(t41:List (Int))(Z:((Int)×Bool×(List Int)×Bool×(List Int))⊕((Int)×Bool×(List Int)×Bool×(List Int))→Option ρ):Option ρ:=
  br (decide (n>0))
   (bnd (Jl.cl_ n out0 out1 t40 t41 some) fun y=>
    bnd (jJ (t40,t41) (t40,t41)) fun y1=>
    Z (.inl ((i64.wrap (Int.tdiv n (2:Int))),y.1,y.2,y1.1,y1.2)))
   (Z (.inr (n,out0,out1,t40,t41)))
def Jl.cd_r:Ck:=Ck.ofLoop (S:=(Int)×Bool×(List Int)×Bool×(List Int)) (T:=(Int)×Bool×(List Int)×Bool×(List Int)) Jl.cl_s (fun X=>(X.1,X.2.2.2.1,(q4 X).1,(q4 X).2.1,(q4 X).2.2.1)) (fun ρ X Q Z=>Jl.cd_ Q.1 Q.2.1 Q.2.2.1 Q.2.2.2.1 Q.2.2.2.2 Z) (fun ρ X V Z=>Z 2 (Shape.inj Jl.cl_s (V.1,X.2.1,X.2.2.1,V.2.1,V.2.2.1,V.2.2.2.1,V.2.2.2.2,())))
def Jl (n:Int):Option (Bool×(List Int)):=
  bnd (Jm (1:Int)) fun y=>
  bnd (Jm (2:Int)) fun y1=>
  bnd (iter (fun s↦Jl.cd_ s.1 s.2.1 s.2.2.1 s.2.2.2.1 s.2.2.2.2 some) (n,y.1,y.2,y1.1,y1.2)) fun y2=>
  some (y2.2.1,y2.2.2.1)
def Jl.ce:Go.Ql.Callee:=⟨[(.int .i64)],[(.st (.pair .bool (.sl (.int .i64))))],fun X=>Jl X⟩
def Jl.G:Env:=⟨21,tab,[(34,Jm.ce),(80,jJ.ce)],[0,2,3,4,8,11],[],[],[(100003,Jl.cd_r),(216389,Jl.cl_r)],[],jE,[]⟩
theorem Jl.p0:PcA Jl.G Tryz.f49 0:=
  Ja (s:=Jl.cd_r) (by kernel_rfl) (by kernel_rfl) (jU (sh:=Jl.cl_s) (I:=fun X Q=>(Q.1,X.2.1,X.2.2.1,Q.2.1,Q.2.2.1,Q.2.2.2.1,Q.2.2.2.2,())) (fun X=>rfl) (fun ρ X Q Z=>(jl (jb fun _=>(jb fun _=>jc)) jc)) (fun ρ X t k=>(by kernel_rfl)) (fun X s=>by kernel_rfl))
theorem Jl.p1:PcA Jl.G Tryz.f49 1:=
  Jo (s:=Jl.cl_r) (by kernel_rfl) (by kernel_rfl) (jp (sh:=Jl.cl_s) (fun ρ X Z=>(jl (jb fun _=>jc) jc)) (fun ρ X t k=>(by kernel_rfl)) (fun X=>by kernel_rfl))
theorem Jl.ok:CalleeOk Tryz.prog 49 Jl.ce:=fn_ok (G:=Jl.G) jM mixed Tryz.func49 ⟨(jh Jm.ok (jh jJ.ok jF)),jA,jo,jz⟩ (m:=2) (by kernel_rfl) ⟨⟨trivial,Jl.p0⟩,Jl.p1⟩ (by kernel_rfl) (fun _=>by kernel_rfl)
def Ju.c6 (i:Int)(a_1:List ((List (Bool×(List Int)))×(Int)))(t50:Bool)(t51:List (Int))(Z:List ((List (Bool×(List Int)))×(Int))→Option ρ):Option ρ:=
  bnd (inR (a_1.length) (0:Int)) fun y=>
  bnd (okIf (decide ((0:Ty.den (Ty.int IntKind.i64))≤i)&&decide (i<(↑(8:Nat):Int)))) fun y1=>
  bnd (idx a_1 (0:Int)) fun y2=>
  bnd (idx y2.1 i) fun y3=>
  bnd (jJ y3 (t50,t51)) fun y4=>
  bnd (inR (a_1.length) (0:Int)) fun y5=>
  bnd (okIf (decide ((0:Ty.den (Ty.int IntKind.i64))≤i)&&decide (i<(↑(8:Nat):Int)))) fun y6=>
  bnd (idx a_1 (0:Int)) fun y7=>
  bnd (idx y7.1 i) fun y8=>
  Z (List.set a_1 (0:Nat) (List.set y7.1 (Int.toNat i) y4,y7.2))
def Ju.c6s:Shape:=⟨[(0,ob29),(1,ob3),(2,ob33),(4,ob36),(5,ob44),(6,ob3)],[(2,ob34),(4,ob34),(5,ob23)]⟩
def Ju.c6r:Ck:=Ck.of (T:=List ((List (Bool×(List Int)))×(Int))) Ju.c6s (fun ρ X Z=>Ju.c6 X.2.2.1 X.2.2.2.1 (q4 X).2.1 (q4 X).2.2.1 Z) (fun ρ X V Z=>Z 0 (Shape.inj Ju.c6s (X.1,X.2.1,X.2.2.1,V,(q4 X))))
def Ju.cb_ (i:Int)(a_1:List ((List (Bool×(List Int)))×(Int)))(t50:Bool)(t51:List (Int))(Z:((Int)×(List ((List (Bool×(List Int)))×(Int))))⊕((Int)×(List ((List (Bool×(List Int)))×(Int))))→Option ρ):Option ρ:=
  br (decide (i<8))
   (bnd (Ju.c6 i a_1 t50 t51 some) fun y=>
    Z (.inl ((i64.wrap (i+1)),y)))
   (Z (.inr (i,a_1)))
def Ju.cb_r:Ck:=Ck.ofLoop (S:=(Int)×(List ((List (Bool×(List Int)))×(Int)))) (T:=(Int)×(List ((List (Bool×(List Int)))×(Int)))) Ju.c6s (fun X=>(X.2.2.1,X.2.2.2.1)) (fun ρ X Q Z=>Ju.cb_ Q.1 Q.2 (q4 X).2.1 (q4 X).2.2.1 Z) (fun ρ X V Z=>Z 2 (Shape.inj Ju.c6s (X.1,X.2.1,V.1,V.2,(q4 X))))
def Ju.cM_ (e:Int)(a_1:List ((List (Bool×(List Int)))×(Int)))(Z:List ((List (Bool×(List Int)))×(Int))→Option ρ):Option ρ:=
  bnd (inR (a_1.length) (0:Int)) fun y=>
  bnd (idx a_1 (0:Int)) fun y1=>
  br (decide (y1.2<e))
   (bnd (inR (a_1.length) (0:Int)) fun y2=>
    bnd (idx a_1 (0:Int)) fun y3=>
    bnd (Jl (i64.wrap (e-y3.2))) fun y4=>
    bnd (iter (fun s↦Ju.cb_ s.1 s.2 y4.1 y4.2 some) ((0:Int),a_1)) fun y5=>
    bnd (inR (List.length y5.2) (0:Int)) fun y6=>
    bnd (idx y5.2 (0:Int)) fun y7=>
    Z (List.set y5.2 (0:Nat) (y7.1,e)))
   (Z a_1)
def Ju.cM_s:Shape:=⟨[(0,ob29),(1,ob3),(2,ob33),(4,ob36)],[(2,ob34),(4,ob34)]⟩
def Ju.cM_r:Ck:=Ck.of (T:=List ((List (Bool×(List Int)))×(Int))) Ju.cM_s (fun ρ X Z=>Ju.cM_ X.2.1 X.2.2.1 Z) (fun ρ X V Z=>Z 0 (Shape.inj Ju.cM_s (X.1,X.2.1,V,X.2.2.2)))
def Ju (a:(List (Bool×(List Int)))×(Int)) (e:Int):Option ((List (Bool×(List Int)))×(Int)):=
  bnd (Ju.cM_ e [a] some) fun y=>
  bnd (idx y (0:Int)) fun y1=>
  some y1
def Ju.ce:Go.Ql.Callee:=⟨[(.st (.pair (.ar 8 (.st (.pair .bool (.sl (.int .i64))))) (.int .i64))),(.int .i64)],[(.st (.pair (.ar 8 (.st (.pair .bool (.sl (.int .i64))))) (.int .i64)))],fun X=>Ju X.1 X.2⟩
def Ju.G:Env:=⟨32,tab,[(49,Jl.ce),(80,jJ.ce)],[0,1,2,4,5,6,10,17],[2,4],[(6,[⟨[],[],[21,22,23,24,25,26,27],[]⟩,⟨[],[],[20,22,25,27],[]⟩,⟨[],[],[20,21,25,27],[]⟩,⟨[2,1],[],[20,25,27],[]⟩,⟨[3,2,1],[],[20,25,27],[]⟩,⟨[],[],[20,21,22,23,24,27],[]⟩,⟨[4,3,2,1,5],[],[20,27],[]⟩,⟨[],[],[20,21,22,23,24,25,26],[]⟩,⟨[7,0,1,2,3,4,5,6],[],[],[]⟩,⟨[8,7,0,1,2,3,4,5,6],[2],[],[]⟩])],[(204118,Ju.cM_r),(100004,Ju.cb_r),(6,Ju.c6r)],[],jE,[]⟩
theorem Ju.p0:PcA Ju.G Tryz.f101 0:=
  Jo (s:=Ju.cM_r) (by kernel_rfl) (by kernel_rfl) (jp (sh:=Ju.cM_s) (fun ρ X Z=>(jb fun _=>(jb fun _=>(jl (jb fun _=>(jb fun _=>(jb fun _=>(jb fun _=>(jb fun _=>(jb fun _=>jc)))))) jc)))) (fun ρ X t k=>(by kernel_rfl)) (fun X=>by kernel_rfl))
theorem Ju.p1:PcA Ju.G Tryz.f101 1:=
  Ja (s:=Ju.cb_r) (by kernel_rfl) (by kernel_rfl) (jU (sh:=Ju.c6s) (I:=fun X Q=>(X.1,X.2.1,Q.1,Q.2,(q4 X))) (fun X=>rfl) (fun ρ X Q Z=>(jl (jb fun _=>jc) jc)) (fun ρ X t k=>(by kernel_rfl)) (fun X s=>by kernel_rfl))
theorem Ju.p2:PcA Ju.G Tryz.f101 2:=
  jv (s:=Ju.c6r) (by kernel_rfl) (by kernel_rfl) (jp (sh:=Ju.c6s) (fun ρ X Z=>(jb fun _=>(jb fun _=>(jb fun _=>(jb fun _=>(jb fun _=>(jb fun _=>(jb fun _=>(jb fun _=>(jb fun _=>jc)))))))))) (fun ρ X t k=>(by kernel_rfl)) (fun X=>by kernel_rfl))
theorem Ju.ok:CalleeOk Tryz.prog 101 Ju.ce:=fn_ok (G:=Ju.G) jM mixed Tryz.func101 ⟨(jh Jl.ok (jh jJ.ok jF)),jA,jo,jz⟩ (m:=3) (by kernel_rfl) ⟨⟨⟨trivial,Ju.p0⟩,Ju.p1⟩,Ju.p2⟩ (by kernel_rfl) (fun _=>by kernel_rfl)
abbrev ob57:SD:=.one (.aptr 3 0)
def Jx.c10 (i:Int)(a_1:List ((List (Bool×(List Int)))×(Int)))(b_1:List ((List (Bool×(List Int)))×(Int)))(Z:List ((List (Bool×(List Int)))×(Int))→Option ρ):Option ρ:=
  bnd (inR (a_1.length) (0:Int)) fun y=>
  bnd (okIf (decide ((0:Ty.den (Ty.int IntKind.i64))≤i)&&decide (i<(↑(8:Nat):Int)))) fun y1=>
  bnd (idx a_1 (0:Int)) fun y2=>
  bnd (idx y2.1 i) fun y3=>
  bnd (inR (b_1.length) (0:Int)) fun y4=>
  bnd (okIf (decide ((0:Ty.den (Ty.int IntKind.i64))≤i)&&decide (i<(↑(8:Nat):Int)))) fun y5=>
  bnd (idx b_1 (0:Int)) fun y6=>
  bnd (idx y6.1 i) fun y7=>
  bnd (Jf y3 y7) fun y8=>
  bnd (inR (a_1.length) (0:Int)) fun y9=>
  bnd (okIf (decide ((0:Ty.den (Ty.int IntKind.i64))≤i)&&decide (i<(↑(8:Nat):Int)))) fun y10=>
  bnd (idx a_1 (0:Int)) fun y11=>
  bnd (idx y11.1 i) fun y12=>
  Z (List.set a_1 (0:Nat) (List.set y11.1 (Int.toNat i) y8,y11.2))
def Jx.c10s:Shape:=⟨[(0,ob29),(1,ob29),(2,ob33),(3,ob57),(4,ob36),(5,ob3)],[(2,ob34),(3,ob34),(4,ob34)]⟩
def Jx.c10r:Ck:=Ck.of (T:=List ((List (Bool×(List Int)))×(Int))) Jx.c10s (fun ρ X Z=>Jx.c10 X.2.2.1 X.2.2.2.1 (q4 X).1 Z) (fun ρ X V Z=>Z 0 (Shape.inj Jx.c10s (X.1,X.2.1,X.2.2.1,V,(q4 X))))
def Jx.ci_ (i:Int)(a_1:List ((List (Bool×(List Int)))×(Int)))(b_1:List ((List (Bool×(List Int)))×(Int)))(Z:((Int)×(List ((List (Bool×(List Int)))×(Int))))⊕((Int)×(List ((List (Bool×(List Int)))×(Int))))→Option ρ):Option ρ:=
  br (decide (i<8))
   (bnd (Jx.c10 i a_1 b_1 some) fun y=>
    Z (.inl ((i64.wrap (i+1)),y)))
   (Z (.inr (i,a_1)))
def Jx.ci_r:Ck:=Ck.ofLoop (S:=(Int)×(List ((List (Bool×(List Int)))×(Int)))) (T:=(Int)×(List ((List (Bool×(List Int)))×(Int)))) Jx.c10s (fun X=>(X.2.2.1,X.2.2.2.1)) (fun ρ X Q Z=>Jx.ci_ Q.1 Q.2 (q4 X).1 Z) (fun ρ X V Z=>Z 2 (Shape.inj Jx.c10s (X.1,X.2.1,V.1,V.2,(q4 X))))
def Jx (a:(List (Bool×(List Int)))×(Int)) (b:(List (Bool×(List Int)))×(Int)):Option ((List (Bool×(List Int)))×(Int)):=
  bnd (Jk a) fun y=>
  br y
   (some b)
   (bnd (Jk b) fun y1=>
    br y1
     (some a)
     (bnd (Ju a b.2) fun y2=>
      bnd (Ju b y2.2) fun y3=>
      bnd (iter (fun s↦Jx.ci_ s.1 s.2 [y3] some) ((0:Int),[y2])) fun y4=>
      bnd (idx y4.2 (0:Int)) fun y5=>
      bnd (Jk y5) fun y6=>
      br y6
       (some (List.replicate (8:Nat) (false,[]),(0:Int)))
       (bnd (idx y4.2 (0:Int)) fun y7=>
        bnd (jI y7) fun y8=>
        some y8)))
def Jx.ce:Go.Ql.Callee:=⟨[(.st (.pair (.ar 8 (.st (.pair .bool (.sl (.int .i64))))) (.int .i64))),(.st (.pair (.ar 8 (.st (.pair .bool (.sl (.int .i64))))) (.int .i64)))],[(.st (.pair (.ar 8 (.st (.pair .bool (.sl (.int .i64))))) (.int .i64)))],fun X=>Jx X.1 X.2⟩
def Jx.G:Env:=⟨41,tab,[(14,Jk.ce),(101,Ju.ce),(92,Jf.ce),(36,jI.ce)],[0,1,2,3,4,5,7,10,21,37],[2,3,4,38],[(10,[⟨[],[],[25,26,27,28,29,30,31,32,33,34],[]⟩,⟨[],[],[24,26,29,30,31,32,34],[]⟩,⟨[],[],[24,25,29,30,31,32,34],[]⟩,⟨[2,1],[],[24,29,30,31,32,34],[]⟩,⟨[3,2,1],[],[24,29,30,31,32,34],[]⟩,⟨[],[],[24,25,26,27,28,30,34],[]⟩,⟨[],[],[24,25,26,27,28,29,34],[]⟩,⟨[6,5],[],[24,25,26,27,28,34],[]⟩,⟨[7,6,5],[],[24,25,26,27,28,34],[]⟩,⟨[4,3,2,1,8,7,6,5],[],[24,34],[]⟩,⟨[],[],[24,25,26,27,28,29,30,31,32,33],[]⟩,⟨[10,0,1,2,3,4,5,6,7,8,9],[],[],[]⟩,⟨[11,10,0,1,2,3,4,5,6,7,8,9],[2],[],[]⟩])],[(100008,Jx.ci_r),(10,Jx.c10r)],[],jE,[]⟩
theorem Jx.p0:PcA Jx.G Tryz.f77 0:=
  Ja (s:=Jx.ci_r) (by kernel_rfl) (by kernel_rfl) (jU (sh:=Jx.c10s) (I:=fun X Q=>(X.1,X.2.1,Q.1,Q.2,(q4 X))) (fun X=>rfl) (fun ρ X Q Z=>(jl (jb fun _=>jc) jc)) (fun ρ X t k=>(by kernel_rfl)) (fun X s=>by kernel_rfl))
theorem Jx.p1:PcA Jx.G Tryz.f77 1:=
  jv (s:=Jx.c10r) (by kernel_rfl) (by kernel_rfl) (jp (sh:=Jx.c10s) (fun ρ X Z=>(jb fun _=>(jb fun _=>(jb fun _=>(jb fun _=>(jb fun _=>(jb fun _=>(jb fun _=>(jb fun _=>(jb fun _=>(jb fun _=>(jb fun _=>(jb fun _=>(jb fun _=>jc)))))))))))))) (fun ρ X t k=>(by kernel_rfl)) (fun X=>by kernel_rfl))
theorem Jx.ok:CalleeOk Tryz.prog 77 Jx.ce:=fn_ok (G:=Jx.G) jM mixed Tryz.func77 ⟨(jh Jk.ok (jh Ju.ok (jh Jf.ok (jh jI.ok jF)))),jA,jo,jz⟩ (m:=2) (by kernel_rfl) ⟨⟨trivial,Jx.p0⟩,Jx.p1⟩ (by kernel_rfl) (fun _=>by kernel_rfl)
def JN.c1 (a_1:(List (Bool×(List Int)))×(Int))(b_1:(List (Bool×(List Int)))×(Int))(t4:List ((List (Bool×(List Int)))×(Int)))(Z:List ((List (Bool×(List Int)))×(Int))→Option ρ):Option ρ:=
  bnd (JW b_1) fun y=>
  bnd (Jx a_1 y) fun y1=>
  bnd (idx t4 (0:Int)) fun y2=>
  Z (List.set t4 (0:Nat) y1)
def JN.c1s:Shape:=⟨[(0,ob29),(1,ob29),(2,ob30),(3,ob30),(4,ob36)],[(4,ob34)]⟩
def JN.c1r:Ck:=Ck.of (T:=List ((List (Bool×(List Int)))×(Int))) JN.c1s (fun ρ X Z=>JN.c1 X.2.2.1 X.2.2.2.1 (q4 X).1 Z) (fun ρ X V Z=>Z 0 (Shape.inj JN.c1s (X.1,X.2.1,X.2.2.1,X.2.2.2.1,V,())))
def JN (a:(List (Bool×(List Int)))×(Int)) (b:(List (Bool×(List Int)))×(Int)):Option ((List (Bool×(List Int)))×(Int)):=
  bnd (JN.c1 a b [(List.replicate (8:Nat) (false,[]),(0:Int))] some) fun y=>
  bnd (idx y (0:Int)) fun y1=>
  some y1
def JN.ce:Go.Ql.Callee:=⟨[(.st (.pair (.ar 8 (.st (.pair .bool (.sl (.int .i64))))) (.int .i64))),(.st (.pair (.ar 8 (.st (.pair .bool (.sl (.int .i64))))) (.int .i64)))],[(.st (.pair (.ar 8 (.st (.pair .bool (.sl (.int .i64))))) (.int .i64)))],fun X=>JN X.1 X.2⟩
def JN.G:Env:=⟨9,tab,[(78,JW.ce),(77,Jx.ce)],[0,1,2,3,4],[4,8000002,8000003],[(1,[⟨[],[],[6,7],[]⟩,⟨[],[],[5],[]⟩,⟨[1],[],[5],[]⟩,⟨[0,2,1],[],[],[]⟩,⟨[3,0,2,1],[4],[],[]⟩])],[(1,JN.c1r)],[],jE,[]⟩
theorem JN.p0:PcA JN.G Tryz.f46 0:=
  jv (s:=JN.c1r) (by kernel_rfl) (by kernel_rfl) (jp (sh:=JN.c1s) (fun ρ X Z=>(jb fun _=>(jb fun _=>(jb fun _=>jc)))) (fun ρ X t k=>(by kernel_rfl)) (fun X=>by kernel_rfl))
theorem JN.ok:CalleeOk Tryz.prog 46 JN.ce:=fn_ok (G:=JN.G) jM mixed Tryz.func46 ⟨(jh JW.ok (jh Jx.ok jF)),jA,jo,jz⟩ (m:=1) (by kernel_rfl) ⟨trivial,JN.p0⟩ (by kernel_rfl) (fun _=>by kernel_rfl)
abbrev ob58:SD:=.one (.own 28 0)
abbrev ob59:SD:=.one (.ref 9 0)
abbrev ob60:SD:=.one (.ref 14 0)
def jk.c9 (i:Int)(a1:List (Int))(r1:List (Int))(Z:Bool×(List Int)→Option ρ):Option ρ:=
  bnd (idx a1 i) fun y=>
  bnd (okIf (decide (((1:Nat)+r1.length)*8≤140737488355328)&&decide ((1:Nat)+r1.length≤140737488355328))) fun y1=>
  bnd (jS false ([y]++r1)) fun y2=>
  Z (y2.1,y2.2)
def jk.c9s:Shape:=⟨[(0,ob27),(1,ob27),(2,ob5),(3,ob28),(4,ob2),(5,ob44),(6,ob52),(7,ob53),(8,ob58),(9,ob59),(10,ob3)],[(2,ob23),(3,ob23),(4,ob23),(5,ob23),(6,ob37),(7,ob23),(9,ob23),(28,ob25)]⟩
def jk.c9r:Ck:=Ck.of (T:=Bool×(List Int)) jk.c9s (fun ρ X Z=>jk.c9 X.2.2.1 (q4 X).1 (q8 (q8 X)).1 Z) (fun ρ X V Z=>Z 0 (Shape.inj jk.c9s (X.1,X.2.1,X.2.2.1,X.2.2.2.1,(q4 X).1,(q4 X).2.1,(q4 X).2.2.1,(q4 X).2.2.2.1,(q8 X).1,(q8 X).2.1,(q8 X).2.2.1,(q8 X).2.2.2.1,(q4 (q8 X)).1,(q4 (q8 X)).2.1,(q4 (q8 X)).2.2.1,V.1,V.2,(q8 (q8 X)).2)))
def jk.cq_ (high:Int)(under1:List (Int))(r1:List (Int))(Z:Int→Option ρ):Option ρ:=
  bnd (Jb r1 under1) fun y=>
  br (decide (y<0))
   (Z (1:Int))
   (Z high)
def jk.cq_s:Shape:=⟨[(0,ob27),(1,ob27),(2,ob5),(3,ob28),(4,ob2),(5,ob44),(6,ob52),(7,ob53),(8,ob58),(9,ob59),(10,ob3),(11,ob3),(12,ob3)],[(2,ob23),(3,ob23),(4,ob23),(5,ob23),(6,ob37),(7,ob23),(9,ob23),(28,ob25)]⟩
def jk.cq_r:Ck:=Ck.of (T:=Int) jk.cq_s (fun ρ X Z=>jk.cq_ (q4 X).1 (q8 (q8 X)).1 (q8 (q8 X)).2.2.1 Z) (fun ρ X V Z=>Z 0 (Shape.inj jk.cq_s (X.1,X.2.1,X.2.2.1,X.2.2.2.1,V,(q4 X).2)))
def jk.c15 (mid:Int)(under0:Bool)(under1:List (Int))(r0:Bool)(r1:List (Int))(Z:Bool→Option ρ):Option ρ:=
  bnd (Jm mid) fun y=>
  bnd (jJ (under0,under1) y) fun y1=>
  bnd (kw y1 (r0,r1)) fun y2=>
  Z (decide (y2≤0))
def jk.c15s:Shape:=⟨[(0,ob27),(1,ob27),(2,ob5),(3,ob28),(4,ob2),(5,ob44),(6,ob52),(7,ob53),(8,ob58),(9,ob59),(10,ob3),(11,ob3),(12,ob3),(13,ob3)],[(2,ob23),(3,ob23),(4,ob23),(5,ob23),(6,ob37),(7,ob23),(9,ob23),(28,ob25)]⟩
def jk.c15x0:Shape:=⟨[(0,ob27),(1,ob27),(2,ob5),(3,ob28),(4,ob2),(5,ob44),(6,ob52),(7,ob53),(8,ob58),(9,ob59),(10,ob3),(11,ob3),(12,ob3),(13,ob3),(68,ob0)],[(2,ob23),(3,ob23),(4,ob23),(5,ob23),(6,ob37),(7,ob23),(9,ob23),(28,ob25)]⟩
def jk.c15r:Ck:=Ck.of (T:=Bool) jk.c15s (fun ρ X Z=>jk.c15 (q4 X).2.1 (q8 (q8 X)).1 (q8 (q8 X)).2.1 (q8 (q8 X)).2.2.1 (q8 (q8 X)).2.2.2.1 Z) (fun ρ X V Z=>Z 0 (Shape.inj jk.c15x0 (X.1,X.2.1,X.2.2.1,X.2.2.2.1,(q4 X).1,(q4 X).2.1,V,(q4 X).2.2)))
def jk.cF_ (low:Int)(high:Int)(under0:Bool)(under1:List (Int))(r0:Bool)(r1:List (Int))(Z:((Int)×(Int))⊕((Int)×(Int))→Option ρ):Option ρ:=
  br (decide (i64.wrap (high-low)>1))
   (bnd (jk.c15 (i64.wrap (Int.tdiv (i64.wrap (low+high)) (2:Int))) under0 under1 r0 r1 some) fun y=>
    br y
     (Z (.inl ((i64.wrap (Int.tdiv (i64.wrap (low+high)) (2:Int))),high)))
     (Z (.inl (low,(i64.wrap (Int.tdiv (i64.wrap (low+high)) (2:Int)))))))
   (Z (.inr (low,high)))
def jk.cF_r:Ck:=Ck.ofLoop (S:=(Int)×(Int)) (T:=(Int)×(Int)) jk.cq_s (fun X=>(X.2.2.2.1,(q4 X).1)) (fun ρ X Q Z=>jk.cF_ Q.1 Q.2 (q4 (q8 X)).2.2.2.1 (q8 (q8 X)).1 (q8 (q8 X)).2.1 (q8 (q8 X)).2.2.1 Z) (fun ρ X V Z=>Z 4 (Shape.inj jk.cq_s (X.1,X.2.1,X.2.2.1,V.1,V.2,(q4 X).2)))
def jk.c19 (low:Int)(under0:Bool)(under1:List (Int))(r0:Bool)(r1:List (Int))(Z:Bool×(List Int)→Option ρ):Option ρ:=
  bnd (Jm low) fun y=>
  bnd (jJ (under0,under1) y) fun y1=>
  bnd (JQ (r0,r1) y1) fun y2=>
  Z (y2.1,y2.2)
def jk.c19r:Ck:=Ck.of (T:=Bool×(List Int)) jk.cq_s (fun ρ X Z=>jk.c19 X.2.2.2.1 (q4 (q8 X)).2.2.2.1 (q8 (q8 X)).1 (q8 (q8 X)).2.1 (q8 (q8 X)).2.2.1 Z) (fun ρ X V Z=>Z 0 (Shape.inj jk.cq_s (X.1,X.2.1,X.2.2.1,X.2.2.2.1,(q4 X).1,(q4 X).2.1,(q4 X).2.2.1,(q4 X).2.2.2.1,(q8 X).1,(q8 X).2.1,(q8 X).2.2.1,(q8 X).2.2.2.1,(q4 (q8 X)).1,(q4 (q8 X)).2.1,(q4 (q8 X)).2.2.1,(q4 (q8 X)).2.2.2.1,(q8 (q8 X)).1,V.1,V.2,(q8 (q8 X)).2.2.2)))
def jk.cf_ (i:Int)(a1:List (Int))(under0:Bool)(under1:List (Int))(r0:Bool)(r1:List (Int))(t28:List (Int))(Z:((Int)×Bool×(List Int)×(List Int))⊕((Int)×Bool×(List Int)×(List Int))→Option ρ):Option ρ:=
  br (decide (i≥0))
   (bnd (jk.c9 i a1 r1 some) fun y=>
    bnd (jk.cq_ (10000:Int) under1 y.2 some) fun y1=>
    bnd (iter (fun s↦jk.cF_ s.1 s.2 under0 under1 y.1 y.2 some) ((0:Int),y1)) fun y2=>
    bnd (inR (t28.length) i) fun y3=>
    bnd (idx t28 i) fun y4=>
    bnd (jk.c19 y2.1 under0 under1 y.1 y.2 some) fun y5=>
    Z (.inl ((i64.wrap (i-1)),y5.1,y5.2,(List.set t28 (Int.toNat i) y2.1))))
   (Z (.inr (i,r0,r1,t28)))
def jk.cf_r:Ck:=Ck.ofLoop (S:=(Int)×Bool×(List Int)×(List Int)) (T:=(Int)×Bool×(List Int)×(List Int)) jk.c9s (fun X=>(X.2.2.1,(q4 (q8 X)).2.2.2.1,(q8 (q8 X)).1,(q8 (q8 X)).2.1)) (fun ρ X Q Z=>jk.cf_ Q.1 (q4 X).1 (q4 (q8 X)).2.1 (q4 (q8 X)).2.2.1 Q.2.1 Q.2.2.1 Q.2.2.2 Z) (fun ρ X V Z=>Z 2 (Shape.inj jk.c9s (X.1,X.2.1,V.1,X.2.2.2.1,(q4 X).1,(q4 X).2.1,(q4 X).2.2.1,(q4 X).2.2.2.1,(q8 X).1,(q8 X).2.1,(q8 X).2.2.1,(q8 X).2.2.2.1,(q4 (q8 X)).1,(q4 (q8 X)).2.1,(q4 (q8 X)).2.2.1,V.2.1,V.2.2.1,V.2.2.2,())))
def jk.c21 (a0:Bool)(r1:List (Int))(Z:Bool→Option ρ):Option ρ:=
  br a0
   (Z (decide ((r1.length:Int)>0)))
   (Z false)
def jk.c21s:Shape:=⟨[(0,ob27),(1,ob27),(2,ob5),(3,ob28),(4,ob2),(5,ob44),(6,ob52),(7,ob53),(8,ob22),(9,ob59),(10,ob3),(14,ob60)],[(2,ob23),(3,ob23),(4,ob23),(5,ob23),(6,ob37),(7,ob23),(9,ob23),(14,ob23)]⟩
def jk.c21x0:Shape:=⟨[(0,ob27),(1,ob27),(2,ob5),(3,ob28),(4,ob2),(5,ob44),(6,ob52),(7,ob53),(8,ob22),(9,ob59),(10,ob3),(14,ob60),(90,ob0)],[(2,ob23),(3,ob23),(4,ob23),(5,ob23),(6,ob37),(7,ob23),(9,ob23),(14,ob23)]⟩
def jk.c21r:Ck:=Ck.of (T:=Bool) jk.c21s (fun ρ X Z=>jk.c21 (q4 X).1 (q8 (q8 X)).2.1 Z) (fun ρ X V Z=>Z 0 (Shape.inj jk.c21x0 (X.1,X.2.1,X.2.2.1,X.2.2.2.1,V,(q4 X))))
def jk.c22 (z0:Bool)(z1:List (Int))(Z:Bool×(List Int)→Option ρ):Option ρ:=
  bnd (Jm (1:Int)) fun y=>
  bnd (Jf (z0,z1) y) fun y1=>
  Z (y1.1,y1.2)
def jk.c22r:Ck:=Ck.of (T:=Bool×(List Int)) jk.c21s (fun ρ X Z=>jk.c22 (q8 (q8 X)).2.2.1 (q8 (q8 X)).2.2.2.1 Z) (fun ρ X V Z=>Z 0 (Shape.inj jk.c21s (X.1,X.2.1,X.2.2.1,X.2.2.2.1,(q4 X).1,(q4 X).2.1,(q4 X).2.2.1,(q4 X).2.2.2.1,(q8 X).1,(q8 X).2.1,(q8 X).2.2.1,(q8 X).2.2.2.1,(q4 (q8 X)).1,(q4 (q8 X)).2.1,(q4 (q8 X)).2.2.1,(q4 (q8 X)).2.2.2.1,(q8 (q8 X)).1,(q8 (q8 X)).2.1,V.1,V.2,())))
def jk.cU_ (a0:Bool)(under0:Bool)(under1:List (Int))(r0:Bool)(r1:List (Int))(z0:Bool)(z1:List (Int))(Z:Bool×(List Int)×Bool×(List Int)→Option ρ):Option ρ:=
  bnd (jk.c21 a0 r1 some) fun y=>
  br y
   (bnd (jk.c22 z0 z1 some) fun y1=>
    bnd (JQ (under0,under1) (r0,r1)) fun y2=>
    Z (y2.1,y2.2,y1.1,y1.2))
   (Z (r0,r1,z0,z1))
def jk.cU_r:Ck:=Ck.of (T:=Bool×(List Int)×Bool×(List Int)) jk.c21s (fun ρ X Z=>jk.cU_ (q4 X).1 (q4 (q8 X)).2.2.1 (q4 (q8 X)).2.2.2.1 (q8 (q8 X)).1 (q8 (q8 X)).2.1 (q8 (q8 X)).2.2.1 (q8 (q8 X)).2.2.2.1 Z) (fun ρ X V Z=>Z 0 (Shape.inj jk.c21s (X.1,X.2.1,X.2.2.1,X.2.2.2.1,(q4 X).1,(q4 X).2.1,(q4 X).2.2.1,(q4 X).2.2.2.1,(q8 X).1,(q8 X).2.1,(q8 X).2.2.1,(q8 X).2.2.2.1,(q4 (q8 X)).1,(q4 (q8 X)).2.1,(q4 (q8 X)).2.2.1,(q4 (q8 X)).2.2.2.1,V.1,V.2.1,V.2.2.1,V.2.2.2,())))
def jk.c24 (a0:Bool)(b0:Bool)(z1:List (Int))(Z:Bool×(List Int)→Option ρ):Option ρ:=
  bnd (jS (!a0==b0) z1) fun y=>
  Z (y.1,y.2)
def jk.c24r:Ck:=Ck.of (T:=Bool×(List Int)) jk.c21s (fun ρ X Z=>jk.c24 (q4 X).1 (q4 X).2.2.1 (q8 (q8 X)).2.2.2.1 Z) (fun ρ X V Z=>Z 0 (Shape.inj jk.c21s (X.1,X.2.1,X.2.2.1,X.2.2.2.1,(q4 X).1,(q4 X).2.1,(q4 X).2.2.1,(q4 X).2.2.2.1,V.1,V.2,(q8 (q8 X)).1,(q8 (q8 X)).2.1,(0:Int),(0:Int),(q4 (q8 X)).2.2)))
def jk (a:Bool×(List Int)) (b:Bool×(List Int)):Option ((Bool×(List Int))×(Bool×(List Int))×((Int)×(Int))):=
  br ((↑(List.length b.2):Int)==0)
   (some ((false,[]),(false,[]),(4:Int),(0:Int)))
   (bnd (jS false b.2) fun y=>
    bnd (okIf (decide ((0:Int)≤(↑(List.length a.2):Int))&&decide ((↑(List.length a.2):Int)≤(↑(List.length a.2):Int))&&decide ((↑(List.length a.2):Int)*(↑(8:Nat):Int)≤140737488355328)&&decide ((↑(List.length a.2):Int)≤140737488355328))) fun y1=>
    bnd (iter (fun s↦jk.cf_ s.1 a.2 y.1 y.2 s.2.1 s.2.2.1 s.2.2.2 some) (i64.wrap ((↑(List.length a.2):Int)-1),false,[],List.replicate (Int.toNat (↑(List.length a.2):Int)) (0:Int))) fun y2=>
    bnd (jS false y2.2.2.2) fun y3=>
    bnd (jk.cU_ a.1 y.1 y.2 y2.2.1 y2.2.2.1 y3.1 y3.2 some) fun y4=>
    bnd (jk.c24 a.1 b.1 y4.2.2.2 some) fun y5=>
    some ((y5.1,y5.2),(y4.1,y4.2.1),(0:Int),(0:Int)))
def jk.ce:Go.Ql.Callee:=⟨[(.st (.pair .bool (.sl (.int .i64)))),(.st (.pair .bool (.sl (.int .i64))))],[(.st (.pair .bool (.sl (.int .i64)))),(.st (.pair .bool (.sl (.int .i64)))),(.st (.pair (.int .i64) (.int .i64)))],fun X=>jk X.1 X.2⟩
def jk.G:Env:=⟨107,tab,[(64,jS.ce),(112,Jb.ce),(34,Jm.ce),(80,jJ.ce),(33,kw.ce),(66,JQ.ce),(92,Jf.ce)],[0,1,2,3,4,5,6,7,8,9,10,11,12,13,14,18,35,53,57,68,90],[28,43],[(24,[⟨[],[],[99,100,102,103,105,106],[]⟩,⟨[0],[],[99,100,102,103,105,106],[]⟩,⟨[],[],[97,98,102,103,105,106],[]⟩,⟨[2],[],[97,98,102,103,105,106],[]⟩,⟨[1,0,3,2],[],[102,103,105,106],[]⟩,⟨[],[],[97,98,99,100,101,105,106],[]⟩,⟨[5],[],[97,98,99,100,101,105,106],[]⟩,⟨[4,1,0,3,2,6,5],[],[105,106],[]⟩,⟨[],[],[97,98,99,100,101,102,103,104,106],[4]⟩,⟨[],[],[97,98,99,100,101,102,103,104,105],[4,5]⟩,⟨[7,4,1,0,3,2,6,5],[4],[105,106],[]⟩,⟨[8,10,7,4,1,0,3,2,6,5],[5],[106],[]⟩,⟨[9,11,8,10,7,4,1,0,3,2,6,5],[6],[],[]⟩]),
  (22,[⟨[],[],[92],[]⟩,⟨[],[],[91],[]⟩,⟨[0,1],[],[],[]⟩,⟨[2,0,1],[14],[],[]⟩]),
  (19,[⟨[],[],[76,77,78,79],[]⟩,⟨[],[],[75,77,78],[]⟩,⟨[],[],[75,76],[]⟩,⟨[2],[],[75,76],[]⟩,⟨[1,3,2],[],[75],[]⟩,⟨[0,4,1,3,2],[],[],[]⟩,⟨[5,0,4,1,3,2],[9],[],[]⟩]),
  (15,[⟨[],[],[63,64,66],[]⟩,⟨[],[],[62,66],[]⟩,⟨[1],[],[62,66],[]⟩,⟨[0,2,1],[],[66],[]⟩,⟨[],[],[62,63,64,65],[]⟩,⟨[3,0,2,1,4],[],[],[]⟩,⟨[5,3,0,2,1,4],[],[],[]⟩]),
  (9,[⟨[],[],[40,44,45],[]⟩,⟨[0],[],[40,44,45],[]⟩,⟨[],[],[38,39,44,45],[]⟩,⟨[1,0,2],[],[44,45],[]⟩,⟨[3,1,0,2],[],[44,45],[]⟩,⟨[4,3,1,0,2],[43],[44,45],[]⟩,⟨[],[],[38,39,40,41,42,43],[43]⟩,⟨[6],[],[38,39,40,41,42,43],[43]⟩,⟨[5,4,3,1,0,2,7,6],[43],[],[]⟩,⟨[8,5,4,3,1,0,2,7,6],[43],[],[]⟩,⟨[9,8,5,4,3,1,0,2,7,6],[9],[],[]⟩])],[(24,jk.c24r),(286023,jk.cU_r),(22,jk.c22r),(21,jk.c21r),(100007,jk.cf_r),(19,jk.c19r),(100013,jk.cF_r),(15,jk.c15r),(245061,jk.cq_r),(9,jk.c9r)],[],jE,[]⟩
theorem jk.p0:PcA jk.G Tryz.f103 0:=
  Ja (s:=jk.cf_r) (by kernel_rfl) (by kernel_rfl) (jU (sh:=jk.c9s) (I:=fun X Q=>(X.1,X.2.1,Q.1,X.2.2.2.1,(q4 X).1,(q4 X).2.1,(q4 X).2.2.1,(q4 X).2.2.2.1,(q8 X).1,(q8 X).2.1,(q8 X).2.2.1,(q8 X).2.2.2.1,(q4 (q8 X)).1,(q4 (q8 X)).2.1,(q4 (q8 X)).2.2.1,Q.2.1,Q.2.2.1,Q.2.2.2,())) (fun X=>rfl) (fun ρ X Q Z=>(jl (jb fun _=>(jb fun _=>(jb fun _=>(jb fun _=>(jb fun _=>(jb fun _=>jc)))))) jc)) (fun ρ X t k=>(by kernel_rfl)) (fun X s=>by kernel_rfl))
theorem jk.p1:PcA jk.G Tryz.f103 1:=
  jv (s:=jk.c9r) (by kernel_rfl) (by kernel_rfl) (jp (sh:=jk.c9s) (fun ρ X Z=>(jb fun _=>(jb fun _=>(jb fun _=>jc)))) (fun ρ X t k=>(by kernel_rfl)) (fun X=>by kernel_rfl))
theorem jk.p2:PcA jk.G Tryz.f103 2:=
  Jo (s:=jk.cq_r) (by kernel_rfl) (by kernel_rfl) (jp (sh:=jk.cq_s) (fun ρ X Z=>(jb fun _=>(jl jc jc))) (fun ρ X t k=>(by kernel_rfl)) (fun X=>by kernel_rfl))
theorem jk.p3:PcA jk.G Tryz.f103 3:=
  Ja (s:=jk.cF_r) (by kernel_rfl) (by kernel_rfl) (jU (sh:=jk.cq_s) (I:=fun X Q=>(X.1,X.2.1,X.2.2.1,Q.1,Q.2,(q4 X).2)) (fun X=>rfl) (fun ρ X Q Z=>(jl (jb fun _=>(jl jc jc)) jc)) (fun ρ X t k=>(by kernel_rfl)) (fun X s=>by kernel_rfl))
theorem jk.p4:PcA jk.G Tryz.f103 4:=
  jv (s:=jk.c15r) (by kernel_rfl) (by kernel_rfl) (jp (sh:=jk.c15s) (fun ρ X Z=>(jb fun _=>(jb fun _=>(jb fun _=>jc)))) (fun ρ X t k=>(by kernel_rfl)) (fun X=>by kernel_rfl))
theorem jk.p5:PcA jk.G Tryz.f103 5:=
  jv (s:=jk.c19r) (by kernel_rfl) (by kernel_rfl) (jp (sh:=jk.cq_s) (fun ρ X Z=>(jb fun _=>(jb fun _=>(jb fun _=>jc)))) (fun ρ X t k=>(by kernel_rfl)) (fun X=>by kernel_rfl))
theorem jk.p6:PcA jk.G Tryz.f103 6:=
  Jo (s:=jk.cU_r) (by kernel_rfl) (by kernel_rfl) (jp (sh:=jk.c21s) (fun ρ X Z=>(jb fun _=>(jl (jb fun _=>(jb fun _=>jc)) jc))) (fun ρ X t k=>(by kernel_rfl)) (fun X=>by kernel_rfl))
theorem jk.p7:PcA jk.G Tryz.f103 7:=
  jv (s:=jk.c21r) (by kernel_rfl) (by kernel_rfl) (jp (sh:=jk.c21s) (fun ρ X Z=>(jl jc jc)) (fun ρ X t k=>(by kernel_rfl)) (fun X=>by kernel_rfl))
theorem jk.p8:PcA jk.G Tryz.f103 8:=
  jv (s:=jk.c22r) (by kernel_rfl) (by kernel_rfl) (jp (sh:=jk.c21s) (fun ρ X Z=>(jb fun _=>(jb fun _=>jc))) (fun ρ X t k=>(by kernel_rfl)) (fun X=>by kernel_rfl))
theorem jk.p9:PcA jk.G Tryz.f103 9:=
  jv (s:=jk.c24r) (by kernel_rfl) (by kernel_rfl) (jp (sh:=jk.c21s) (fun ρ X Z=>(jb fun _=>jc)) (fun ρ X t k=>(by kernel_rfl)) (fun X=>by kernel_rfl))
theorem jk.ok:CalleeOk Tryz.prog 103 jk.ce:=fn_ok (G:=jk.G) jM mixed Tryz.func103 ⟨(jh jS.ok (jh Jb.ok (jh Jm.ok (jh jJ.ok (jh kw.ok (jh JQ.ok (jh Jf.ok jF))))))),jA,jo,jz⟩ (m:=10) (by kernel_rfl) ⟨⟨⟨⟨⟨⟨⟨⟨⟨⟨trivial,jk.p0⟩,jk.p1⟩,jk.p2⟩,jk.p3⟩,jk.p4⟩,jk.p5⟩,jk.p6⟩,jk.p7⟩,jk.p8⟩,jk.p9⟩ (by kernel_rfl) (fun _=>by kernel_rfl)
def JB.c3  (Z:Unit→Option ρ):Option ρ:=
  Z ()
def JB.c3s:Shape:=⟨[(0,ob27),(1,ob27),(2,ob5),(3,ob28),(4,ob2),(6,ob52)],[(2,ob23),(3,ob23),(4,ob23),(5,ob23),(6,ob23),(7,ob37)]⟩
def JB.c3r:Ck:=Ck.of (T:=Unit) JB.c3s (fun ρ X Z=>JB.c3  Z) (fun ρ X V Z=>Z 0 (Shape.inj JB.c3s (X.1,X.2.1,(q4 X).1,(q4 X).2.1,(q8 X).2.2.1,(q8 X).2.2.2.1,(q4 X).2.2)))
def JB.ce_ (a0:Bool)(a1:List (Int))(b0:Bool)(b1:List (Int))(Z:(Bool×(List Int)×Bool×(List Int))⊕(Bool×(List Int)×Bool×(List Int))→Option ρ):Option ρ:=
  br (decide ((b1.length:Int)>0))
   (bnd (jk (a0,a1) (b0,b1)) fun y=>
    bnd (JB.c3 some) fun y1=>
    Z (.inl (b0,b1,y.2.1.1,y.2.1.2)))
   (Z (.inr (a0,a1,b0,b1)))
def JB.ce_s:Shape:=⟨[(0,ob27),(1,ob27),(2,ob5),(3,ob28),(4,ob2)],[(2,ob23),(3,ob23),(4,ob23)]⟩
def JB.ce_r:Ck:=Ck.ofLoop (S:=Bool×(List Int)×Bool×(List Int)) (T:=Bool×(List Int)×Bool×(List Int)) JB.ce_s (fun X=>(X.2.2.1,X.2.2.2.1,(q4 X).1,(q4 X).2.1)) (fun ρ X Q Z=>JB.ce_ Q.1 Q.2.1 Q.2.2.1 Q.2.2.2 Z) (fun ρ X V Z=>Z 2 (Shape.inj JB.ce_s (X.1,X.2.1,V.1,V.2.1,V.2.2.1,V.2.2.2,(q4 X).2.2)))
def JB (a:Bool×(List Int)) (b:Bool×(List Int)):Option (Bool×(List Int)):=
  bnd (iter (fun s↦JB.ce_ s.1 s.2.1 s.2.2.1 s.2.2.2 some) (a.1,a.2,b.1,b.2)) fun y=>
  bnd (jS false y.2.1) fun y1=>
  some (y1.1,y1.2)
def JB.ce:Go.Ql.Callee:=⟨[(.st (.pair .bool (.sl (.int .i64)))),(.st (.pair .bool (.sl (.int .i64))))],[(.st (.pair .bool (.sl (.int .i64))))],fun X=>JB X.1 X.2⟩
def JB.G:Env:=⟨24,tab,[(103,jk.ce),(64,jS.ce)],[0,1,2,3,4,6,11],[],[(3,[⟨[],[],[20],[]⟩,⟨[],[],[19],[2]⟩,⟨[0],[2],[20],[]⟩,⟨[1,2,0],[3],[],[]⟩])],[(100001,JB.ce_r),(3,JB.c3r)],[],jE,[]⟩
theorem JB.p0:PcA JB.G Tryz.f102 0:=
  Ja (s:=JB.ce_r) (by kernel_rfl) (by kernel_rfl) (jU (sh:=JB.ce_s) (I:=fun X Q=>(X.1,X.2.1,Q.1,Q.2.1,Q.2.2.1,Q.2.2.2,(q4 X).2.2)) (fun X=>rfl) (fun ρ X Q Z=>(jl (jb fun _=>(jb fun _=>jc)) jc)) (fun ρ X t k=>(by kernel_rfl)) (fun X s=>by kernel_rfl))
theorem JB.p1:PcA JB.G Tryz.f102 1:=
  jv (s:=JB.c3r) (by kernel_rfl) (by kernel_rfl) (jp (sh:=JB.c3s) (fun ρ X Z=>jc) (fun ρ X t k=>(by kernel_rfl)) (fun X=>by kernel_rfl))
theorem JB.ok:CalleeOk Tryz.prog 102 JB.ce:=fn_ok (G:=JB.G) jM mixed Tryz.func102 ⟨(jh jk.ok (jh jS.ok jF)),jA,jo,jz⟩ (m:=2) (by kernel_rfl) ⟨⟨trivial,JB.p0⟩,JB.p1⟩ (by kernel_rfl) (fun _=>by kernel_rfl)
abbrev ob61:SO:=.box [.val .bool,.val (.sl (.int .i64)),.val .bool,.val (.sl (.int .i64))]
def Jn.c7 (a0:Bool)(a1:List (Int))(b0:Bool)(b1:List (Int))(Z:Bool×(List Int)×Bool×(List Int)→Option ρ):Option ρ:=
  bnd (kl (a0,a1)) fun y=>
  bnd (kl (b0,b1)) fun y1=>
  Z (y.1,y.2,y1.1,y1.2)
def Jn.c7s:Shape:=⟨[(0,ob27),(1,ob27),(2,ob5),(3,ob28),(4,ob2),(5,ob44),(6,ob52)],[(2,ob23),(3,ob23),(4,ob61),(5,ob37),(6,ob23)]⟩
def Jn.c7r:Ck:=Ck.of (T:=Bool×(List Int)×Bool×(List Int)) Jn.c7s (fun ρ X Z=>Jn.c7 X.2.2.1 X.2.2.2.1 (q4 X).1 (q4 X).2.1 Z) (fun ρ X V Z=>Z 0 (Shape.inj Jn.c7s (X.1,X.2.1,V.1,V.2.1,V.2.2.1,V.2.2.2,(q4 X).2.2)))
def Jn.co_ (a0:Bool)(a1:List (Int))(b0:Bool)(b1:List (Int))(Z:Bool×(List Int)×Bool×(List Int)→Option ρ):Option ρ:=
  br b0
   (bnd (Jn.c7 a0 a1 b0 b1 some) fun y=>
    Z (y.1,y.2.1,y.2.2.1,y.2.2.2))
   (Z (a0,a1,b0,b1))
def Jn.co_r:Ck:=Ck.of (T:=Bool×(List Int)×Bool×(List Int)) Jn.c7s (fun ρ X Z=>Jn.co_ X.2.2.1 X.2.2.2.1 (q4 X).1 (q4 X).2.1 Z) (fun ρ X V Z=>Z 0 (Shape.inj Jn.c7s (X.1,X.2.1,V.1,V.2.1,V.2.2.1,V.2.2.2,(q4 X).2.2)))
def Jn (a:Bool×(List Int)) (b:Bool×(List Int)):Option (((Bool×(List Int))×(Bool×(List Int)))×((Int)×(Int))):=
  br ((↑(List.length b.2):Int)==0)
   (bnd (Jm (1:Int)) fun y=>
    some (((false,[]),y.1,y.2),(4:Int),(0:Int)))
   (bnd (JB (a.1,a.2) (b.1,b.2)) fun y1=>
    bnd (jk (a.1,a.2) (y1.1,y1.2)) fun y2=>
    bnd (jk (b.1,b.2) (y1.1,y1.2)) fun y3=>
    bnd (Jn.co_ y2.1.1 y2.1.2 y3.1.1 y3.1.2 some) fun y4=>
    some (((y4.1,y4.2.1),y4.2.2.1,y4.2.2.2),(0:Int),(0:Int)))
def Jn.ce:Go.Ql.Callee:=⟨[(.st (.pair .bool (.sl (.int .i64)))),(.st (.pair .bool (.sl (.int .i64))))],[(.st (.pair (.st (.pair .bool (.sl (.int .i64)))) (.st (.pair .bool (.sl (.int .i64)))))),(.st (.pair (.int .i64) (.int .i64)))],fun X=>Jn X.1 X.2⟩
def Jn.G:Env:=⟨42,tab,[(34,Jm.ce),(102,JB.ce),(103,jk.ce),(53,kl.ce)],[0,1,2,3,4,5,6,10,33],[],[(7,[⟨[],[],[36],[]⟩,⟨[0],[],[36],[]⟩,⟨[],[],[34,35],[]⟩,⟨[2,1,0],[],[],[]⟩,⟨[1,0,3,2],[2],[],[]⟩,⟨[3,2,1,0,4],[3],[],[]⟩])],[(224581,Jn.co_r),(7,Jn.c7r)],[],jE,[]⟩
theorem Jn.p0:PcA Jn.G Tryz.f79 0:=
  Jo (s:=Jn.co_r) (by kernel_rfl) (by kernel_rfl) (jp (sh:=Jn.c7s) (fun ρ X Z=>(jl (jb fun _=>jc) jc)) (fun ρ X t k=>(by kernel_rfl)) (fun X=>by kernel_rfl))
theorem Jn.p1:PcA Jn.G Tryz.f79 1:=
  jv (s:=Jn.c7r) (by kernel_rfl) (by kernel_rfl) (jp (sh:=Jn.c7s) (fun ρ X Z=>(jb fun _=>(jb fun _=>jc))) (fun ρ X t k=>(by kernel_rfl)) (fun X=>by kernel_rfl))
theorem Jn.ok:CalleeOk Tryz.prog 79 Jn.ce:=fn_ok (G:=Jn.G) jM mixed Tryz.func79 ⟨(jh Jm.ok (jh JB.ok (jh jk.ok (jh kl.ok jF)))),jA,jo,jz⟩ (m:=2) (by kernel_rfl) ⟨⟨trivial,Jn.p0⟩,Jn.p1⟩ (by kernel_rfl) (fun _=>by kernel_rfl)
def kQ (a:Bool×(List Int)) (b:Bool×(List Int)):Option ((Bool×(List Int))×(Bool×(List Int))):=
  bnd (Jn (a.1,a.2) (b.1,b.2)) fun y=>
  some ((y.1.1.1,y.1.1.2),y.1.2.1,y.1.2.2)
def kQ.ce:Go.Ql.Callee:=⟨[(.st (.pair .bool (.sl (.int .i64)))),(.st (.pair .bool (.sl (.int .i64))))],[(.st (.pair (.st (.pair .bool (.sl (.int .i64)))) (.st (.pair .bool (.sl (.int .i64))))))],fun X=>kQ X.1 X.2⟩
def kQ.G:Env:=⟨14,tab,[(79,Jn.ce)],[0,1,2,3,4,5],[],[],[],[],jE,[]⟩
theorem kQ.ok:CalleeOk Tryz.prog 48 kQ.ce:=fn_ok (G:=kQ.G) jM mixed Tryz.func48 ⟨(jh Jn.ok jF),jA,jo,jz⟩ (m:=0) (by kernel_rfl) trivial (by kernel_rfl) (fun _=>by kernel_rfl)
def jP.c1 (a_1:(List (Bool×(List Int)))×(Int))(Z:Bool→Option ρ):Option ρ:=
  bnd (idx a_1.1 (0:Int)) fun y=>
  bnd (Yk y) fun y1=>
  bnd (JN (a_1.1,(0:Int)) y1) fun y2=>
  bnd (Jk y2) fun y3=>
  Z (!y3)
def jP.c1s:Shape:=⟨[(0,ob29),(1,ob30),(2,ob5),(3,ob0)],[(2,ob61)]⟩
def jP.c1x0:Shape:=⟨[(0,ob29),(1,ob30),(2,ob5),(3,ob0),(13,ob0)],[(2,ob61)]⟩
def jP.c1r:Ck:=Ck.of (T:=Bool) jP.c1s (fun ρ X Z=>jP.c1 X.2.1 Z) (fun ρ X V Z=>Z 0 (Shape.inj jP.c1x0 (X.1,X.2.1,X.2.2.1,V,X.2.2.2)))
def jP.c3 (a_1:(List (Bool×(List Int)))×(Int))(Z:Bool×(List Int)×Bool×(List Int)→Option ρ):Option ρ:=
  bnd (idx a_1.1 (0:Int)) fun y=>
  bnd (Jl a_1.2) fun y1=>
  bnd (kQ y y1) fun y2=>
  Z (y2.1.1,y2.1.2,y2.2.1,y2.2.2)
def jP.c3r:Ck:=Ck.of (T:=Bool×(List Int)×Bool×(List Int)) jP.c1s (fun ρ X Z=>jP.c3 X.2.1 Z) (fun ρ X V Z=>Z 0 (Shape.inj jP.c1s (X.1,X.2.1,true,V.1,V.2.1,V.2.2.1,V.2.2.2,())))
def jP (a:(List (Bool×(List Int)))×(Int)):Option (((Bool×(List Int))×(Bool×(List Int)))×Bool):=
  bnd (jP.c1 a some) fun y=>
  br y
   (bnd (Jm (1:Int)) fun y1=>
    some (((false,[]),y1.1,y1.2),false))
   (bnd (jP.c3 a some) fun y2=>
    some (((y2.1,y2.2.1),y2.2.2.1,y2.2.2.2),true))
def jP.ce:Go.Ql.Callee:=⟨[(.st (.pair (.ar 8 (.st (.pair .bool (.sl (.int .i64))))) (.int .i64)))],[(.st (.pair (.st (.pair .bool (.sl (.int .i64)))) (.st (.pair .bool (.sl (.int .i64)))))),.bool],fun X=>jP X⟩
def jP.G:Env:=⟨24,tab,[(47,Yk.ce),(46,JN.ce),(14,Jk.ce),(34,Jm.ce),(49,Jl.ce),(48,kQ.ce)],[0,1,2,3,13],[8000001],[(3,[⟨[],[],[20,21,22],[]⟩,⟨[0],[],[20,21,22],[]⟩,⟨[1,0],[],[20,21,22],[]⟩,⟨[],[],[17,18,19],[]⟩,⟨[3],[],[17,18,19],[]⟩,⟨[4,3],[],[17,18,19],[]⟩,⟨[2,1,0,5,4,3],[],[],[]⟩,⟨[6,2,1,0,5,4,3],[2],[],[]⟩,⟨[7,6,2,1,0,5,4,3],[],[],[]⟩]),
  (1,[⟨[],[],[7,8,9,10],[]⟩,⟨[0],[],[7,8,9,10],[]⟩,⟨[1,0],[],[7,8,9,10],[]⟩,⟨[],[],[4,5,6],[]⟩,⟨[3],[],[4,5,6],[]⟩,⟨[4,3],[],[4,5,6],[]⟩,⟨[5,4,3],[],[4,5,6],[]⟩,⟨[2,1,0,6,5,4,3],[],[],[]⟩,⟨[7,2,1,0,6,5,4,3],[],[],[]⟩,⟨[8,7,2,1,0,6,5,4,3],[],[],[]⟩])],[(3,jP.c3r),(1,jP.c1r)],[],jE,[]⟩
theorem jP.p0:PcA jP.G Tryz.f10 0:=
  jv (s:=jP.c1r) (by kernel_rfl) (by kernel_rfl) (jp (sh:=jP.c1s) (fun ρ X Z=>(jb fun _=>(jb fun _=>(jb fun _=>(jb fun _=>jc))))) (fun ρ X t k=>(by kernel_rfl)) (fun X=>by kernel_rfl))
theorem jP.p1:PcA jP.G Tryz.f10 1:=
  jv (s:=jP.c3r) (by kernel_rfl) (by kernel_rfl) (jp (sh:=jP.c1s) (fun ρ X Z=>(jb fun _=>(jb fun _=>(jb fun _=>jc)))) (fun ρ X t k=>(by kernel_rfl)) (fun X=>by kernel_rfl))
theorem jP.ok:CalleeOk Tryz.prog 10 jP.ce:=fn_ok (G:=jP.G) jM mixed Tryz.func10 ⟨(jh Yk.ok (jh JN.ok (jh Jk.ok (jh Jm.ok (jh Jl.ok (jh kQ.ok jF)))))),jA,jo,jz⟩ (m:=2) (by kernel_rfl) ⟨⟨trivial,jP.p0⟩,jP.p1⟩ (by kernel_rfl) (fun _=>by kernel_rfl)
abbrev ob62:SD:=.one (.val (.st (.pair (.st (.pair .bool (.sl (.int .u32)))) (.st (.pair .bool (.sl (.int .u32)))))))
def whole_Frac_below.c1 (x2:Bool)(x3:List (Int))(Z:Bool×(List Int)→Option ρ):Option ρ:=
  bnd (whole_Of (1:Int)) fun y=>
  bnd (whole_Int_Add (x2,x3) y) fun y1=>
  Z (y1.1,y1.2)
def whole_Frac_below.c1s:Shape:=⟨[(0,ob62),(1,ob12),(2,ob5)],[(1,ob54),(2,ob4)]⟩
def whole_Frac_below.c1r:Ck:=Ck.of (T:=Bool×(List Int)) whole_Frac_below.c1s (fun ρ X Z=>whole_Frac_below.c1 X.2.2.2.1 (q4 X).1 Z) (fun ρ X V Z=>Z 0 (Shape.inj whole_Frac_below.c1s (X.1,X.2.1,X.2.2.1,X.2.2.2.1,(q4 X).1,V.1,V.2,())))
def whole_Frac_below (x:(Bool×(List Int))×(Bool×(List Int))):Option (Bool×(List Int)):=
  bnd (whole_Frac_below.c1 x.2.1 x.2.2 some) fun y=>
  some (y.1,y.2)
def whole_Frac_below.ce:Go.Ql.Callee:=⟨[(.st (.pair (.st (.pair .bool (.sl (.int .u32)))) (.st (.pair .bool (.sl (.int .u32))))))],[(.st (.pair .bool (.sl (.int .u32))))],fun X=>whole_Frac_below X⟩
def whole_Frac_below.G:Env:=⟨7,tab,[(43,whole_Of.ce),(81,whole_Int_Add.ce)],[0,1,2],[],[(1,[⟨[],[],[5],[]⟩,⟨[0],[],[5],[]⟩,⟨[],[],[3,4],[]⟩,⟨[1,0,2],[],[],[]⟩,⟨[3,1,0,2],[2],[],[]⟩])],[(1,whole_Frac_below.c1r)],[],jE,[]⟩
theorem whole_Frac_below.p0:PcA whole_Frac_below.G Tryz.f50 0:=
  jv (s:=whole_Frac_below.c1r) (by kernel_rfl) (by kernel_rfl) (jp (sh:=whole_Frac_below.c1s) (fun ρ X Z=>(jb fun _=>(jb fun _=>jc))) (fun ρ X t k=>(by kernel_rfl)) (fun X=>by kernel_rfl))
theorem whole_Frac_below.ok:CalleeOk Tryz.prog 50 whole_Frac_below.ce:=fn_ok (G:=whole_Frac_below.G) jM mixed Tryz.func50 ⟨(jh whole_Of.ok (jh whole_Int_Add.ok jF)),jA,jo,jz⟩ (m:=1) (by kernel_rfl) ⟨trivial,whole_Frac_below.p0⟩ (by kernel_rfl) (fun _=>by kernel_rfl)
def whole_Frac_Text.c3 (x0:Bool)(x1:List (Int))(x2:Bool)(x3:List (Int))(Z:List UInt8→Option ρ):Option ρ:=
  bnd (whole_Int_Text (x0,x1)) fun y=>
  bnd (okIf (decide (y.length+List.length (Array.toList (ByteArray.data (ByteArray.mk #[47])))≤9223372036854775807))) fun y1=>
  bnd (whole_Frac_below ((x0,x1),x2,x3)) fun y2=>
  bnd (whole_Int_Text y2) fun y3=>
  bnd (okIf (decide (List.length (y++Array.toList (ByteArray.data (ByteArray.mk #[47])))+y3.length≤9223372036854775807))) fun y4=>
  Z (y++Array.toList (ByteArray.data (ByteArray.mk #[47]))++y3)
def whole_Frac_Text.c3s:Shape:=⟨[(0,ob62),(1,ob12),(2,ob13)],[(1,ob54)]⟩
def whole_Frac_Text.c3r:Ck:=Ck.of (T:=List UInt8) whole_Frac_Text.c3s (fun ρ X Z=>whole_Frac_Text.c3 X.2.2.1 X.2.2.2.1 (q4 X).1 (q4 X).2.1 Z) (fun ρ X V Z=>Z 0 (Shape.inj whole_Frac_Text.c3s (X.1,V,X.2.2)))
def whole_Frac_Text (x:(Bool×(List Int))×(Bool×(List Int))):Option (List UInt8):=
  bnd (whole_Int_Sign (x.2.1,x.2.2)) fun y=>
  br (y==0)
   (bnd (whole_Int_Text (x.1.1,x.1.2)) fun y1=>
    some y1)
   (bnd (whole_Frac_Text.c3 x.1.1 x.1.2 x.2.1 x.2.2 some) fun y2=>
    some y2)
def whole_Frac_Text.ce:Go.Ql.Callee:=⟨[(.st (.pair (.st (.pair .bool (.sl (.int .u32)))) (.st (.pair .bool (.sl (.int .u32))))))],[.str],fun X=>whole_Frac_Text X⟩
def whole_Frac_Text.G:Env:=⟨18,tab,[(38,whole_Int_Sign.ce),(39,whole_Int_Text.ce),(50,whole_Frac_below.ce)],[0,1,2,6],[],[(3,[⟨[],[],[14],[]⟩,⟨[0],[],[14],[]⟩,⟨[1,0],[],[14],[]⟩,⟨[2,1,0],[],[14,15,16],[]⟩,⟨[],[],[10,11,12,13],[]⟩,⟨[4,2,1,0],[],[13],[]⟩,⟨[5,4,2,1,0],[],[13],[]⟩,⟨[3,2,1,0,6,5,4],[],[],[]⟩,⟨[7,3,2,1,0,6,5,4],[],[],[]⟩])],[(3,whole_Frac_Text.c3r)],[],jE,[]⟩
theorem whole_Frac_Text.p0:PcA whole_Frac_Text.G Tryz.f11 0:=
  jv (s:=whole_Frac_Text.c3r) (by kernel_rfl) (by kernel_rfl) (jp (sh:=whole_Frac_Text.c3s) (fun ρ X Z=>(jb fun _=>(jb fun _=>(jb fun _=>(jb fun _=>(jb fun _=>jc)))))) (fun ρ X t k=>(by kernel_rfl)) (fun X=>by kernel_rfl))
theorem whole_Frac_Text.ok:CalleeOk Tryz.prog 11 whole_Frac_Text.ce:=fn_ok (G:=whole_Frac_Text.G) jM mixed Tryz.func11 ⟨(jh whole_Int_Sign.ok (jh whole_Int_Text.ok (jh whole_Frac_below.ok jF))),jA,jo,jz⟩ (m:=1) (by kernel_rfl) ⟨trivial,whole_Frac_Text.p0⟩ (by kernel_rfl) (fun _=>by kernel_rfl)
abbrev ob63:SD:=.one (.val (.st (.pair (.st (.pair .bool (.sl (.int .i64)))) (.st (.pair .bool (.sl (.int .i64)))))))
def JH.c3 (x0:Bool)(x1:List (Int))(x2:Bool)(x3:List (Int))(Z:List UInt8→Option ρ):Option ρ:=
  bnd (jB (x0,x1)) fun y=>
  bnd (okIf (decide (y.length+List.length (Array.toList (ByteArray.data (ByteArray.mk #[47])))≤9223372036854775807))) fun y1=>
  bnd (jB (x2,x3)) fun y2=>
  bnd (okIf (decide (List.length (y++Array.toList (ByteArray.data (ByteArray.mk #[47])))+y2.length≤9223372036854775807))) fun y3=>
  Z (y++Array.toList (ByteArray.data (ByteArray.mk #[47]))++y2)
def JH.c3s:Shape:=⟨[(0,ob63),(1,ob12),(2,ob13)],[(1,ob61)]⟩
def JH.c3r:Ck:=Ck.of (T:=List UInt8) JH.c3s (fun ρ X Z=>JH.c3 X.2.2.1 X.2.2.2.1 (q4 X).1 (q4 X).2.1 Z) (fun ρ X V Z=>Z 0 (Shape.inj JH.c3s (X.1,V,X.2.2)))
def JH (x:(Bool×(List Int))×(Bool×(List Int))):Option (List UInt8):=
  bnd (jB (x.2.1,x.2.2)) fun y=>
  br (y==Array.toList (ByteArray.data (ByteArray.mk #[49])))
   (bnd (jB (x.1.1,x.1.2)) fun y1=>
    some y1)
   (bnd (JH.c3 x.1.1 x.1.2 x.2.1 x.2.2 some) fun y2=>
    some y2)
def JH.ce:Go.Ql.Callee:=⟨[(.st (.pair (.st (.pair .bool (.sl (.int .i64)))) (.st (.pair .bool (.sl (.int .i64))))))],[.str],fun X=>JH X⟩
def JH.G:Env:=⟨18,tab,[(42,jB.ce)],[0,1,2,6],[],[(3,[⟨[],[],[14,15],[]⟩,⟨[0],[],[14,15],[]⟩,⟨[1,0],[],[14,15],[]⟩,⟨[2,1,0],[],[14,15,16],[]⟩,⟨[],[],[10,11,12,13],[]⟩,⟨[4],[],[10,11,12,13],[]⟩,⟨[5,4,2,1,0],[],[13],[]⟩,⟨[3,2,1,0,6,5,4],[],[],[]⟩,⟨[7,3,2,1,0,6,5,4],[],[],[]⟩])],[(3,JH.c3r)],[],jE,[]⟩
theorem JH.p0:PcA JH.G Tryz.f12 0:=
  jv (s:=JH.c3r) (by kernel_rfl) (by kernel_rfl) (jp (sh:=JH.c3s) (fun ρ X Z=>(jb fun _=>(jb fun _=>(jb fun _=>(jb fun _=>jc))))) (fun ρ X t k=>(by kernel_rfl)) (fun X=>by kernel_rfl))
theorem JH.ok:CalleeOk Tryz.prog 12 JH.ce:=fn_ok (G:=JH.G) jM mixed Tryz.func12 ⟨(jh jB.ok jF),jA,jo,jz⟩ (m:=1) (by kernel_rfl) ⟨trivial,JH.p0⟩ (by kernel_rfl) (fun _=>by kernel_rfl)
def jW.ca_ (t6:List (Bool×(List Int)))(t7:Int)(Z:(Int)⊕((Int)⊕(Int))→Option ρ):Option ρ:=
  br (decide (t7<8))
   (bnd (idx t6 t7) fun y=>
    bnd (whole_Int_Sign (y.1,y.2)) fun y1=>
    br (y1 !=0)
     (Z (.inr (.inl t7)))
     (Z (.inl (i64.wrap (t7+1)))))
   (Z (.inr (.inr t7)))
def jW.ca_s:Shape:=⟨[(0,ob16),(1,ob17),(2,ob0),(6,ob18),(7,ob3)],[]⟩
def jW.ca_r:Ck:=Ck.ofLoop (S:=Int) (T:=(Int)⊕(Int)) jW.ca_s (fun X=>(q4 X).1) (fun ρ X Q Z=>jW.ca_ X.2.2.2.1 Q Z) (fun ρ X V Z=>sel V (fun V=>Z 1 (Shape.inj jW.ca_s (X.1,X.2.1,false,X.2.2.2.1,V,()))) (fun V=>Z 2 (Shape.inj jW.ca_s (X.1,X.2.1,X.2.2.1,X.2.2.2.1,V,()))))
def jW (a:(List (Bool×(List Int)))×(Int)):Option Bool:=
  bnd (iter (fun s↦jW.ca_ a.1 s some) (0:Int)) fun y=>
  sel y
   (fun u=>some false)
   (fun v=>some true)
def jW.ce:Go.Ql.Callee:=⟨[(.st (.pair (.ar 8 (.st (.pair .bool (.sl (.int .u32))))) (.int .i64)))],[.bool],fun X=>jW X⟩
def jW.G:Env:=⟨14,tab,[(38,whole_Int_Sign.ce)],[0,1,2,4,6,7,8,12],[8000001],[],[(100002,jW.ca_r)],[],jE,[]⟩
theorem jW.p0:PcA jW.G Tryz.f13 0:=
  Ja (s:=jW.ca_r) (by kernel_rfl) (by kernel_rfl) (jU (sh:=jW.ca_s) (I:=fun X Q=>(X.1,X.2.1,X.2.2.1,X.2.2.2.1,Q,())) (fun X=>rfl) (fun ρ X Q Z=>(jl (jb fun _=>(jb fun _=>(jl jc jc))) jc)) (fun ρ X t k=>(kj (fun _=>(by kernel_rfl)) (fun _=>(by kernel_rfl)))) (fun X s=>by kernel_rfl))
theorem jW.ok:CalleeOk Tryz.prog 13 jW.ce:=fn_ok (G:=jW.G) jM mixed Tryz.func13 ⟨(jh whole_Int_Sign.ok jF),jA,jo,jz⟩ (m:=1) (by kernel_rfl) ⟨trivial,jW.p0⟩ (by kernel_rfl) (fun _=>by kernel_rfl)
def Jd.c1 (a_1:(List (Bool×(List Int)))×(Int))(Z:Bool→Option ρ):Option ρ:=
  bnd (idx a_1.1 (1:Int)) fun y=>
  bnd (whole_Int_Sign y) fun y1=>
  br (y1==0)
   (bnd (idx a_1.1 (3:Int)) fun y2=>
    bnd (whole_Int_Sign y2) fun y3=>
    br (y3==0)
     (bnd (idx a_1.1 (5:Int)) fun y4=>
      bnd (whole_Int_Sign y4) fun y5=>
      br (y5==0)
       (bnd (idx a_1.1 (7:Int)) fun y6=>
        bnd (whole_Int_Sign y6) fun y7=>
        Z (y7==0))
       (Z false))
     (Z false))
   (Z false)
def Jd.c1s:Shape:=⟨[(0,ob16),(1,ob17),(2,ob0)],[]⟩
def Jd.c1r:Ck:=Ck.of (T:=Bool) Jd.c1s (fun ρ X Z=>Jd.c1 X.2.1 Z) (fun ρ X V Z=>Z 0 (Shape.inj Jd.c1s (X.1,X.2.1,V,())))
def Jd (a:(List (Bool×(List Int)))×(Int)):Option Bool:=
  bnd (Jd.c1 a some) fun y=>
  some y
def Jd.ce:Go.Ql.Callee:=⟨[(.st (.pair (.ar 8 (.st (.pair .bool (.sl (.int .u32))))) (.int .i64)))],[.bool],fun X=>Jd X⟩
def Jd.G:Env:=⟨29,tab,[(38,whole_Int_Sign.ce)],[0,1,2],[8000001],[],[(1,Jd.c1r)],[],jE,[]⟩
theorem Jd.p0:PcA Jd.G Tryz.f15 0:=
  jv (s:=Jd.c1r) (by kernel_rfl) (by kernel_rfl) (jp (sh:=Jd.c1s) (fun ρ X Z=>(jb fun _=>(jb fun _=>(jl (jb fun _=>(jb fun _=>(jl (jb fun _=>(jb fun _=>(jl (jb fun _=>(jb fun _=>jc)) jc))) jc))) jc)))) (fun ρ X t k=>(by kernel_rfl)) (fun X=>by kernel_rfl))
theorem Jd.ok:CalleeOk Tryz.prog 15 Jd.ce:=fn_ok (G:=Jd.G) jM mixed Tryz.func15 ⟨(jh whole_Int_Sign.ok jF),jA,jo,jz⟩ (m:=1) (by kernel_rfl) ⟨trivial,Jd.p0⟩ (by kernel_rfl) (fun _=>by kernel_rfl)
def kO (a:(List (Bool×(List Int)))×(Int)):Option Bool:=
  bnd (idx a.1 (1:Int)) fun y=>
  bnd (idx a.1 (3:Int)) fun y1=>
  bnd (idx a.1 (5:Int)) fun y2=>
  bnd (idx a.1 (7:Int)) fun y3=>
  some (i64.wrap (i64.wrap (i64.wrap ((↑(List.length y.2):Int)+(↑(List.length y1.2):Int))+(↑(List.length y2.2):Int))+(↑(List.length y3.2):Int))==0)
def kO.ce:Go.Ql.Callee:=⟨[(.st (.pair (.ar 8 (.st (.pair .bool (.sl (.int .i64))))) (.int .i64)))],[.bool],fun X=>kO X⟩
def kO.G:Env:=⟨27,tab,[],[0,1,2],[8000001],[],[],[],jE,[]⟩
theorem kO.ok:CalleeOk Tryz.prog 16 kO.ce:=fn_ok (G:=kO.G) jM mixed Tryz.func16 ⟨jF,jA,jo,jz⟩ (m:=0) (by kernel_rfl) trivial (by kernel_rfl) (fun _=>by kernel_rfl)
abbrev ob64:SD:=.one (.aptr 5 0)
abbrev ob65:SO:=.arr 0 false 27 (.st (.pair (.ar 8 (.st (.pair .bool (.sl (.int .u32))))) (.int .i64)))
def jq.co_ (t1:Int)(i:Int)(x0:Bool)(x1:List (Int))(Z:Bool×(List Int)→Option ρ):Option ρ:=
  br (ibits BinOp.and IntKind.i64 (i64.wrap (i+t1)) (8:Int) !=0)
   (bnd (whole_Int_Neg (x0,x1)) fun y=>
    Z (y.1,y.2))
   (Z (x0,x1))
def jq.co_s:Shape:=⟨[(0,ob16),(1,ob3),(2,ob17),(4,ob36),(5,ob64),(6,ob3),(7,ob53),(14,ob18),(15,ob3)],[(4,ob65),(5,ob65),(7,ob4)]⟩
def jq.co_r:Ck:=Ck.of (T:=Bool×(List Int)) jq.co_s (fun ρ X Z=>jq.co_ X.2.1 X.2.2.2.1 (q8 X).1 (q8 X).2.1 Z) (fun ρ X V Z=>Z 0 (Shape.inj jq.co_s (X.1,X.2.1,X.2.2.1,X.2.2.2.1,(q4 X).1,(q4 X).2.1,(q4 X).2.2.1,(q4 X).2.2.2.1,V.1,V.2,())))
def jq.cb_ (t1:Int)(t14:List (Bool×(List Int)))(t15:Int)(out:List ((List (Bool×(List Int)))×(Int)))(Z:((Int)×(List ((List (Bool×(List Int)))×(Int))))⊕((Int)×(List ((List (Bool×(List Int)))×(Int))))→Option ρ):Option ρ:=
  br (decide (t15<8))
   (bnd (idx t14 t15) fun y=>
    bnd (jq.co_ t1 t15 y.1 y.2 some) fun y1=>
    bnd (inR (out.length) (0:Int)) fun y2=>
    bnd (okIf (decide ((0:Ty.den (Ty.int IntKind.i64))≤ibits BinOp.and IntKind.i64 (i64.wrap (t15+t1)) (7:Int))&&decide (ibits BinOp.and IntKind.i64 (i64.wrap (t15+t1)) (7:Int)<(↑(8:Nat):Int)))) fun y3=>
    bnd (idx out (0:Int)) fun y4=>
    bnd (idx y4.1 (ibits BinOp.and IntKind.i64 (i64.wrap (t15+t1)) (7:Int))) fun y5=>
    Z (.inl ((i64.wrap (t15+1)),(List.set out (0:Nat) (List.set y4.1 (Int.toNat (ibits BinOp.and IntKind.i64 (i64.wrap (t15+t1)) (7:Int))) (y1.1,y1.2),y4.2)))))
   (Z (.inr (t15,out)))
def jq.cb_s:Shape:=⟨[(0,ob16),(1,ob3),(2,ob17),(4,ob36),(5,ob64),(14,ob18),(15,ob3)],[(4,ob65),(5,ob65)]⟩
def jq.cb_r:Ck:=Ck.ofLoop (S:=(Int)×(List ((List (Bool×(List Int)))×(Int)))) (T:=(Int)×(List ((List (Bool×(List Int)))×(Int)))) jq.cb_s (fun X=>((q4 X).1,(q4 X).2.2.1)) (fun ρ X Q Z=>jq.cb_ X.2.1 X.2.2.2.1 Q.1 Q.2 Z) (fun ρ X V Z=>Z 2 (Shape.inj jq.cb_s (X.1,X.2.1,X.2.2.1,X.2.2.2.1,V.1,(q4 X).2.1,V.2,())))
def jq (a:(List (Bool×(List Int)))×(Int)) (t1:Int):Option ((List (Bool×(List Int)))×(Int)):=
  bnd (iter (fun s↦jq.cb_ (ibits BinOp.and IntKind.i64 t1 (15:Int)) a.1 s.1 s.2 some) ((0:Int),[(List.replicate (8:Nat) (false,[]),a.2)])) fun y=>
  bnd (idx y.2 (0:Int)) fun y1=>
  some y1
def jq.ce:Go.Ql.Callee:=⟨[(.st (.pair (.ar 8 (.st (.pair .bool (.sl (.int .u32))))) (.int .i64))),(.int .i64)],[(.st (.pair (.ar 8 (.st (.pair .bool (.sl (.int .u32))))) (.int .i64)))],fun X=>jq X.1 X.2⟩
def jq.G:Env:=⟨35,tab,[(52,whole_Int_Neg.ce)],[0,1,2,4,5,6,7,14,15,16,23],[4,5,12,8000002],[],[(100004,jq.cb_r),(224581,jq.co_r)],[],jE,[]⟩
theorem jq.p0:PcA jq.G Tryz.f19 0:=
  Ja (s:=jq.cb_r) (by kernel_rfl) (by kernel_rfl) (jU (sh:=jq.cb_s) (I:=fun X Q=>(X.1,X.2.1,X.2.2.1,X.2.2.2.1,Q.1,(q4 X).2.1,Q.2,())) (fun X=>rfl) (fun ρ X Q Z=>(jl (jb fun _=>(jb fun _=>(jb fun _=>(jb fun _=>(jb fun _=>(jb fun _=>jc)))))) jc)) (fun ρ X t k=>(by kernel_rfl)) (fun X s=>by kernel_rfl))
theorem jq.p1:PcA jq.G Tryz.f19 1:=
  Jo (s:=jq.co_r) (by kernel_rfl) (by kernel_rfl) (jp (sh:=jq.co_s) (fun ρ X Z=>(jl (jb fun _=>jc) jc)) (fun ρ X t k=>(by kernel_rfl)) (fun X=>by kernel_rfl))
theorem jq.ok:CalleeOk Tryz.prog 19 jq.ce:=fn_ok (G:=jq.G) jM mixed Tryz.func19 ⟨(jh whole_Int_Neg.ok jF),jA,jo,jz⟩ (m:=2) (by kernel_rfl) ⟨⟨trivial,jq.p0⟩,jq.p1⟩ (by kernel_rfl) (fun _=>by kernel_rfl)
def JV (a:(List (Bool×(List Int)))×(Int)):Option ((List (Bool×(List Int)))×(Int)):=
  bnd (jq a (8:Int)) fun y=>
  some y
def JV.ce:Go.Ql.Callee:=⟨[(.st (.pair (.ar 8 (.st (.pair .bool (.sl (.int .u32))))) (.int .i64)))],[(.st (.pair (.ar 8 (.st (.pair .bool (.sl (.int .u32))))) (.int .i64)))],fun X=>JV X⟩
def JV.G:Env:=⟨5,tab,[(19,jq.ce)],[0,1,2],[2,8000001],[],[],[],jE,[]⟩
theorem JV.ok:CalleeOk Tryz.prog 83 JV.ce:=fn_ok (G:=JV.G) jM mixed Tryz.func83 ⟨(jh jq.ok jF),jA,jo,jz⟩ (m:=0) (by kernel_rfl) trivial (by kernel_rfl) (fun _=>by kernel_rfl)
def jn.pre:Shape:=⟨[(0,ob46),(1,ob3)],[(2000700,ob65)]⟩
def jn.post:Shape:=⟨[],[(2000700,ob65)]⟩
def jn.c6 (i:Int)(t6:Int)(uc:List ((List (Bool×(List Int)))×(Int)))(Z:List ((List (Bool×(List Int)))×(Int))→Option ρ):Option ρ:=
  bnd (okIf (decide ((0:Ty.den (Ty.int IntKind.i64))≤i)&&decide (i<(↑(8:Nat):Int)))) fun y=>
  bnd (inR (uc.length) (0:Int)) fun y1=>
  bnd (idx uc (0:Int)) fun y2=>
  bnd (idx y2.1 i) fun y3=>
  bnd (whole_Int_Shift y3 (i64.wrap ((0:Int)-t6))) fun y4=>
  bnd (okIf (decide ((0:Ty.den (Ty.int IntKind.i64))≤i)&&decide (i<(↑(8:Nat):Int)))) fun y5=>
  bnd (inR (uc.length) (0:Int)) fun y6=>
  bnd (idx uc (0:Int)) fun y7=>
  bnd (idx y7.1 i) fun y8=>
  Z (List.set uc (0:Nat) (List.set y7.1 (Int.toNat i) y4.1,y7.2))
def jn.c6s:Shape:=⟨[(0,ob46),(1,ob3),(4,ob3),(5,ob3),(6,ob3),(7,ob3)],[(2000700,ob65)]⟩
def jn.c6r:Ck:=Ck.of (T:=List ((List (Bool×(List Int)))×(Int))) jn.c6s (fun ρ X Z=>jn.c6 X.2.1 X.2.2.2.1 (q4 X).2.1 Z) (fun ρ X V Z=>Z 0 (Shape.inj jn.c6s (X.1,X.2.1,X.2.2.1,X.2.2.2.1,(q4 X).1,V,())))
def jn.cb_ (i:Int)(t5:Int)(uc:List ((List (Bool×(List Int)))×(Int)))(Z:((Int)×(List ((List (Bool×(List Int)))×(Int))))⊕((Int)×(List ((List (Bool×(List Int)))×(Int))))→Option ρ):Option ρ:=
  br (t5 !=0)
   (bnd (jn.c6 i (Max.max (-10000:Int) (Min.min (10000:Int) t5)) uc some) fun y=>
    Z (.inl ((i64.wrap (t5-Max.max (-10000:Int) (Min.min (10000:Int) t5))),y)))
   (Z (.inr (t5,uc)))
def jn.cb_s:Shape:=⟨[(0,ob46),(1,ob3),(4,ob3),(5,ob3),(7,ob3)],[(2000700,ob65)]⟩
def jn.cb_r:Ck:=Ck.ofLoop (S:=(Int)×(List ((List (Bool×(List Int)))×(Int)))) (T:=(Int)×(List ((List (Bool×(List Int)))×(Int)))) jn.cb_s (fun X=>(X.2.2.1,(q4 X).1)) (fun ρ X Q Z=>jn.cb_ X.2.1 Q.1 Q.2 Z) (fun ρ X V Z=>Z 4 (Shape.inj jn.cb_s (X.1,X.2.1,V.1,X.2.2.2.1,V.2,())))
def jn.ce_ (n:Int)(t7:Int)(uc:List ((List (Bool×(List Int)))×(Int)))(Z:((Int)×(List ((List (Bool×(List Int)))×(Int))))⊕((Int)×(List ((List (Bool×(List Int)))×(Int))))→Option ρ):Option ρ:=
  br (decide (t7<8))
   (bnd (iter (fun s↦jn.cb_ t7 s.1 s.2 some) (n,uc)) fun y=>
    Z (.inl ((i64.wrap (t7+1)),y.2)))
   (Z (.inr (t7,uc)))
def jn.ce_s:Shape:=⟨[(0,ob46),(1,ob3),(7,ob3)],[(2000700,ob65)]⟩
def jn.ce_r:Ck:=Ck.ofLoop (S:=(Int)×(List ((List (Bool×(List Int)))×(Int)))) (T:=(Int)×(List ((List (Bool×(List Int)))×(Int)))) jn.ce_s (fun X=>(X.2.1,X.2.2.1)) (fun ρ X Q Z=>jn.ce_ X.1 Q.1 Q.2 Z) (fun ρ X V Z=>Z 2 (Shape.inj jn.ce_s (X.1,V.1,V.2,())))
def jn (n:Int) (uc:List ((List (Bool×(List Int)))×(Int))):Option ((List ((List (Bool×(List Int)))×(Int)))×Unit):=
  bnd (iter (fun s↦jn.ce_ n s.1 s.2 some) ((0:Int),uc)) fun y=>
  some (y.2,())
def jn.mc:MCallee:=⟨44,jn.pre,jn.post,fun X=>jn X.1 X.2.1⟩
def jn.G:Env:=⟨35,tab,[(75,whole_Int_Shift.ce)],[0,1,4,5,6,7,8,12],[2000700],[(6,[⟨[],[],[18,19,20,21,22,23,24,25,26,16,27,28],[]⟩,⟨[],[],[17,19,20,21,22,23,24,25,26,16,27,28,29],[]⟩,⟨[],[],[17,18,20,24,25,29],[]⟩,⟨[],[],[17,18,19,21,24,25,29],[]⟩,⟨[2],[],[17,18,20,24,25,29],[]⟩,⟨[4,2,3],[],[17,18,24,25,29],[]⟩,⟨[5,4,2,3],[],[17,18,24,25,29],[]⟩,⟨[],[],[17,18,19,20,21,22,23,29],[]⟩,⟨[7],[],[17,18,19,20,21,22,23,29],[]⟩,⟨[6,5,4,2,3,8,7],[],[17,18,29],[]⟩,⟨[9,6,5,4,2,3,8,7],[],[17,18,29],[]⟩,⟨[10,9,6,5,4,2,3,8,7],[],[17,18,28,29],[]⟩,⟨[10,9,6,5,4,2,3,8,7],[],[17,18,27,29,30],[2000700]⟩,⟨[0],[],[18,19,20,21,22,23,24,25,26,16,27,28],[]⟩,⟨[13,0,1,2,3,4,5,6,7,8,9,10,11],[],[28],[]⟩,⟨[14,13,0,1,2,3,4,5,6,7,8,9,10,11],[2000700],[28],[]⟩])],[(100001,jn.ce_r),(100004,jn.cb_r),(6,jn.c6r)],[],jE,[]⟩
theorem jn.p0:PcA jn.G Tryz.f44 0:=
  Ja (s:=jn.ce_r) (by kernel_rfl) (by kernel_rfl) (jU (sh:=jn.ce_s) (I:=fun X Q=>(X.1,Q.1,Q.2,())) (fun X=>rfl) (fun ρ X Q Z=>(jl (jb fun _=>jc) jc)) (fun ρ X t k=>(by kernel_rfl)) (fun X s=>by kernel_rfl))
theorem jn.p1:PcA jn.G Tryz.f44 1:=
  Ja (s:=jn.cb_r) (by kernel_rfl) (by kernel_rfl) (jU (sh:=jn.cb_s) (I:=fun X Q=>(X.1,X.2.1,Q.1,X.2.2.2.1,Q.2,())) (fun X=>rfl) (fun ρ X Q Z=>(jl (jb fun _=>jc) jc)) (fun ρ X t k=>(by kernel_rfl)) (fun X s=>by kernel_rfl))
theorem jn.p2:PcA jn.G Tryz.f44 2:=
  jv (s:=jn.c6r) (by kernel_rfl) (by kernel_rfl) (jp (sh:=jn.c6s) (fun ρ X Z=>(jb fun _=>(jb fun _=>(jb fun _=>(jb fun _=>(jb fun _=>(jb fun _=>(jb fun _=>(jb fun _=>(jb fun _=>jc)))))))))) (fun ρ X t k=>(by kernel_rfl)) (fun X=>by kernel_rfl))
theorem jn.ok:MOk Tryz.prog 44 jn.mc:=Ug (mc:=jn.mc) (G:=jn.G) jM mixed Tryz.func44 ⟨(jh whole_Int_Shift.ok jF),jA,jo,jz⟩ (m:=3) (by kernel_rfl) ⟨⟨⟨trivial,jn.p0⟩,jn.p1⟩,jn.p2⟩ (by kernel_rfl) (fun _=>by kernel_rfl)
def whole_Int_Twos.ca_ (t6:List (Int))(t7:Int)(t8:Int)(Z:(Int)⊕(((Int)×(Int))⊕(Int))→Option ρ):Option ρ:=
  br (decide (t8<t7))
   (bnd (idx t6 t8) fun y=>
    br (y !=0)
     (bnd (JF y) fun y1=>
      Z (.inr (.inl ((i64.wrap (i64.wrap ((32:Int)*t8)+y1)),t8))))
     (Z (.inl (i64.wrap (t8+1)))))
   (Z (.inr (.inr t8)))
def whole_Int_Twos.ca_s:Shape:=⟨[(0,ob11),(1,ob12),(2,ob3),(6,ob1),(7,ob3),(8,ob3)],[(1,ob4)]⟩
def whole_Int_Twos.ca_r:Ck:=Ck.ofLoop (S:=Int) (T:=((Int)×(Int))⊕(Int)) whole_Int_Twos.ca_s (fun X=>(q4 X).1) (fun ρ X Q Z=>whole_Int_Twos.ca_ X.2.2.1 X.2.2.2.1 Q Z) (fun ρ X V Z=>sel V (fun V=>Z 1 (Shape.inj whole_Int_Twos.ca_s (X.1,V.1,X.2.2.1,X.2.2.2.1,V.2,(q4 X).2))) (fun V=>Z 2 (Shape.inj whole_Int_Twos.ca_s (X.1,X.2.1,X.2.2.1,X.2.2.2.1,V,(q4 X).2))))
def whole_Int_Twos (a:Bool×(List Int)):Option (Int):=
  bnd (iter (fun s↦whole_Int_Twos.ca_ a.2 (↑(List.length a.2):Int) s some) (0:Int)) fun y=>
  sel y
   (fun u=>some u.1)
   (fun v=>some (0:Int))
def whole_Int_Twos.ce:Go.Ql.Callee:=⟨[(.st (.pair .bool (.sl (.int .u32))))],[(.int .i64)],fun X=>whole_Int_Twos X⟩
def whole_Int_Twos.G:Env:=⟨21,tab,[(91,JF.ce)],[0,1,2,3,4,6,7,8,9,14],[],[],[(100002,whole_Int_Twos.ca_r)],[],jE,[]⟩
theorem whole_Int_Twos.p0:PcA whole_Int_Twos.G Tryz.f63 0:=
  Ja (s:=whole_Int_Twos.ca_r) (by kernel_rfl) (by kernel_rfl) (jU (sh:=whole_Int_Twos.ca_s) (I:=fun X Q=>(X.1,X.2.1,X.2.2.1,X.2.2.2.1,Q,(q4 X).2)) (fun X=>rfl) (fun ρ X Q Z=>(jl (jb fun _=>(jl (jb fun _=>jc) jc)) jc)) (fun ρ X t k=>(kj (fun _=>(by kernel_rfl)) (fun _=>(by kernel_rfl)))) (fun X s=>by kernel_rfl))
theorem whole_Int_Twos.ok:CalleeOk Tryz.prog 63 whole_Int_Twos.ce:=fn_ok (G:=whole_Int_Twos.G) jM mixed Tryz.func63 ⟨(jh JF.ok jF),jA,jo,jz⟩ (m:=1) (by kernel_rfl) ⟨trivial,whole_Int_Twos.p0⟩ (by kernel_rfl) (fun _=>by kernel_rfl)
def js.c5 (twos:Int)(any:Bool)(x0:Bool)(x1:List (Int))(Z:Bool→Option ρ):Option ρ:=
  bnd (whole_Int_Sign (x0,x1)) fun y=>
  br (y !=0)
   (br (!any)
     (Z true)
     (bnd (whole_Int_Twos (x0,x1)) fun y1=>
      Z (decide (y1<twos))))
   (Z false)
def js.c5s:Shape:=⟨[(0,ob18),(1,ob3),(2,ob33),(4,ob36),(5,ob3),(6,ob0),(8,ob45),(10,ob18),(11,ob3)],[(2,ob47),(4,ob65),(8,ob4)]⟩
def js.c5x0:Shape:=⟨[(0,ob18),(1,ob3),(2,ob33),(4,ob36),(5,ob3),(6,ob0),(8,ob45),(10,ob18),(11,ob3),(26,ob0)],[(2,ob47),(4,ob65),(8,ob4)]⟩
def js.c5r:Ck:=Ck.of (T:=Bool) js.c5s (fun ρ X Z=>js.c5 X.2.2.1 X.2.2.2.1 (q8 X).1 (q8 X).2.1 Z) (fun ρ X V Z=>Z 0 (Shape.inj js.c5x0 (X.1,X.2.1,X.2.2.1,X.2.2.2.1,(q4 X).1,(q4 X).2.1,V,(q4 X).2.2)))
def js.cp_ (twos:Int)(any:Bool)(t10:List (Bool×(List Int)))(t11:Int)(Z:(Int)×Bool→Option ρ):Option ρ:=
  bnd (idx t10 t11) fun y=>
  bnd (js.c5 twos any y.1 y.2 some) fun y1=>
  br y1
   (bnd (whole_Int_Twos (y.1,y.2)) fun y2=>
    Z (y2,true))
   (Z (twos,any))
def js.cp_s:Shape:=⟨[(0,ob18),(1,ob3),(2,ob33),(4,ob36),(5,ob3),(6,ob0),(10,ob18),(11,ob3)],[(2,ob47),(4,ob65)]⟩
def js.cp_r:Ck:=Ck.of (T:=(Int)×Bool) js.cp_s (fun ρ X Z=>js.cp_ X.2.2.1 X.2.2.2.1 (q4 X).1 (q4 X).2.1 Z) (fun ρ X V Z=>Z 0 (Shape.inj js.cp_s (X.1,X.2.1,V.1,V.2,(q4 X))))
def js.cd_ (twos:Int)(any:Bool)(t10:List (Bool×(List Int)))(t11:Int)(Z:((Int)×Bool×(Int))⊕((Int)×Bool×(Int))→Option ρ):Option ρ:=
  br (decide (t11<8))
   (bnd (js.cp_ twos any t10 t11 some) fun y=>
    Z (.inl (y.1,y.2,(i64.wrap (t11+1)))))
   (Z (.inr (twos,any,t11)))
def js.cd_r:Ck:=Ck.ofLoop (S:=(Int)×Bool×(Int)) (T:=(Int)×Bool×(Int)) js.cp_s (fun X=>(X.2.2.1,X.2.2.2.1,(q4 X).2.1)) (fun ρ X Q Z=>js.cd_ Q.1 Q.2.1 (q4 X).1 Q.2.2 Z) (fun ρ X V Z=>Z 2 (Shape.inj js.cp_s (X.1,X.2.1,V.1,V.2.1,(q4 X).1,V.2.2,(q4 X).2.2)))
def js.cR_ (e:Int)(twos:Int)(c_1:List (Bool×(List Int)))(Z:(Int)×(List (Bool×(List Int)))→Option ρ):Option ρ:=
  br (Min.min twos e !=0)
   (bnd (jG (Min.min twos e) c_1) fun y=>
    Z ((i64.wrap (e-Min.min twos e)),y.1))
   (Z (e,c_1))
def js.cR_r:Ck:=Ck.of (T:=(Int)×(List (Bool×(List Int)))) js.cp_s (fun ρ X Z=>js.cR_ X.2.1 X.2.2.1 (q4 X).2.2.1 Z) (fun ρ X V Z=>Z 0 (Shape.inj js.cp_s (X.1,V.1,X.2.2.1,X.2.2.2.1,(q4 X).1,(q4 X).2.1,V.2,(q4 X).2.2.2)))
def js (c:List (Bool×(List Int))) (e:Int):Option ((List (Bool×(List Int)))×(Int)):=
  bnd (okIf (decide (c.length=8))) fun y=>
  bnd (iter (fun s↦js.cd_ s.1 s.2.1 c s.2.2 some) ((0:Int),false,(0:Int))) fun y1=>
  br (!y1.2.1)
   (some (List.replicate (8:Nat) (false,[]),(0:Int)))
   (bnd (js.cR_ e y1.1 c some) fun y2=>
    bnd (okIf (decide (List.length y2.2=8))) fun y3=>
    some (y2.2,y2.1))
def js.ce:Go.Ql.Callee:=⟨[(.ar 8 (.st (.pair .bool (.sl (.int .u32))))),(.int .i64)],[(.st (.pair (.ar 8 (.st (.pair .bool (.sl (.int .u32))))) (.int .i64)))],fun X=>js X.1 X.2⟩
def js.G:Env:=⟨46,tab,[(38,whole_Int_Sign.ce),(63,whole_Int_Twos.ce)],[0,1,2,4,5,6,8,9,10,11,12,26,31,37],[2,4,32,45],[],[(240969,js.cR_r),(100003,js.cd_r),(216392,js.cp_r),(5,js.c5r)],[(44,jG.mc)],jE,[]⟩
theorem js.p0:PcA js.G Tryz.f29 0:=
  Ja (s:=js.cd_r) (by kernel_rfl) (by kernel_rfl) (jU (sh:=js.cp_s) (I:=fun X Q=>(X.1,X.2.1,Q.1,Q.2.1,(q4 X).1,Q.2.2,(q4 X).2.2)) (fun X=>rfl) (fun ρ X Q Z=>(jl (jb fun _=>jc) jc)) (fun ρ X t k=>(by kernel_rfl)) (fun X s=>by kernel_rfl))
theorem js.p1:PcA js.G Tryz.f29 1:=
  Jo (s:=js.cp_r) (by kernel_rfl) (by kernel_rfl) (jp (sh:=js.cp_s) (fun ρ X Z=>(jb fun _=>(jb fun _=>(jl (jb fun _=>jc) jc)))) (fun ρ X t k=>(by kernel_rfl)) (fun X=>by kernel_rfl))
theorem js.p2:PcA js.G Tryz.f29 2:=
  jv (s:=js.c5r) (by kernel_rfl) (by kernel_rfl) (jp (sh:=js.c5s) (fun ρ X Z=>(jb fun _=>(jl (jl jc (jb fun _=>jc)) jc))) (fun ρ X t k=>(by kernel_rfl)) (fun X=>by kernel_rfl))
theorem js.p3:PcA js.G Tryz.f29 3:=
  Jo (s:=js.cR_r) (by kernel_rfl) (by kernel_rfl) (jp (sh:=js.cp_s) (fun ρ X Z=>(jl (jb fun _=>jc) jc)) (fun ρ X t k=>(by kernel_rfl)) (fun X=>by kernel_rfl))
theorem js.ok:CalleeOk Tryz.prog 29 js.ce:=fn_ok (G:=js.G) jM mixed Tryz.func29 ⟨(jh whole_Int_Sign.ok (jh whole_Int_Twos.ok jF)),(Yy jG.ok jA),jo,jz⟩ (m:=4) (by kernel_rfl) ⟨⟨⟨⟨trivial,js.p0⟩,js.p1⟩,js.p2⟩,js.p3⟩ (by kernel_rfl) (fun _=>by kernel_rfl)
def jy.cH_ (a_1:List ((List (Bool×(List Int)))×(Int)))(b_1:List ((List (Bool×(List Int)))×(Int)))(Z:(List ((List (Bool×(List Int)))×(Int)))×(List ((List (Bool×(List Int)))×(Int)))→Option ρ):Option ρ:=
  bnd (inR (a_1.length) (0:Int)) fun y=>
  bnd (idx a_1 (0:Int)) fun y1=>
  bnd (inR (b_1.length) (0:Int)) fun y2=>
  bnd (idx b_1 (0:Int)) fun y3=>
  br (decide (y1.2<y3.2))
   (bnd (inR (a_1.length) (0:Int)) fun y4=>
    bnd (inR (a_1.length) (0:Int)) fun y5=>
    bnd (idx a_1 (0:Int)) fun y6=>
    bnd (inR (b_1.length) (0:Int)) fun y7=>
    bnd (idx b_1 (0:Int)) fun y8=>
    bnd (jn (i64.wrap (y6.2-y8.2)) a_1) fun y9=>
    bnd (inR (b_1.length) (0:Int)) fun y10=>
    bnd (idx b_1 (0:Int)) fun y11=>
    bnd (inR (List.length y9.1) (0:Int)) fun y12=>
    bnd (idx y9.1 (0:Int)) fun y13=>
    Z ((List.set y9.1 (0:Nat) (y13.1,y11.2)),b_1))
   (bnd (inR (b_1.length) (0:Int)) fun y14=>
    bnd (idx b_1 (0:Int)) fun y15=>
    bnd (inR (a_1.length) (0:Int)) fun y16=>
    bnd (idx a_1 (0:Int)) fun y17=>
    br (decide (y15.2<y17.2))
     (bnd (inR (b_1.length) (0:Int)) fun y18=>
      bnd (inR (b_1.length) (0:Int)) fun y19=>
      bnd (idx b_1 (0:Int)) fun y20=>
      bnd (inR (a_1.length) (0:Int)) fun y21=>
      bnd (idx a_1 (0:Int)) fun y22=>
      bnd (jn (i64.wrap (y20.2-y22.2)) b_1) fun y23=>
      Z (a_1,y23.1))
     (Z (a_1,b_1)))
def jy.cH_s:Shape:=⟨[(0,ob16),(1,ob16),(2,ob33),(3,ob57),(4,ob36)],[(2,ob65),(3,ob65),(4,ob65)]⟩
def jy.cH_r:Ck:=Ck.of (T:=(List ((List (Bool×(List Int)))×(Int)))×(List ((List (Bool×(List Int)))×(Int)))) jy.cH_s (fun ρ X Z=>jy.cH_ X.2.2.1 X.2.2.2.1 Z) (fun ρ X V Z=>Z 0 (Shape.inj jy.cH_s (X.1,X.2.1,V.1,V.2,(q4 X))))
def jy.c9 (i:Int)(a_1:List ((List (Bool×(List Int)))×(Int)))(b_1:List ((List (Bool×(List Int)))×(Int)))(Z:List ((List (Bool×(List Int)))×(Int))→Option ρ):Option ρ:=
  bnd (inR (a_1.length) (0:Int)) fun y=>
  bnd (okIf (decide ((0:Ty.den (Ty.int IntKind.i64))≤i)&&decide (i<(↑(8:Nat):Int)))) fun y1=>
  bnd (idx a_1 (0:Int)) fun y2=>
  bnd (idx y2.1 i) fun y3=>
  bnd (inR (b_1.length) (0:Int)) fun y4=>
  bnd (okIf (decide ((0:Ty.den (Ty.int IntKind.i64))≤i)&&decide (i<(↑(8:Nat):Int)))) fun y5=>
  bnd (idx b_1 (0:Int)) fun y6=>
  bnd (idx y6.1 i) fun y7=>
  bnd (whole_Int_Add y3 y7) fun y8=>
  bnd (inR (a_1.length) (0:Int)) fun y9=>
  bnd (okIf (decide ((0:Ty.den (Ty.int IntKind.i64))≤i)&&decide (i<(↑(8:Nat):Int)))) fun y10=>
  bnd (idx a_1 (0:Int)) fun y11=>
  bnd (idx y11.1 i) fun y12=>
  Z (List.set a_1 (0:Nat) (List.set y11.1 (Int.toNat i) y8,y11.2))
def jy.c9s:Shape:=⟨[(0,ob16),(1,ob16),(2,ob33),(3,ob57),(4,ob36),(5,ob3),(35,ob3)],[(2,ob65),(3,ob65),(4,ob65)]⟩
def jy.c9r:Ck:=Ck.of (T:=List ((List (Bool×(List Int)))×(Int))) jy.c9s (fun ρ X Z=>jy.c9 X.2.2.1 (q4 X).1 (q4 X).2.1 Z) (fun ρ X V Z=>Z 0 (Shape.inj jy.c9s (X.1,X.2.1,X.2.2.1,X.2.2.2.1,V,(q4 X).2)))
def jy.cf_ (t35:Int)(a_1:List ((List (Bool×(List Int)))×(Int)))(b_1:List ((List (Bool×(List Int)))×(Int)))(Z:((Int)×(List ((List (Bool×(List Int)))×(Int))))⊕((Int)×(List ((List (Bool×(List Int)))×(Int))))→Option ρ):Option ρ:=
  br (decide (t35<8))
   (bnd (jy.c9 t35 a_1 b_1 some) fun y=>
    Z (.inl ((i64.wrap (t35+1)),y)))
   (Z (.inr (t35,a_1)))
def jy.cf_s:Shape:=⟨[(0,ob16),(1,ob16),(2,ob33),(3,ob57),(4,ob36),(35,ob3)],[(2,ob65),(3,ob65),(4,ob65)]⟩
def jy.cf_r:Ck:=Ck.ofLoop (S:=(Int)×(List ((List (Bool×(List Int)))×(Int)))) (T:=(Int)×(List ((List (Bool×(List Int)))×(Int)))) jy.cf_s (fun X=>(X.2.2.1,X.2.2.2.1)) (fun ρ X Q Z=>jy.cf_ Q.1 Q.2 (q4 X).1 Z) (fun ρ X V Z=>Z 3 (Shape.inj jy.cf_s (X.1,X.2.1,V.1,V.2,(q4 X))))
def jy (a:(List (Bool×(List Int)))×(Int)) (b:(List (Bool×(List Int)))×(Int)):Option ((List (Bool×(List Int)))×(Int)):=
  bnd (jy.cH_ [a] [b] some) fun y=>
  bnd (iter (fun s↦jy.cf_ s.1 s.2 y.2 some) ((0:Int),y.1)) fun y1=>
  bnd (inR (List.length y1.2) (0:Int)) fun y2=>
  bnd (idx y1.2 (0:Int)) fun y3=>
  bnd (inR (List.length y1.2) (0:Int)) fun y4=>
  bnd (idx y1.2 (0:Int)) fun y5=>
  bnd (js y3.1 y5.2) fun y6=>
  some y6
def jy.ce:Go.Ql.Callee:=⟨[(.st (.pair (.ar 8 (.st (.pair .bool (.sl (.int .u32))))) (.int .i64))),(.st (.pair (.ar 8 (.st (.pair .bool (.sl (.int .u32))))) (.int .i64)))],[(.st (.pair (.ar 8 (.st (.pair .bool (.sl (.int .u32))))) (.int .i64)))],fun X=>jy X.1 X.2⟩
def jy.G:Env:=⟨56,tab,[(81,whole_Int_Add.ce),(29,js.ce)],[0,1,2,3,4,5,6,22,35,36],[2,3,4],[(9,[⟨[],[],[39,40,41,42,43,44,45,46,47,48],[]⟩,⟨[],[],[38,40,43,44,45,46,48],[]⟩,⟨[],[],[38,39,43,44,45,46,48],[]⟩,⟨[2,1],[],[38,43,44,45,46,48],[]⟩,⟨[3,2,1],[],[38,43,44,45,46,48],[]⟩,⟨[],[],[38,39,40,41,42,44,48],[]⟩,⟨[],[],[38,39,40,41,42,43,48],[]⟩,⟨[6,5],[],[38,39,40,41,42,48],[]⟩,⟨[7,6,5],[],[38,39,40,41,42,48],[]⟩,⟨[4,3,2,1,8,7,6,5],[],[38,48],[]⟩,⟨[],[],[38,39,40,41,42,43,44,45,46,47],[]⟩,⟨[10,0,1,2,3,4,5,6,7,8,9],[],[],[]⟩,⟨[11,10,0,1,2,3,4,5,6,7,8,9],[2],[],[]⟩])],[(100007,jy.cf_r),(9,jy.c9r),(204108,jy.cH_r)],[(44,jn.mc)],jE,[]⟩
theorem jy.p0:PcA jy.G Tryz.f82 0:=
  Jo (s:=jy.cH_r) (by kernel_rfl) (by kernel_rfl) (jp (sh:=jy.cH_s) (fun ρ X Z=>(jb fun _=>(jb fun _=>(jb fun _=>(jb fun _=>(jl (jb fun _=>(jb fun _=>(jb fun _=>(jb fun _=>(jb fun _=>(jb fun _=>(jb fun _=>(jb fun _=>(jb fun _=>(jb fun _=>jc)))))))))) (jb fun _=>(jb fun _=>(jb fun _=>(jb fun _=>(jl (jb fun _=>(jb fun _=>(jb fun _=>(jb fun _=>(jb fun _=>(jb fun _=>jc)))))) jc))))))))))) (fun ρ X t k=>(by kernel_rfl)) (fun X=>by kernel_rfl))
theorem jy.p1:PcA jy.G Tryz.f82 1:=
  Ja (s:=jy.cf_r) (by kernel_rfl) (by kernel_rfl) (jU (sh:=jy.cf_s) (I:=fun X Q=>(X.1,X.2.1,Q.1,Q.2,(q4 X))) (fun X=>rfl) (fun ρ X Q Z=>(jl (jb fun _=>jc) jc)) (fun ρ X t k=>(by kernel_rfl)) (fun X s=>by kernel_rfl))
theorem jy.p2:PcA jy.G Tryz.f82 2:=
  jv (s:=jy.c9r) (by kernel_rfl) (by kernel_rfl) (jp (sh:=jy.c9s) (fun ρ X Z=>(jb fun _=>(jb fun _=>(jb fun _=>(jb fun _=>(jb fun _=>(jb fun _=>(jb fun _=>(jb fun _=>(jb fun _=>(jb fun _=>(jb fun _=>(jb fun _=>(jb fun _=>jc)))))))))))))) (fun ρ X t k=>(by kernel_rfl)) (fun X=>by kernel_rfl))
theorem jy.ok:CalleeOk Tryz.prog 82 jy.ce:=fn_ok (G:=jy.G) jM mixed Tryz.func82 ⟨(jh whole_Int_Add.ok (jh js.ok jF)),(Yy jn.ok jA),jo,jz⟩ (m:=3) (by kernel_rfl) ⟨⟨⟨trivial,jy.p0⟩,jy.p1⟩,jy.p2⟩ (by kernel_rfl) (fun _=>by kernel_rfl)
def Jc.c1 (a_1:(List (Bool×(List Int)))×(Int))(b_1:(List (Bool×(List Int)))×(Int))(t4:List ((List (Bool×(List Int)))×(Int)))(Z:List ((List (Bool×(List Int)))×(Int))→Option ρ):Option ρ:=
  bnd (JV b_1) fun y=>
  bnd (jy a_1 y) fun y1=>
  bnd (idx t4 (0:Int)) fun y2=>
  Z (List.set t4 (0:Nat) y1)
def Jc.c1s:Shape:=⟨[(0,ob16),(1,ob16),(2,ob17),(3,ob17),(4,ob36)],[(4,ob65)]⟩
def Jc.c1r:Ck:=Ck.of (T:=List ((List (Bool×(List Int)))×(Int))) Jc.c1s (fun ρ X Z=>Jc.c1 X.2.2.1 X.2.2.2.1 (q4 X).1 Z) (fun ρ X V Z=>Z 0 (Shape.inj Jc.c1s (X.1,X.2.1,X.2.2.1,X.2.2.2.1,V,())))
def Jc (a:(List (Bool×(List Int)))×(Int)) (b:(List (Bool×(List Int)))×(Int)):Option ((List (Bool×(List Int)))×(Int)):=
  bnd (Jc.c1 a b [(List.replicate (8:Nat) (false,[]),(0:Int))] some) fun y=>
  bnd (idx y (0:Int)) fun y1=>
  some y1
def Jc.ce:Go.Ql.Callee:=⟨[(.st (.pair (.ar 8 (.st (.pair .bool (.sl (.int .u32))))) (.int .i64))),(.st (.pair (.ar 8 (.st (.pair .bool (.sl (.int .u32))))) (.int .i64)))],[(.st (.pair (.ar 8 (.st (.pair .bool (.sl (.int .u32))))) (.int .i64)))],fun X=>Jc X.1 X.2⟩
def Jc.G:Env:=⟨9,tab,[(83,JV.ce),(82,jy.ce)],[0,1,2,3,4],[4,8000002,8000003],[(1,[⟨[],[],[6,7],[]⟩,⟨[],[],[5],[]⟩,⟨[1],[],[5],[]⟩,⟨[0,2,1],[],[],[]⟩,⟨[3,0,2,1],[4],[],[]⟩])],[(1,Jc.c1r)],[],jE,[]⟩
theorem Jc.p0:PcA Jc.G Tryz.f51 0:=
  jv (s:=Jc.c1r) (by kernel_rfl) (by kernel_rfl) (jp (sh:=Jc.c1s) (fun ρ X Z=>(jb fun _=>(jb fun _=>(jb fun _=>jc)))) (fun ρ X t k=>(by kernel_rfl)) (fun X=>by kernel_rfl))
theorem Jc.ok:CalleeOk Tryz.prog 51 Jc.ce:=fn_ok (G:=Jc.G) jM mixed Tryz.func51 ⟨(jh JV.ok (jh jy.ok jF)),jA,jo,jz⟩ (m:=1) (by kernel_rfl) ⟨trivial,Jc.p0⟩ (by kernel_rfl) (fun _=>by kernel_rfl)
def jZ.c3 (a_1:(List (Bool×(List Int)))×(Int))(Z:List ((List (Bool×(List Int)))×(Int))→Option ρ):Option ρ:=
  bnd (jq a_1 (2:Int)) fun y=>
  bnd (jq a_1 (6:Int)) fun y1=>
  bnd (Jc y y1) fun y2=>
  Z [y2]
def jZ.c3s:Shape:=⟨[(0,ob16),(1,ob17),(2,ob3)],[]⟩
def jZ.c3x0:Shape:=⟨[(0,ob16),(1,ob17),(2,ob3),(3,ob57)],[(3,ob65)]⟩
def jZ.c3r:Ck:=Ck.of (T:=List ((List (Bool×(List Int)))×(Int))) jZ.c3s (fun ρ X Z=>jZ.c3 X.2.1 Z) (fun ρ X V Z=>Z 0 (Shape.inj jZ.c3x0 (X.1,X.2.1,X.2.2.1,V,())))
def jZ (a:(List (Bool×(List Int)))×(Int)):Option (Int):=
  br (a.2==0)
   (some (0:Int))
   (bnd (jZ.c3 a some) fun y=>
    bnd (inR (y.length) (0:Int)) fun y1=>
    bnd (idx y (0:Int)) fun y2=>
    br (decide (y2.2<a.2))
     (some (i64.wrap (i64.wrap ((2:Int)*a.2)-1)))
     (some (i64.wrap ((2:Int)*a.2))))
def jZ.ce:Go.Ql.Callee:=⟨[(.st (.pair (.ar 8 (.st (.pair .bool (.sl (.int .u32))))) (.int .i64)))],[(.int .i64)],fun X=>jZ X⟩
def jZ.G:Env:=⟨24,tab,[(19,jq.ce),(51,Jc.ce)],[0,1,2,3,6,16],[3,8000001],[(3,[⟨[],[],[9,3],[3]⟩,⟨[0],[],[9,3],[3]⟩,⟨[],[],[7,8,3],[3]⟩,⟨[2,1,0],[],[3],[3]⟩,⟨[1,0,3,2],[],[3],[3]⟩,⟨[],[3],[7,8,9,10,11],[]⟩,⟨[5,4,1,0,3,2],[3],[],[]⟩])],[(3,jZ.c3r)],[],jE,[]⟩
theorem jZ.p0:PcA jZ.G Tryz.f17 0:=
  jv (s:=jZ.c3r) (by kernel_rfl) (by kernel_rfl) (jp (sh:=jZ.c3s) (fun ρ X Z=>(jb fun _=>(jb fun _=>(jb fun _=>jc)))) (fun ρ X t k=>(by kernel_rfl)) (fun X=>by kernel_rfl))
theorem jZ.ok:CalleeOk Tryz.prog 17 jZ.ce:=fn_ok (G:=jZ.G) jM mixed Tryz.func17 ⟨(jh jq.ok (jh Jc.ok jF)),jA,jo,jz⟩ (m:=1) (by kernel_rfl) ⟨trivial,jZ.p0⟩ (by kernel_rfl) (fun _=>by kernel_rfl)
def jO.cg_ (t1:Int)(Z:Int→Option ρ):Option ρ:=
  br (decide (t1<0))
   (Z (i64.wrap (t1+16)))
   (Z t1)
def jO.cg_s:Shape:=⟨[(0,ob29),(1,ob3),(2,ob30),(4,ob36)],[(4,ob34)]⟩
def jO.cg_r:Ck:=Ck.of (T:=Int) jO.cg_s (fun ρ X Z=>jO.cg_ X.2.1 Z) (fun ρ X V Z=>Z 0 (Shape.inj jO.cg_s (X.1,V,X.2.2)))
def jO.cy_ (t1:Int)(a_1:(List (Bool×(List Int)))×(Int))(i:Int)(out:List ((List (Bool×(List Int)))×(Int)))(Z:List ((List (Bool×(List Int)))×(Int))→Option ρ):Option ρ:=
  br (decide (Int.tmod (i64.wrap (i+t1)) (16:Int)<8))
   (bnd (idx a_1.1 i) fun y=>
    bnd (inR (out.length) (0:Int)) fun y1=>
    bnd (okIf (decide ((0:Ty.den (Ty.int IntKind.i64))≤Int.tmod (i64.wrap (i+t1)) (16:Int))&&decide (Int.tmod (i64.wrap (i+t1)) (16:Int)<(↑(8:Nat):Int)))) fun y2=>
    bnd (idx out (0:Int)) fun y3=>
    bnd (idx y3.1 (Int.tmod (i64.wrap (i+t1)) (16:Int))) fun y4=>
    Z (List.set out (0:Nat) (List.set y3.1 (Int.toNat (Int.tmod (i64.wrap (i+t1)) (16:Int))) y,y3.2)))
   (bnd (idx a_1.1 i) fun y5=>
    bnd (kl y5) fun y6=>
    bnd (inR (out.length) (0:Int)) fun y7=>
    bnd (okIf (decide ((0:Ty.den (Ty.int IntKind.i64))≤i64.wrap (Int.tmod (i64.wrap (i+t1)) (16:Int)-8))&&decide (i64.wrap (Int.tmod (i64.wrap (i+t1)) (16:Int)-8)<(↑(8:Nat):Int)))) fun y8=>
    bnd (idx out (0:Int)) fun y9=>
    bnd (idx y9.1 (i64.wrap (Int.tmod (i64.wrap (i+t1)) (16:Int)-8))) fun y10=>
    Z (List.set out (0:Nat) (List.set y9.1 (Int.toNat (i64.wrap (Int.tmod (i64.wrap (i+t1)) (16:Int)-8))) y6,y9.2)))
def jO.cy_s:Shape:=⟨[(0,ob29),(1,ob3),(2,ob30),(4,ob36),(5,ob64),(6,ob3)],[(4,ob34),(5,ob34)]⟩
def jO.cy_r:Ck:=Ck.of (T:=List ((List (Bool×(List Int)))×(Int))) jO.cy_s (fun ρ X Z=>jO.cy_ X.2.1 X.2.2.1 X.2.2.2.1 (q4 X).2.1 Z) (fun ρ X V Z=>Z 0 (Shape.inj jO.cy_s (X.1,X.2.1,X.2.2.1,X.2.2.2.1,(q4 X).1,V,())))
def jO.cf_ (t1:Int)(a_1:(List (Bool×(List Int)))×(Int))(i:Int)(out:List ((List (Bool×(List Int)))×(Int)))(Z:((Int)×(List ((List (Bool×(List Int)))×(Int))))⊕((Int)×(List ((List (Bool×(List Int)))×(Int))))→Option ρ):Option ρ:=
  br (decide (i<8))
   (bnd (jO.cy_ t1 a_1 i out some) fun y=>
    Z (.inl ((i64.wrap (i+1)),y)))
   (Z (.inr (i,out)))
def jO.cf_r:Ck:=Ck.ofLoop (S:=(Int)×(List ((List (Bool×(List Int)))×(Int)))) (T:=(Int)×(List ((List (Bool×(List Int)))×(Int)))) jO.cy_s (fun X=>(X.2.2.2.1,(q4 X).2.1)) (fun ρ X Q Z=>jO.cf_ X.2.1 X.2.2.1 Q.1 Q.2 Z) (fun ρ X V Z=>Z 2 (Shape.inj jO.cy_s (X.1,X.2.1,X.2.2.1,V.1,(q4 X).1,V.2,())))
def jO (a:(List (Bool×(List Int)))×(Int)) (t1:Int):Option ((List (Bool×(List Int)))×(Int)):=
  bnd (jO.cg_ (Int.tmod t1 (16:Int)) some) fun y=>
  bnd (iter (fun s↦jO.cf_ y a s.1 s.2 some) ((0:Int),[(List.replicate (8:Nat) (false,[]),a.2)])) fun y1=>
  bnd (idx y1.2 (0:Int)) fun y2=>
  some y2
def jO.ce:Go.Ql.Callee:=⟨[(.st (.pair (.ar 8 (.st (.pair .bool (.sl (.int .i64))))) (.int .i64))),(.int .i64)],[(.st (.pair (.ar 8 (.st (.pair .bool (.sl (.int .i64))))) (.int .i64)))],fun X=>jO X.1 X.2⟩
def jO.G:Env:=⟨45,tab,[(53,kl.ce)],[0,1,2,4,5,6,7,11,19,27],[4,5,14,8000002],[],[(100007,jO.cf_r),(236872,jO.cy_r),(208197,jO.cg_r)],[],jE,[]⟩
theorem jO.p0:PcA jO.G Tryz.f20 0:=
  Jo (s:=jO.cg_r) (by kernel_rfl) (by kernel_rfl) (jp (sh:=jO.cg_s) (fun ρ X Z=>(jl jc jc)) (fun ρ X t k=>(by kernel_rfl)) (fun X=>by kernel_rfl))
theorem jO.p1:PcA jO.G Tryz.f20 1:=
  Ja (s:=jO.cf_r) (by kernel_rfl) (by kernel_rfl) (jU (sh:=jO.cy_s) (I:=fun X Q=>(X.1,X.2.1,X.2.2.1,Q.1,(q4 X).1,Q.2,())) (fun X=>rfl) (fun ρ X Q Z=>(jl (jb fun _=>jc) jc)) (fun ρ X t k=>(by kernel_rfl)) (fun X s=>by kernel_rfl))
theorem jO.p2:PcA jO.G Tryz.f20 2:=
  Jo (s:=jO.cy_r) (by kernel_rfl) (by kernel_rfl) (jp (sh:=jO.cy_s) (fun ρ X Z=>(jl (jb fun _=>(jb fun _=>(jb fun _=>(jb fun _=>(jb fun _=>jc))))) (jb fun _=>(jb fun _=>(jb fun _=>(jb fun _=>(jb fun _=>(jb fun _=>jc)))))))) (fun ρ X t k=>(by kernel_rfl)) (fun X=>by kernel_rfl))
theorem jO.ok:CalleeOk Tryz.prog 20 jO.ce:=fn_ok (G:=jO.G) jM mixed Tryz.func20 ⟨(jh kl.ok jF),jA,jo,jz⟩ (m:=3) (by kernel_rfl) ⟨⟨⟨trivial,jO.p0⟩,jO.p1⟩,jO.p2⟩ (by kernel_rfl) (fun _=>by kernel_rfl)
def Jh.c3 (a_1:List ((List (Bool×(List Int)))×(Int)))(Z:List ((List (Bool×(List Int)))×(Int))→Option ρ):Option ρ:=
  bnd (idx a_1 (0:Int)) fun y=>
  bnd (jO y (2:Int)) fun y1=>
  bnd (idx a_1 (0:Int)) fun y2=>
  bnd (jO y2 (6:Int)) fun y3=>
  bnd (JN y1 y3) fun y4=>
  bnd (idx a_1 (0:Int)) fun y5=>
  Z (List.set a_1 (0:Nat) y4)
def Jh.c3s:Shape:=⟨[(0,ob29),(1,ob32),(2,ob3),(3,ob3)],[(1,ob34)]⟩
def Jh.c3r:Ck:=Ck.of (T:=List ((List (Bool×(List Int)))×(Int))) Jh.c3s (fun ρ X Z=>Jh.c3 X.2.2.2.1 Z) (fun ρ X V Z=>Z 0 (Shape.inj Jh.c3s (X.1,X.2.1,X.2.2.1,V,())))
def Jh.ca_ (n:Int)(a_1:List ((List (Bool×(List Int)))×(Int)))(Z:((Int)×(List ((List (Bool×(List Int)))×(Int))))⊕((Int)×(List ((List (Bool×(List Int)))×(Int))))→Option ρ):Option ρ:=
  bnd (inR (a_1.length) (0:Int)) fun y=>
  bnd (idx a_1 (0:Int)) fun y1=>
  br (decide (y1.2>0))
   (bnd (Jh.c3 a_1 some) fun y2=>
    Z (.inl ((i64.wrap (n+1)),y2)))
   (Z (.inr (n,a_1)))
def Jh.ca_r:Ck:=Ck.ofLoop (S:=(Int)×(List ((List (Bool×(List Int)))×(Int)))) (T:=(Int)×(List ((List (Bool×(List Int)))×(Int)))) Jh.c3s (fun X=>(X.2.2.1,X.2.2.2.1)) (fun ρ X Q Z=>Jh.ca_ Q.1 Q.2 Z) (fun ρ X V Z=>Z 2 (Shape.inj Jh.c3s (X.1,X.2.1,V.1,V.2,())))
def Jh (a:(List (Bool×(List Int)))×(Int)):Option (Int):=
  bnd (iter (fun s↦Jh.ca_ s.1 s.2 some) ((0:Int),[a])) fun y=>
  some y.1
def Jh.ce:Go.Ql.Callee:=⟨[(.st (.pair (.ar 8 (.st (.pair .bool (.sl (.int .i64))))) (.int .i64)))],[(.int .i64)],fun X=>Jh X⟩
def Jh.G:Env:=⟨15,tab,[(20,jO.ce),(46,JN.ce)],[0,1,2,3,6],[1],[(3,[⟨[],[],[9],[]⟩,⟨[0],[],[9],[]⟩,⟨[],[],[7,8],[]⟩,⟨[2,1,0],[],[],[]⟩,⟨[1,0,3,2],[],[],[]⟩,⟨[4,1,0,3,2],[1],[],[]⟩])],[(100002,Jh.ca_r),(3,Jh.c3r)],[],jE,[]⟩
theorem Jh.p0:PcA Jh.G Tryz.f18 0:=
  Ja (s:=Jh.ca_r) (by kernel_rfl) (by kernel_rfl) (jU (sh:=Jh.c3s) (I:=fun X Q=>(X.1,X.2.1,Q.1,Q.2,())) (fun X=>rfl) (fun ρ X Q Z=>(jb fun _=>(jb fun _=>(jl (jb fun _=>jc) jc)))) (fun ρ X t k=>(by kernel_rfl)) (fun X s=>by kernel_rfl))
theorem Jh.p1:PcA Jh.G Tryz.f18 1:=
  jv (s:=Jh.c3r) (by kernel_rfl) (by kernel_rfl) (jp (sh:=Jh.c3s) (fun ρ X Z=>(jb fun _=>(jb fun _=>(jb fun _=>(jb fun _=>(jb fun _=>(jb fun _=>jc))))))) (fun ρ X t k=>(by kernel_rfl)) (fun X=>by kernel_rfl))
theorem Jh.ok:CalleeOk Tryz.prog 18 Jh.ce:=fn_ok (G:=Jh.G) jM mixed Tryz.func18 ⟨(jh jO.ok (jh JN.ok jF)),jA,jo,jz⟩ (m:=2) (by kernel_rfl) ⟨⟨trivial,Jh.p0⟩,Jh.p1⟩ (by kernel_rfl) (fun _=>by kernel_rfl)
def Je.c1 (a_1:(List (Bool×(List Int)))×(Int))(Z:List ((List (Bool×(List Int)))×(Int))→Option ρ):Option ρ:=
  bnd (jq a_1 (2:Int)) fun y=>
  bnd (jq a_1 (6:Int)) fun y1=>
  bnd (Jc y y1) fun y2=>
  Z [y2]
def Je.c1s:Shape:=⟨[(0,ob16),(1,ob17),(2,ob33)],[(2,ob65)]⟩
def Je.c1x0:Shape:=⟨[(0,ob16),(1,ob17),(2,ob33),(3,ob57)],[(2,ob65),(3,ob65)]⟩
def Je.c1r:Ck:=Ck.of (T:=List ((List (Bool×(List Int)))×(Int))) Je.c1s (fun ρ X Z=>Je.c1 X.2.1 Z) (fun ρ X V Z=>Z 0 (Shape.inj Je.c1x0 (X.1,X.2.1,X.2.2.1,V,())))
def Je (a:(List (Bool×(List Int)))×(Int)):Option ((List (Bool×(List Int)))×(Int)):=
  bnd (Je.c1 a some) fun y=>
  bnd (inR (y.length) (0:Int)) fun y1=>
  bnd (idx y (0:Int)) fun y2=>
  bnd (inR (y.length) (0:Int)) fun y3=>
  bnd (idx y (0:Int)) fun y4=>
  bnd (js y2.1 (i64.wrap (y4.2+1))) fun y5=>
  some y5
def Je.ce:Go.Ql.Callee:=⟨[(.st (.pair (.ar 8 (.st (.pair .bool (.sl (.int .u32))))) (.int .i64)))],[(.st (.pair (.ar 8 (.st (.pair .bool (.sl (.int .u32))))) (.int .i64)))],fun X=>Je X⟩
def Je.G:Env:=⟨15,tab,[(19,jq.ce),(51,Jc.ce),(29,js.ce)],[0,1,2,3],[2,3,8000001],[(1,[⟨[],[],[6,3],[3]⟩,⟨[0],[],[6,3],[3]⟩,⟨[],[],[4,5,3],[3]⟩,⟨[2,1,0],[],[3],[3]⟩,⟨[1,0,3,2],[],[3],[3]⟩,⟨[],[3],[4,5,6,7,8],[]⟩,⟨[5,4,1,0,3,2],[3],[],[]⟩])],[(1,Je.c1r)],[],jE,[]⟩
theorem Je.p0:PcA Je.G Tryz.f21 0:=
  jv (s:=Je.c1r) (by kernel_rfl) (by kernel_rfl) (jp (sh:=Je.c1s) (fun ρ X Z=>(jb fun _=>(jb fun _=>(jb fun _=>jc)))) (fun ρ X t k=>(by kernel_rfl)) (fun X=>by kernel_rfl))
theorem Je.ok:CalleeOk Tryz.prog 21 Je.ce:=fn_ok (G:=Je.G) jM mixed Tryz.func21 ⟨(jh jq.ok (jh Jc.ok (jh js.ok jF))),jA,jo,jz⟩ (m:=1) (by kernel_rfl) ⟨trivial,Je.p0⟩ (by kernel_rfl) (fun _=>by kernel_rfl)
def JO.c1 (a_1:(List (Bool×(List Int)))×(Int))(Z:List ((List (Bool×(List Int)))×(Int))→Option ρ):Option ρ:=
  bnd (jO a_1 (2:Int)) fun y=>
  bnd (jO a_1 (6:Int)) fun y1=>
  bnd (JN y y1) fun y2=>
  Z [y2]
def JO.c1s:Shape:=⟨[(0,ob29),(1,ob30),(2,ob33)],[(2,ob34)]⟩
def JO.c1x0:Shape:=⟨[(0,ob29),(1,ob30),(2,ob33),(3,ob57)],[(2,ob34),(3,ob34)]⟩
def JO.c1r:Ck:=Ck.of (T:=List ((List (Bool×(List Int)))×(Int))) JO.c1s (fun ρ X Z=>JO.c1 X.2.1 Z) (fun ρ X V Z=>Z 0 (Shape.inj JO.c1x0 (X.1,X.2.1,X.2.2.1,V,())))
def JO (a:(List (Bool×(List Int)))×(Int)):Option ((List (Bool×(List Int)))×(Int)):=
  bnd (JO.c1 a some) fun y=>
  bnd (idx y (0:Int)) fun y1=>
  bnd (Jk y1) fun y2=>
  br y2
   (bnd (idx y (0:Int)) fun y3=>
    some y3)
   (bnd (inR (y.length) (0:Int)) fun y4=>
    bnd (idx y (0:Int)) fun y5=>
    bnd (inR (y.length) (0:Int)) fun y6=>
    bnd (idx y (0:Int)) fun y7=>
    bnd (idx (List.set y (0:Nat) (y7.1,i64.wrap (y5.2+1))) (0:Int)) fun y8=>
    bnd (jI y8) fun y9=>
    some y9)
def JO.ce:Go.Ql.Callee:=⟨[(.st (.pair (.ar 8 (.st (.pair .bool (.sl (.int .i64))))) (.int .i64)))],[(.st (.pair (.ar 8 (.st (.pair .bool (.sl (.int .i64))))) (.int .i64)))],fun X=>JO X⟩
def JO.G:Env:=⟨18,tab,[(20,jO.ce),(46,JN.ce),(14,Jk.ce),(36,jI.ce)],[0,1,2,3,10],[2,3,8000001],[(1,[⟨[],[],[6,3],[3]⟩,⟨[0],[],[6,3],[3]⟩,⟨[],[],[4,5,3],[3]⟩,⟨[2,1,0],[],[3],[3]⟩,⟨[1,0,3,2],[],[3],[3]⟩,⟨[],[3],[4,5,6,7,8],[]⟩,⟨[5,4,1,0,3,2],[3],[],[]⟩])],[(1,JO.c1r)],[],jE,[]⟩
theorem JO.p0:PcA JO.G Tryz.f22 0:=
  jv (s:=JO.c1r) (by kernel_rfl) (by kernel_rfl) (jp (sh:=JO.c1s) (fun ρ X Z=>(jb fun _=>(jb fun _=>(jb fun _=>jc)))) (fun ρ X t k=>(by kernel_rfl)) (fun X=>by kernel_rfl))
theorem JO.ok:CalleeOk Tryz.prog 22 JO.ce:=fn_ok (G:=JO.G) jM mixed Tryz.func22 ⟨(jh jO.ok (jh JN.ok (jh Jk.ok (jh jI.ok jF)))),jA,jo,jz⟩ (m:=1) (by kernel_rfl) ⟨trivial,JO.p0⟩ (by kernel_rfl) (fun _=>by kernel_rfl)
def kA  : Option ((List (Bool×(List Int)))×(Int)):=
  bnd (whole_Of (1:Int)) fun y=>
  some (List.set (List.replicate (8:Nat) (false,[])) (0:Nat) y,(0:Int))
def kA.ce:Go.Ql.Callee:=⟨[],[(.st (.pair (.ar 8 (.st (.pair .bool (.sl (.int .u32))))) (.int .i64)))],fun X=>kA⟩
def kA.G:Env:=⟨4,tab,[(43,whole_Of.ce)],[0],[0,3],[],[],[],jE,[]⟩
theorem kA.ok:CalleeOk Tryz.prog 54 kA.ce:=fn_ok (G:=kA.G) jM mixed Tryz.func54 ⟨(jh whole_Of.ok jF),jA,jo,jz⟩ (m:=0) (by kernel_rfl) trivial (by kernel_rfl) (fun _=>by kernel_rfl)
def kh (t0:Int):Option ((List (Bool×(List Int)))×(Int)):=
  bnd kA fun y=>
  bnd (jq y t0) fun y1=>
  some y1
def kh.ce:Go.Ql.Callee:=⟨[(.int .i64)],[(.st (.pair (.ar 8 (.st (.pair .bool (.sl (.int .u32))))) (.int .i64)))],fun X=>kh X⟩
def kh.G:Env:=⟨6,tab,[(54,kA.ce),(19,jq.ce)],[0,2],[2],[],[],[],jE,[]⟩
theorem kh.ok:CalleeOk Tryz.prog 23 kh.ce:=fn_ok (G:=kh.G) jM mixed Tryz.func23 ⟨(jh kA.ok (jh jq.ok jF)),jA,jo,jz⟩ (m:=0) (by kernel_rfl) trivial (by kernel_rfl) (fun _=>by kernel_rfl)
def kP (t0:Int):Option ((List (Bool×(List Int)))×(Int)):=
  bnd (Jm (1:Int)) fun y=>
  bnd (Yk y) fun y1=>
  bnd (jO y1 t0) fun y2=>
  some y2
def kP.ce:Go.Ql.Callee:=⟨[(.int .i64)],[(.st (.pair (.ar 8 (.st (.pair .bool (.sl (.int .i64))))) (.int .i64)))],fun X=>kP X⟩
def kP.G:Env:=⟨7,tab,[(34,Jm.ce),(47,Yk.ce),(20,jO.ce)],[0,2],[2],[],[],[],jE,[]⟩
theorem kP.ok:CalleeOk Tryz.prog 24 kP.ce:=fn_ok (G:=kP.G) jM mixed Tryz.func24 ⟨(jh Jm.ok (jh Yk.ok (jh jO.ok jF))),jA,jo,jz⟩ (m:=0) (by kernel_rfl) trivial (by kernel_rfl) (fun _=>by kernel_rfl)
abbrev ob66:SD:=.one (.ref 1000000 0)
abbrev ob67:SD:=.one (.val (.int .u8))
abbrev ob68:SO:=.box [.val .str,.val (.int .i64)]
def jK.pre:Shape:=⟨[(0,ob66),(1,ob67)],[(1000000,ob68)]⟩
def jK.post:Shape:=⟨[(0,ob0)],[(1000000,ob68)]⟩
def jK.c1 (c:Int)(ua:List UInt8)(ub:Int)(Z:Bool→Option ρ):Option ρ:=
  br (decide (ub<(ua.length:Int)))
   (bnd (idx ua ub) fun y=>
    Z ((↑(UInt8.toNat y):Int)==c))
   (Z false)
def jK.c1s:Shape:=⟨[(0,ob66),(1,ob67),(4,ob0)],[(1000000,ob68)]⟩
def jK.c1x0:Shape:=⟨[(0,ob66),(1,ob67),(4,ob0),(27,ob0)],[(1000000,ob68)]⟩
def jK.c1r:Ck:=Ck.of (T:=Bool) jK.c1s (fun ρ X Z=>jK.c1 X.1 X.2.2.1 X.2.2.2.1 Z) (fun ρ X V Z=>Z 0 (Shape.inj jK.c1x0 (X.1,X.2.1,V,X.2.2)))
def jK (c:Int) (ua:List UInt8) (ub:Int):Option (Bool×(List UInt8)×(Int)×Unit):=
  bnd (jK.c1 c ua ub some) fun y=>
  br y
   (some (true,ua,i64.wrap (ub+1),()))
   (some (false,ua,ub,()))
def jK.mc:MCallee:=⟨55,jK.pre,jK.post,fun X=>jK X.1 X.2.1 X.2.2.1⟩
def jK.G:Env:=⟨35,tab,[],[0,1,4,27],[],[(1,[⟨[],[],[9,10,11,12,13],[]⟩,⟨[0],[],[9,10,11,12,13],[]⟩,⟨[1,0],[],[9,10,11,12,13],[]⟩,⟨[2,1,0],[],[9,10,11,12,13],[]⟩,⟨[],[],[5,6,7,8],[]⟩,⟨[4],[],[5,6,7,8],[]⟩,⟨[5,4],[],[5,6,7,8],[]⟩,⟨[6,5,4],[],[5,6,7,8],[]⟩,⟨[7,6,5,4],[],[5,6,7,8],[]⟩,⟨[3,2,1,0,8,7,6,5,4],[],[],[]⟩,⟨[9,3,2,1,0,8,7,6,5,4],[],[],[]⟩,⟨[10,9,3,2,1,0,8,7,6,5,4],[],[20,21,22,23,25],[]⟩,⟨[11,10,9,3,2,1,0,8,7,6,5,4],[],[20,21,22,23,25],[]⟩,⟨[12,11,10,9,3,2,1,0,8,7,6,5,4],[],[20,21,22,23,25],[]⟩,⟨[13,12,11,10,9,3,2,1,0,8,7,6,5,4],[],[20,21,22,23,25],[]⟩,⟨[10,9,3,2,1,0,8,7,6,5,4],[],[16,17,18,19,25],[]⟩,⟨[15,10,9,3,2,1,0,8,7,6,5,4],[],[16,17,18,19,25],[]⟩,⟨[16,15,10,9,3,2,1,0,8,7,6,5,4],[],[16,17,18,19,25],[]⟩,⟨[17,16,15,10,9,3,2,1,0,8,7,6,5,4],[],[16,17,18,19,25],[]⟩,⟨[14,13,12,11,10,9,3,2,1,0,8,7,6,5,4,18,17,16,15],[],[25],[]⟩,⟨[10,9,3,2,1,0,8,7,6,5,4],[],[16,17,18,19,20,21,22,23,24],[]⟩,⟨[19,14,13,12,11,10,9,3,2,1,0,8,7,6,5,4,18,17,16,15,20],[],[],[]⟩,⟨[10,9,3,2,1,0,8,7,6,5,4,21,19,14,13,12,11,18,17,16,15,20],[],[],[]⟩])],[(1,jK.c1r)],[],jE,[]⟩
theorem jK.p0:PcA jK.G Tryz.f55 0:=
  jv (s:=jK.c1r) (by kernel_rfl) (by kernel_rfl) (jp (sh:=jK.c1s) (fun ρ X Z=>(jl (jb fun _=>jc) jc)) (fun ρ X t k=>(by kernel_rfl)) (fun X=>by kernel_rfl))
theorem jK.ok:MOk Tryz.prog 55 jK.mc:=Ug (mc:=jK.mc) (G:=jK.G) jM mixed Tryz.func55 ⟨jF,jA,jo,jz⟩ (m:=1) (by kernel_rfl) ⟨trivial,jK.p0⟩ (by kernel_rfl) (fun _=>by kernel_rfl)
abbrev ob69:SD:=.one (.val (.ifc 62 (.st (.st (.pair (.int .i64) (.int .i64))))))
abbrev ob70:SO:=.clo 0 [] [.val (.ifc 62 (.st (.st (.pair (.int .i64) (.int .i64)))))]
def jd.pre:Shape:=⟨[(0,ob66),(1,ob0)],[(1000000,ob68)]⟩
def jd.post:Shape:=⟨[(0,ob13)],[(1000000,ob68)]⟩
def jd.post2:Shape:=⟨[(0,ob69)],[(1000000,ob68)]⟩
def jd.c2 (ua:List UInt8)(ub:Int)(Z:Bool→Option ρ):Option ρ:=
  br (decide (ub<(ua.length:Int)))
   (bnd (idx ua ub) fun y=>
    br (decide ((48:Int)≤(↑(UInt8.toNat y):Int)))
     (bnd (idx ua ub) fun y1=>
      Z (decide ((↑(UInt8.toNat y1):Int)≤57)))
     (Z false))
   (Z false)
def jd.c2s:Shape:=⟨[(0,ob66),(1,ob0),(4,ob13),(5,ob3)],[(1000000,ob68)]⟩
def jd.c2x0:Shape:=⟨[(0,ob66),(1,ob0),(4,ob13),(5,ob3),(43,ob0)],[(1000000,ob68)]⟩
def jd.c2r:Ck:=Ck.of (T:=Bool) jd.c2s (fun ρ X Z=>jd.c2 X.2.2.2.1 (q4 X).1 Z) (fun ρ X V Z=>Z 0 (Shape.inj jd.c2x0 (X.1,X.2.1,X.2.2.1,V,X.2.2.2)))
def jd.c3 (nought:Bool)(t5:Int)(ua:List UInt8)(ub:Int)(Z:Bool→Option ρ):Option ρ:=
  bnd (idx ua t5) fun y=>
  br ((↑(UInt8.toNat y):Int)==48)
   (br (!nought)
     (Z true)
     (Z (decide (ub>t5))))
   (Z false)
def jd.c3x0:Shape:=⟨[(0,ob66),(1,ob0),(4,ob13),(5,ob3),(62,ob0)],[(1000000,ob68)]⟩
def jd.c3r:Ck:=Ck.of (T:=Bool) jd.c2s (fun ρ X Z=>jd.c3 X.1 X.2.2.1 X.2.2.2.1 (q4 X).1 Z) (fun ρ X V Z=>Z 0 (Shape.inj jd.c3x0 (X.1,X.2.1,X.2.2.1,V,X.2.2.2)))
def jd.ca_ (nought:Bool)(t5:Int)(ua:List UInt8)(ub:Int)(Z:(Int)⊕(Int)→Option ρ):Option ρ:=
  bnd (jd.c2 ua ub some) fun y=>
  br y
   (bnd (jd.c3 nought t5 ua ub some) fun y1=>
    br y1
     (Z (.inr ub))
     (Z (.inl (i64.wrap (ub+1)))))
   (Z (.inr ub))
def jd.ca_r:Ck:=Ck.ofLoop (S:=Int) (T:=Int) jd.c2s (fun X=>(q4 X).1) (fun ρ X Q Z=>jd.ca_ X.1 X.2.2.1 X.2.2.2.1 Q Z) (fun ρ X V Z=>Z 2 (Shape.inj jd.c2s (X.1,X.2.1,X.2.2.1,X.2.2.2.1,V,())))
def jd.cJ_ (t5:Int)(ub:Int)(Z:(Unit)⊕(Unit)→Option ρ):Option ρ:=
  br (ub==t5)
   (Z (.inl ()))
   (Z (.inr ()))
def jd.cJ_x0:Shape:=⟨[(0,ob66),(1,ob0),(4,ob13),(5,ob3)],[(900001,ob70),(1000000,ob68)]⟩
def jd.cJ_r:Ck:=Ck.of (T:=(Unit)⊕(Unit)) jd.c2s (fun ρ X Z=>jd.cJ_ X.2.2.1 (q4 X).1 Z) (fun ρ X V Z=>sel V (fun V=>Z 1000000 (Shape.inj jd.cJ_x0 (X.1,X.2.1,X.2.2.1,((1:Int),(q4 X).1),X.2.2.2))) (fun V=>Z 0 (Shape.inj jd.c2s X)))
def jd.c7 (t5:Int)(ua:List UInt8)(ub:Int)(Z:Unit→Option ρ):Option ρ:=
  bnd (okIf (decide ((0:Int)≤t5)&&decide (t5≤ub)&&decide (ub≤(ua.length:Int)))) fun y=>
  Z ()
def jd.c7r:Ck:=Ck.of (T:=Unit) jd.c2s (fun ρ X Z=>jd.c7 X.2.2.1 X.2.2.2.1 (q4 X).1 Z) (fun ρ X V Z=>Z 0 (Shape.inj jd.c2s (X.1,(List.drop (Int.toNat X.2.2.1) (List.take (Int.toNat (q4 X).1) X.2.2.2.1)),X.2.2)))
def jd (nought:Bool) (ua:List UInt8) (ub:Int):Option (((List UInt8)×(List UInt8)×(Int)×Unit)⊕(((Int)×(Int))×(List UInt8)×(Int)×Unit)):=
  bnd (iter (fun s↦jd.ca_ nought ub ua s some) ub) fun y=>
  bnd (jd.cJ_ ub y some) fun y1=>
  sel y1
   (fun u=>some (Sum.inr (((1:Int),y),ua,y,())))
   (fun v=>bnd (jd.c7 ub ua y some) fun y2=>
    some (Sum.inl (List.drop (Int.toNat ub) (List.take (Int.toNat y) ua),ua,y,())))
def jd.ma:MAlt:=⟨56,jd.pre,jd.post,true,jd.post2,fun X=>jd X.1 X.2.1 X.2.2.1⟩
def jd.G:Env:=⟨93,tab,[],[0,1,4,5,43,62,75],[],[(7,[⟨[],[],[87,88,89,90,91],[]⟩,⟨[0],[],[87,88,89,90,91],[]⟩,⟨[1,0],[],[87,88,89,90,91],[]⟩,⟨[2,1,0],[],[87,88,89,90,91],[]⟩,⟨[],[],[83,84,85,86,88,89,90,91],[]⟩,⟨[],[],[83,84,85,86,87],[]⟩,⟨[5],[],[83,84,85,86,87],[]⟩,⟨[6,5],[],[83,84,85,86,87],[]⟩,⟨[7,6,5],[],[83,84,85,86,87],[]⟩,⟨[3,2,1,0,4,8,7,6,5],[],[],[]⟩,⟨[9,3,2,1,0,4,8,7,6,5],[],[],[]⟩]),
  (2,[⟨[],[],[14,15,16,17,18],[]⟩,⟨[0],[],[14,15,16,17,18],[]⟩,⟨[1,0],[],[14,15,16,17,18],[]⟩,⟨[2,1,0],[],[14,15,16,17,18],[]⟩,⟨[],[],[10,11,12,13],[]⟩,⟨[4],[],[10,11,12,13],[]⟩,⟨[5,4],[],[10,11,12,13],[]⟩,⟨[6,5,4],[],[10,11,12,13],[]⟩,⟨[7,6,5,4],[],[10,11,12,13],[]⟩,⟨[3,2,1,0,8,7,6,5,4],[],[],[]⟩,⟨[9,3,2,1,0,8,7,6,5,4],[],[],[]⟩,⟨[10,9,3,2,1,0,8,7,6,5,4],[],[25,26,27,28],[]⟩,⟨[11,10,9,3,2,1,0,8,7,6,5,4],[],[25,26,27,28],[]⟩,⟨[12,11,10,9,3,2,1,0,8,7,6,5,4],[],[25,26,27,28],[]⟩,⟨[13,12,11,10,9,3,2,1,0,8,7,6,5,4],[],[25,26,27,28],[]⟩,⟨[10,9,3,2,1,0,8,7,6,5,4],[],[21,22,23,24],[]⟩,⟨[15,10,9,3,2,1,0,8,7,6,5,4],[],[21,22,23,24],[]⟩,⟨[16,15,10,9,3,2,1,0,8,7,6,5,4],[],[21,22,23,24],[]⟩,⟨[17,16,15,10,9,3,2,1,0,8,7,6,5,4],[],[21,22,23,24],[]⟩,⟨[14,13,12,11,10,9,3,2,1,0,8,7,6,5,4,18,17,16,15],[],[],[]⟩,⟨[19,14,13,12,11,10,9,3,2,1,0,8,7,6,5,4,18,17,16,15],[],[],[]⟩,⟨[10,9,3,2,1,0,8,7,6,5,4,20,19,14,13,12,11,18,17,16,15],[],[],[]⟩,⟨[21,10,9,3,2,1,0,8,7,6,5,4,20,19,14,13,12,11,18,17,16,15],[],[],[]⟩,⟨[22,21,10,9,3,2,1,0,8,7,6,5,4,20,19,14,13,12,11,18,17,16,15],[],[37,38,39,40],[]⟩,⟨[23,22,21,10,9,3,2,1,0,8,7,6,5,4,20,19,14,13,12,11,18,17,16,15],[],[37,38,39,40],[]⟩,⟨[24,23,22,21,10,9,3,2,1,0,8,7,6,5,4,20,19,14,13,12,11,18,17,16,15],[],[37,38,39,40],[]⟩,⟨[25,24,23,22,21,10,9,3,2,1,0,8,7,6,5,4,20,19,14,13,12,11,18,17,16,15],[],[37,38,39,40],[]⟩,⟨[22,21,10,9,3,2,1,0,8,7,6,5,4,20,19,14,13,12,11,18,17,16,15],[],[33,34,35,36],[]⟩,⟨[27,22,21,10,9,3,2,1,0,8,7,6,5,4,20,19,14,13,12,11,18,17,16,15],[],[33,34,35,36],[]⟩,⟨[28,27,22,21,10,9,3,2,1,0,8,7,6,5,4,20,19,14,13,12,11,18,17,16,15],[],[33,34,35,36],[]⟩,⟨[29,28,27,22,21,10,9,3,2,1,0,8,7,6,5,4,20,19,14,13,12,11,18,17,16,15],[],[33,34,35,36],[]⟩,⟨[26,25,24,23,22,21,10,9,3,2,1,0,8,7,6,5,4,20,19,14,13,12,11,18,17,16,15,30,29,28,27],[],[],[]⟩,⟨[31,26,25,24,23,22,21,10,9,3,2,1,0,8,7,6,5,4,20,19,14,13,12,11,18,17,16,15,30,29,28,27],[],[],[]⟩,⟨[22,21,10,9,3,2,1,0,8,7,6,5,4,20,19,14,13,12,11,18,17,16,15,32,31,26,25,24,23,30,29,28,27],[],[],[]⟩])],[(7,jd.c7r),(220485,jd.cJ_r),(100002,jd.ca_r),(3,jd.c3r),(2,jd.c2r)],[],jE,[]⟩
theorem jd.p0:PcA jd.G Tryz.f56 0:=
  Ja (s:=jd.ca_r) (by kernel_rfl) (by kernel_rfl) (jU (sh:=jd.c2s) (I:=fun X Q=>(X.1,X.2.1,X.2.2.1,X.2.2.2.1,Q,())) (fun X=>rfl) (fun ρ X Q Z=>(jb fun _=>(jl (jb fun _=>(jl jc jc)) jc))) (fun ρ X t k=>(by kernel_rfl)) (fun X s=>by kernel_rfl))
theorem jd.p1:PcA jd.G Tryz.f56 1:=
  jv (s:=jd.c2r) (by kernel_rfl) (by kernel_rfl) (jp (sh:=jd.c2s) (fun ρ X Z=>(jl (jb fun _=>(jl (jb fun _=>jc) jc)) jc)) (fun ρ X t k=>(by kernel_rfl)) (fun X=>by kernel_rfl))
theorem jd.p2:PcA jd.G Tryz.f56 2:=
  jv (s:=jd.c3r) (by kernel_rfl) (by kernel_rfl) (jp (sh:=jd.c2s) (fun ρ X Z=>(jb fun _=>(jl (jl jc jc) jc))) (fun ρ X t k=>(by kernel_rfl)) (fun X=>by kernel_rfl))
theorem jd.p3:PcA jd.G Tryz.f56 3:=
  Jo (s:=jd.cJ_r) (by kernel_rfl) (by kernel_rfl) (jp (sh:=jd.c2s) (fun ρ X Z=>(jl jc jc)) (fun ρ X t k=>(kj (fun _=>(by kernel_rfl)) (fun _=>(by kernel_rfl)))) (fun X=>by kernel_rfl))
theorem jd.p4:PcA jd.G Tryz.f56 4:=
  jv (s:=jd.c7r) (by kernel_rfl) (by kernel_rfl) (jp (sh:=jd.c2s) (fun ρ X Z=>(jb fun _=>jc)) (fun ρ X t k=>(by kernel_rfl)) (fun X=>by kernel_rfl))
theorem jd.ok:AltOk Tryz.prog 56 jd.ma:=fna_ok (ma:=jd.ma) (G:=jd.G) jM mixed Tryz.func56 ⟨jF,jA,jo,jz⟩ (m:=5) (by kernel_rfl) ⟨⟨⟨⟨⟨trivial,jd.p0⟩,jd.p1⟩,jd.p2⟩,jd.p3⟩,jd.p4⟩ (by kernel_rfl) (fun _=>by kernel_rfl)
abbrev ob71:SD:=.one (.val (.sl .str))
def jf.pre:Shape:=⟨[(0,ob66)],[(1000000,ob68)]⟩
def jf.post:Shape:=⟨[(0,ob71),(1,ob13)],[(1000000,ob68)]⟩
def jf.post2:Shape:=⟨[(0,ob69)],[(1000000,ob68)]⟩
def jf.cI_ (sign:List UInt8)(ua:List UInt8)(ub:Int)(Z:(List UInt8)×(List UInt8)×(Int)→Option ρ):Option ρ:=
  bnd (jK (45:Int) ua ub) fun y=>
  br y.1
   (Z ((Array.toList (ByteArray.data (ByteArray.mk #[45]))),y.2.1,y.2.2.1))
   (Z (sign,y.2.1,y.2.2.1))
def jf.cI_s:Shape:=⟨[(0,ob66),(2,ob71),(3,ob13),(4,ob24),(5,ob13)],[(4,ob21),(1000000,ob68)]⟩
def jf.cI_r:Ck:=Ck.of (T:=(List UInt8)×(List UInt8)×(Int)) jf.cI_s (fun ρ X Z=>jf.cI_ X.2.2.1 (q4 X).1 (q4 X).2.1 Z) (fun ρ X V Z=>Z 0 (Shape.inj jf.cI_s (X.1,X.2.1,V.1,X.2.2.2.1,V.2.1,V.2.2,())))
def jf.c6 (cs:List (List UInt8))(ua:List UInt8)(ub:Int)(Z:Bool×(List UInt8)×(Int)→Option ρ):Option ρ:=
  br ((cs.length:Int)==8)
   (Z (true,ua,ub))
   (bnd (jK (44:Int) ua ub) fun y=>
    Z ((!y.1),y.2.1,y.2.2.1))
def jf.c6x0:Shape:=⟨[(0,ob66),(2,ob71),(3,ob13),(4,ob24),(5,ob13),(25,ob0)],[(4,ob21),(1000000,ob68)]⟩
def jf.c6r:Ck:=Ck.of (T:=Bool×(List UInt8)×(Int)) jf.cI_s (fun ρ X Z=>jf.c6 X.2.2.2.1 (q4 X).1 (q4 X).2.1 Z) (fun ρ X V Z=>Z 0 (Shape.inj jf.c6x0 (X.1,X.2.1,X.2.2.1,V.1,X.2.2.2.1,V.2.1,V.2.2,())))
def jf.ca_ (cs:List (List UInt8))(ua:List UInt8)(ub:Int)(Z:((List (List UInt8))×(List UInt8)×(Int))⊕(((List (List UInt8))×(List UInt8)×(Int))⊕((List (List UInt8))×((Int)×(Int))×(List UInt8)×(Int)))→Option ρ):Option ρ:=
  bnd (jf.cI_ (Array.toList (ByteArray.data (ByteArray.mk #[]))) ua ub some) fun y=>
  bnd (jd (y.1==Array.toList (ByteArray.data (ByteArray.mk #[]))) y.2.1 y.2.2) fun y1=>
  sel y1
   (fun u=>bnd (okIf (decide (List.length y.1+List.length u.1≤9223372036854775807))) fun y2=>
    bnd (okIf (decide ((cs.length+1)*16≤140737488355328)&&decide (cs.length+1≤140737488355328))) fun y3=>
    bnd (jf.c6 (cs++[y.1++u.1]) u.2.1 u.2.2.1 some) fun y4=>
    br y4.1
     (Z (.inr (.inl ((cs++[y.1++u.1]),y4.2.1,y4.2.2))))
     (Z (.inl ((cs++[y.1++u.1]),y4.2.1,y4.2.2))))
   (fun v=>Z (.inr (.inr (cs,v.1,v.2.1,v.2.2.1))))
def jf.ca_s:Shape:=⟨[(0,ob66),(2,ob71),(3,ob13),(4,ob24)],[(4,ob21),(1000000,ob68)]⟩
def jf.ca_x1:Shape:=⟨[(0,ob66),(2,ob71),(3,ob13),(4,ob24)],[(4,ob21),(900001,ob70),(1000000,ob68)]⟩
def jf.ca_r:Ck:=Ck.ofLoop (S:=(List (List UInt8))×(List UInt8)×(Int)) (T:=((List (List UInt8))×(List UInt8)×(Int))⊕((List (List UInt8))×((Int)×(Int))×(List UInt8)×(Int))) jf.ca_s (fun X=>(X.2.2.1,X.2.2.2.1,(q4 X).1)) (fun ρ X Q Z=>jf.ca_ Q.1 Q.2.1 Q.2.2 Z) (fun ρ X V Z=>sel V (fun V=>Z 2 (Shape.inj jf.ca_s (X.1,X.2.1,V.1,V.2.1,V.2.2,()))) (fun V=>Z 1000000 (Shape.inj jf.ca_x1 (X.1,X.2.1,V.1,V.2.1,V.2.2.1,V.2.2.2,()))))
def jf.cj_ (e:List UInt8)(ua:List UInt8)(ub:Int)(Z:((List UInt8)×(List UInt8)×(Int))⊕(((Int)×(Int))×(List UInt8)×(Int))→Option ρ):Option ρ:=
  bnd (jK (47:Int) ua ub) fun y=>
  br y.1
   (bnd (jd false y.2.1 y.2.2.1) fun y1=>
    sel y1
     (fun u=>Z (.inl (u.1,u.2.1,u.2.2.1)))
     (fun v=>Z (.inr (v.1,v.2.1,v.2.2.1))))
   (Z (.inl (e,y.2.1,y.2.2.1)))
def jf.cj_s:Shape:=⟨[(0,ob66),(2,ob71),(3,ob13),(4,ob24),(6,ob13)],[(4,ob21),(1000000,ob68)]⟩
def jf.cj_x1:Shape:=⟨[(0,ob66),(2,ob71),(3,ob13),(4,ob24),(6,ob13)],[(4,ob21),(900001,ob70),(1000000,ob68)]⟩
def jf.cj_r:Ck:=Ck.of (T:=((List UInt8)×(List UInt8)×(Int))⊕(((Int)×(Int))×(List UInt8)×(Int))) jf.cj_s (fun ρ X Z=>jf.cj_ X.2.2.1 (q4 X).1 (q4 X).2.1 Z) (fun ρ X V Z=>sel V (fun V=>Z 0 (Shape.inj jf.cj_s (X.1,X.2.1,V.1,X.2.2.2.1,V.2.1,V.2.2,()))) (fun V=>Z 1000000 (Shape.inj jf.cj_x1 (X.1,X.2.1,X.2.2.1,X.2.2.2.1,V.1,V.2.1,V.2.2,()))))
def jf.c10  (Z:Unit→Option ρ):Option ρ:=
  Z ()
def jf.c10x0:Shape:=⟨[(0,ob66),(2,ob71),(3,ob13),(4,ob24),(6,ob13),(39,ob0)],[(4,ob21),(1000000,ob68)]⟩
def jf.c10r:Ck:=Ck.of (T:=Unit) jf.cj_s (fun ρ X Z=>jf.c10  Z) (fun ρ X V Z=>Z 0 (Shape.inj jf.c10x0 (X.1,X.2.1,X.2.2.1,(decide ((q4 X).2.1<(X.2.2.2.2.1.length:Int))),X.2.2.2)))
def jf.cn_ (ua:List UInt8)(ub:Int)(Z:(Unit)⊕(Unit)→Option ρ):Option ρ:=
  bnd (jf.c10 some) fun y=>
  br (decide (ub<(ua.length:Int)))
   (Z (.inl ()))
   (Z (.inr ()))
def jf.cn_r:Ck:=Ck.of (T:=(Unit)⊕(Unit)) jf.cj_s (fun ρ X Z=>jf.cn_ (q4 X).1 (q4 X).2.1 Z) (fun ρ X V Z=>sel V (fun V=>Z 1000000 (Shape.inj jf.cj_x1 (X.1,X.2.1,X.2.2.1,X.2.2.2.1,((1:Int),(q4 X).2.1),(q4 X)))) (fun V=>Z 0 (Shape.inj jf.cj_s X)))
def jf (ua:List UInt8) (ub:Int):Option (((List (List UInt8))×(List UInt8)×(List UInt8)×(Int)×Unit)⊕(((Int)×(Int))×(List UInt8)×(Int)×Unit)):=
  bnd (iter (fun s↦jf.ca_ s.1 s.2.1 s.2.2 some) ([],ua,ub)) fun y=>
  sel y
   (fun u=>bnd (jf.cj_ (Array.toList (ByteArray.data (ByteArray.mk #[]))) u.2.1 u.2.2 some) fun y1=>
    sel y1
     (fun u_1=>bnd (jf.cn_ u_1.2.1 u_1.2.2 some) fun y2=>
      sel y2
       (fun u_2=>some (Sum.inr (((1:Int),u_1.2.2),u_1.2.1,u_1.2.2,())))
       (fun v_2=>some (Sum.inl (u.1,u_1.1,u_1.2.1,u_1.2.2,()))))
     (fun v_1=>some (Sum.inr (v_1.1,v_1.2.1,v_1.2.2,()))))
   (fun v=>some (Sum.inr (v.2.1,v.2.2.1,v.2.2.2,())))
def jf.ma:MAlt:=⟨26,jf.pre,jf.post,true,jf.post2,fun X=>jf X.1 X.2.1⟩
def jf.G:Env:=⟨49,tab,[],[0,2,3,4,5,6,8,25,27,39],[4],[(10,[⟨[],[],[34,35,36,37,38],[]⟩,⟨[0],[],[34,35,36,37,38],[]⟩,⟨[1,0],[],[34,35,36,37,38],[]⟩,⟨[2,1,0],[],[34,35,36,37,38],[]⟩,⟨[],[],[30,31,32,33],[]⟩,⟨[4],[],[30,31,32,33],[]⟩,⟨[5,4],[],[30,31,32,33],[]⟩,⟨[6,5,4],[],[30,31,32,33],[]⟩,⟨[7,6,5,4],[],[30,31,32,33],[]⟩,⟨[3,2,1,0,8,7,6,5,4],[],[],[]⟩])],[(240965,jf.cn_r),(10,jf.c10r),(232773,jf.cj_r),(100002,jf.ca_r),(6,jf.c6r),(212293,jf.cI_r)],[(55,jK.mc)],jE,[(56,jd.ma)]⟩
theorem jf.p0:PcA jf.G Tryz.f26 0:=
  Ja (s:=jf.ca_r) (by kernel_rfl) (by kernel_rfl) (jU (sh:=jf.ca_s) (I:=fun X Q=>(X.1,X.2.1,Q.1,Q.2.1,Q.2.2,())) (fun X=>rfl) (fun ρ X Q Z=>(jb fun _=>(jb fun _=>(kj (fun _=>(jb fun _=>(jb fun _=>(jb fun _=>(jl jc jc))))) (fun _=>jc))))) (fun ρ X t k=>(kj (fun _=>(by kernel_rfl)) (fun _=>(by kernel_rfl)))) (fun X s=>by kernel_rfl))
theorem jf.p1:PcA jf.G Tryz.f26 1:=
  Jo (s:=jf.cI_r) (by kernel_rfl) (by kernel_rfl) (jp (sh:=jf.cI_s) (fun ρ X Z=>(jb fun _=>(jl jc jc))) (fun ρ X t k=>(by kernel_rfl)) (fun X=>by kernel_rfl))
theorem jf.p2:PcA jf.G Tryz.f26 2:=
  jv (s:=jf.c6r) (by kernel_rfl) (by kernel_rfl) (jp (sh:=jf.cI_s) (fun ρ X Z=>(jl jc (jb fun _=>jc))) (fun ρ X t k=>(by kernel_rfl)) (fun X=>by kernel_rfl))
theorem jf.p3:PcA jf.G Tryz.f26 3:=
  Jo (s:=jf.cj_r) (by kernel_rfl) (by kernel_rfl) (jp (sh:=jf.cj_s) (fun ρ X Z=>(jb fun _=>(jl (jb fun _=>(kj (fun _=>jc) (fun _=>jc))) jc))) (fun ρ X t k=>(kj (fun _=>(by kernel_rfl)) (fun _=>(by kernel_rfl)))) (fun X=>by kernel_rfl))
theorem jf.p4:PcA jf.G Tryz.f26 4:=
  Jo (s:=jf.cn_r) (by kernel_rfl) (by kernel_rfl) (jp (sh:=jf.cj_s) (fun ρ X Z=>(jb fun _=>(jl jc jc))) (fun ρ X t k=>(kj (fun _=>(by kernel_rfl)) (fun _=>(by kernel_rfl)))) (fun X=>by kernel_rfl))
theorem jf.p5:PcA jf.G Tryz.f26 5:=
  jv (s:=jf.c10r) (by kernel_rfl) (by kernel_rfl) (jp (sh:=jf.cj_s) (fun ρ X Z=>jc) (fun ρ X t k=>(by kernel_rfl)) (fun X=>by kernel_rfl))
theorem jf.ok:AltOk Tryz.prog 26 jf.ma:=fna_ok (ma:=jf.ma) (G:=jf.G) jM mixed Tryz.func26 ⟨jF,(Yy jK.ok jA),jo,(alts_cons jd.ok jz)⟩ (m:=6) (by kernel_rfl) ⟨⟨⟨⟨⟨⟨trivial,jf.p0⟩,jf.p1⟩,jf.p2⟩,jf.p3⟩,jf.p4⟩,jf.p5⟩ (by kernel_rfl) (fun _=>by kernel_rfl)
def stringslite_HasPrefix.c1 (s:List UInt8)(t1:List UInt8)(Z:Bool→Option ρ):Option ρ:=
  br (decide ((s.length:Int)≥(t1.length:Int)))
   (bnd (okIf (decide ((0:Int)≤(t1.length:Int))&&decide ((t1.length:Int)≤(s.length:Int)))) fun y=>
    Z (List.take (Int.toNat (t1.length:Int)) s==t1))
   (Z false)
def stringslite_HasPrefix.c1s:Shape:=⟨[(0,ob13),(1,ob13),(4,ob0)],[]⟩
def stringslite_HasPrefix.c1r:Ck:=Ck.of (T:=Bool) stringslite_HasPrefix.c1s (fun ρ X Z=>stringslite_HasPrefix.c1 X.1 X.2.1 Z) (fun ρ X V Z=>Z 0 (Shape.inj stringslite_HasPrefix.c1s (X.1,X.2.1,V,())))
def stringslite_HasPrefix (s:List UInt8) (t1:List UInt8):Option Bool:=
  bnd (stringslite_HasPrefix.c1 s t1 some) fun y=>
  some y
def stringslite_HasPrefix.ce:Go.Ql.Callee:=⟨[.str,.str],[.bool],fun X=>stringslite_HasPrefix X.1 X.2⟩
def stringslite_HasPrefix.G:Env:=⟨18,tab,[],[0,1,4],[],[],[(1,stringslite_HasPrefix.c1r)],[],jE,[]⟩
theorem stringslite_HasPrefix.p0:PcA stringslite_HasPrefix.G Tryz.f107 0:=
  jv (s:=stringslite_HasPrefix.c1r) (by kernel_rfl) (by kernel_rfl) (jp (sh:=stringslite_HasPrefix.c1s) (fun ρ X Z=>(jl (jb fun _=>jc) jc)) (fun ρ X t k=>(by kernel_rfl)) (fun X=>by kernel_rfl))
theorem stringslite_HasPrefix.ok:CalleeOk Tryz.prog 107 stringslite_HasPrefix.ce:=fn_ok (G:=stringslite_HasPrefix.G) jM mixed Tryz.func107 ⟨jF,jA,jo,jz⟩ (m:=1) (by kernel_rfl) ⟨trivial,stringslite_HasPrefix.p0⟩ (by kernel_rfl) (fun _=>by kernel_rfl)
def Jt (s:List UInt8) (t1:List UInt8):Option Bool:=
  bnd (stringslite_HasPrefix s t1) fun y=>
  some y
def Jt.ce:Go.Ql.Callee:=⟨[.str,.str],[.bool],fun X=>Jt X.1 X.2⟩
def Jt.G:Env:=⟨8,tab,[(107,stringslite_HasPrefix.ce)],[0,1,4],[],[],[],[],jE,[]⟩
theorem Jt.ok:CalleeOk Tryz.prog 84 Jt.ce:=fn_ok (G:=Jt.G) jM mixed Tryz.func84 ⟨(jh stringslite_HasPrefix.ok jF),jA,jo,jz⟩ (m:=0) (by kernel_rfl) trivial (by kernel_rfl) (fun _=>by kernel_rfl)
end
end W
end
