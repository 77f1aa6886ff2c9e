/- Lifted functions, part 3: each with its contract. -/
import Derived.Test.YtjlbeiadpdgchaaWb
import Derived.Test.YtjlbeiadpdgchaaProg
set_option linter.all false
section
set_option maxHeartbeats 4000000
set_option maxRecDepth 100000
set_option linter.unusedVariables false
namespace W
open Go Go.Ql Go.Proofs
noncomputable section
abbrev tb84:SD:=.one (.own 1000702 0)
abbrev tb85:SO:=.clo 84 [] [.ref 7 0]
def jb.pre:Shape:=⟨[(0,tb28),(1,tb5),(2,tb5)],[(1000700,tb81),(1000701,tb22),(1000702,tb22)]⟩
def jb.post:Shape:=⟨[(0,tb7)],[(1000701,tb22),(1000702,tb22),(1000700,tb81)]⟩
def jb.c9 {ρ:Type} (i:Int) (sum0:Int) (sum1:Int) (sum2:Bool) (t1000701:List (Int×(Int×(Bool)))) (k_:Int×Int×(Bool)→Option ρ):Option ρ:=
 bnd (inR (List.length t1000701) i) fun y=>
 bnd (idx t1000701 i) fun y_1=>
 bnd (W.jA (sum0,sum1,sum2) y_1) fun y_2=>
 k_ (y_2.1,y_2.2.1,y_2.2.2)
def jb.c9s:Shape:=⟨[(0,tb28),(1,tb5),(2,tb5),(6,tb7),(7,tb42),(8,tb5),(9,tb79),(10,tb5),(11,tb23),(29,tb84),(30,tb5),(31,tb5)],[(7,tb9),(9,tb9),(11,tb9),(21,tb85),(1000700,tb81),(1000701,tb22),(1000702,tb22)]⟩
def jb.c9x0:Shape:=jb.c9s
def jb.c9r:Ck:=Ck.of (T:=Int×Int×(Bool)) jb.c9s (fun ρ x_ k_=>jb.c9 x_.2.2.2.2.1 x_.2.2.2.2.2.2.2.2.2.2.1 x_.2.2.2.2.2.2.2.2.2.2.2.1 x_.2.2.2.2.2.2.2.2.2.2.2.2.1 x_.2.2.2.2.2.2.2.2.2.2.2.2.2.2.2.2.2.1 k_) (fun ρ x_ r_ k_=>k_ 0 (Shape.inj jb.c9x0 (x_.1,x_.2.1,x_.2.2.1,x_.2.2.2.1,x_.2.2.2.2.1,x_.2.2.2.2.2.1,x_.2.2.2.2.2.2.1,x_.2.2.2.2.2.2.2.1,x_.2.2.2.2.2.2.2.2.1,x_.2.2.2.2.2.2.2.2.2.1,r_.1,r_.2.1,r_.2.2,x_.2.2.2.2.2.2.2.2.2.2.2.2.2)))
def jb.c228680 {ρ:Type} (t31:Int) (z0:Int) (z1:Int) (z2:Bool) (sum0:Int) (sum1:Int) (sum2:Bool) (t1000701:List (Int×(Int×(Bool)))) (t1000702:List (Int×(Int×(Bool)))) (k_:Int×Int×(Bool)→Option ρ):Option ρ:=
 bnd (inR (List.length t1000702) t31) fun y=>
 bnd (idx t1000702 t31) fun y_1=>
 bnd (W.jx (y_1.1,y_1.2.1,y_1.2.2) (z0,z1,z2)) fun y_2=>
 br y_2
 (bnd (W.jb.c9 t31 sum0 sum1 sum2 t1000701 some) fun y_3=>
 k_ (y_3.1,y_3.2.1,y_3.2.2))
 (k_ (sum0,sum1,sum2))
def jb.c228680s:Shape:=⟨[(0,tb28),(1,tb5),(2,tb5),(6,tb7),(7,tb42),(8,tb5),(9,tb79),(29,tb84),(30,tb5),(31,tb5)],[(7,tb9),(9,tb9),(21,tb85),(1000700,tb81),(1000701,tb22),(1000702,tb22)]⟩
def jb.c228680x0:Shape:=jb.c228680s
def jb.c228680r:Ck:=Ck.of (T:=Int×Int×(Bool)) jb.c228680s (fun ρ x_ k_=>jb.c228680 x_.2.2.2.2.2.1 x_.2.2.2.2.2.2.1 x_.2.2.2.2.2.2.2.1 x_.2.2.2.2.2.2.2.2.1 x_.2.2.2.2.2.2.2.2.2.1 x_.2.2.2.2.2.2.2.2.2.2.1 x_.2.2.2.2.2.2.2.2.2.2.2.1 x_.2.2.2.2.2.2.2.2.2.2.2.2.2.1 x_.2.2.2.2.2.2.2.2.2.2.2.2.2.2.1 k_) (fun ρ x_ r_ k_=>k_ 0 (Shape.inj jb.c228680x0 (x_.1,x_.2.1,x_.2.2.1,x_.2.2.2.1,x_.2.2.2.2.1,x_.2.2.2.2.2.1,x_.2.2.2.2.2.2.1,x_.2.2.2.2.2.2.2.1,x_.2.2.2.2.2.2.2.2.1,r_.1,r_.2.1,r_.2.2,x_.2.2.2.2.2.2.2.2.2.2.2.2)))
def jb.c100006 {ρ:Type} (t30:Int) (t31:Int) (z0:Int) (z1:Int) (z2:Bool) (sum0:Int) (sum1:Int) (sum2:Bool) (t1000701:List (Int×(Int×(Bool)))) (t1000702:List (Int×(Int×(Bool)))) (k_:(Int×Int×Int×(Bool))⊕(Int×Int×Int×(Bool))→Option ρ):Option ρ:=
 br (decide (t31 < t30))
 (bnd (W.jb.c228680 t31 z0 z1 z2 sum0 sum1 sum2 t1000701 t1000702 some) fun y=>
 k_ (.inl ((IntKind.wrap IntKind.i64 (t31+(1:Int))),y.1,y.2.1,y.2.2)))
 (k_ (.inr (t31,sum0,sum1,sum2)))
def jb.c100006s:Shape:=jb.c228680s
def jb.c100006x0:Shape:=jb.c228680s
def jb.c100006r:Ck:=Ck.ofLoop (S:=Int×Int×Int×(Bool)) (T:=Int×Int×Int×(Bool)) jb.c100006s (fun x_=>(x_.2.2.2.2.2.1,x_.2.2.2.2.2.2.2.2.2.1,x_.2.2.2.2.2.2.2.2.2.2.1,x_.2.2.2.2.2.2.2.2.2.2.2.1)) (fun ρ x_ s_ k_=>jb.c100006 x_.2.2.2.2.1 s_.1 x_.2.2.2.2.2.2.1 x_.2.2.2.2.2.2.2.1 x_.2.2.2.2.2.2.2.2.1 s_.2.1 s_.2.2.1 s_.2.2.2 x_.2.2.2.2.2.2.2.2.2.2.2.2.2.1 x_.2.2.2.2.2.2.2.2.2.2.2.2.2.2.1 k_) (fun ρ x_ r_ k_=>k_ 2 (Shape.inj jb.c100006x0 (x_.1,x_.2.1,x_.2.2.1,x_.2.2.2.1,x_.2.2.2.2.1,r_.1,x_.2.2.2.2.2.2.1,x_.2.2.2.2.2.2.2.1,x_.2.2.2.2.2.2.2.2.1,r_.2.1,r_.2.2.1,r_.2.2.2,x_.2.2.2.2.2.2.2.2.2.2.2.2)))
def jb.c16 {ρ:Type} (t8:Int) (i:Int) (z0:Int) (z1:Int) (z2:Bool) (t1000701:List (Int×(Int×(Bool)))) (k_:Bool→Option ρ):Option ρ:=
 br (i != t8)
 (bnd (inR (List.length t1000701) i) fun y=>
 bnd (idx t1000701 i) fun y_1=>
 bnd (W.jx y_1 (z0,z1,z2)) fun y_2=>
 k_ y_2)
 (k_ false)
def jb.c16s:Shape:=⟨[(0,tb28),(1,tb5),(2,tb5),(6,tb7),(7,tb42),(8,tb5),(12,tb74),(13,tb5),(64,tb5),(65,tb5)],[(7,tb9),(12,tb9),(21,tb85),(1000700,tb81),(1000701,tb22),(1000702,tb22)]⟩
def jb.c16x0:Shape:=⟨[(0,tb28),(1,tb5),(2,tb5),(6,tb7),(7,tb42),(8,tb5),(12,tb74),(13,tb5),(64,tb5),(65,tb5),(81,tb7)],[(7,tb9),(12,tb9),(21,tb85),(1000700,tb81),(1000701,tb22),(1000702,tb22)]⟩
def jb.c16r:Ck:=Ck.of (T:=Bool) jb.c16s (fun ρ x_ k_=>jb.c16 x_.2.2.2.1 x_.2.2.2.2.1 x_.2.2.2.2.2.2.2.1 x_.2.2.2.2.2.2.2.2.1 x_.2.2.2.2.2.2.2.2.2.1 x_.2.2.2.2.2.2.2.2.2.2.2.2.2.2.1 k_) (fun ρ x_ r_ k_=>k_ 0 (Shape.inj jb.c16x0 (x_.1,x_.2.1,x_.2.2.1,x_.2.2.2.1,x_.2.2.2.2.1,x_.2.2.2.2.2.1,x_.2.2.2.2.2.2.1,r_,x_.2.2.2.2.2.2.2)))
def jb.c17 {ρ:Type} (i:Int) (old0:Int) (old1:Int) (old2:Bool) (t1000701:List (Int×(Int×(Bool)))) (k_:List (Int×(Int×(Bool)))→Option ρ):Option ρ:=
 bnd (inR (List.length t1000701) i) fun y=>
 bnd (idx t1000701 i) fun y_1=>
 bnd (W.jA y_1 (old0,old1,old2)) fun y_2=>
 bnd (inR (List.length t1000701) i) fun y_3=>
 bnd (idx t1000701 i) fun y_4=>
 k_ (List.set t1000701 (Int.toNat i) y_2)
def jb.c17s:Shape:=jb.c16s
def jb.c17x0:Shape:=jb.c16s
def jb.c17r:Ck:=Ck.of (T:=List (Int×(Int×(Bool)))) jb.c17s (fun ρ x_ k_=>jb.c17 x_.2.2.2.2.1 x_.2.2.2.2.2.2.2.2.2.2.1 x_.2.2.2.2.2.2.2.2.2.2.2.1 x_.2.2.2.2.2.2.2.2.2.2.2.2.1 x_.2.2.2.2.2.2.2.2.2.2.2.2.2.2.1 k_) (fun ρ x_ r_ k_=>k_ 0 (Shape.inj jb.c17x0 (x_.1,x_.2.1,x_.2.2.1,x_.2.2.2.1,x_.2.2.2.2.1,x_.2.2.2.2.2.1,x_.2.2.2.2.2.2.1,x_.2.2.2.2.2.2.2.1,x_.2.2.2.2.2.2.2.2.1,x_.2.2.2.2.2.2.2.2.2.1,x_.2.2.2.2.2.2.2.2.2.2.1,x_.2.2.2.2.2.2.2.2.2.2.2.1,x_.2.2.2.2.2.2.2.2.2.2.2.2.1,x_.2.2.2.2.2.2.2.2.2.2.2.2.2.1,r_,x_.2.2.2.2.2.2.2.2.2.2.2.2.2.2.2)))
def jb.c265541 {ρ:Type} (t8:Int) (i:Int) (z0:Int) (z1:Int) (z2:Bool) (old0:Int) (old1:Int) (old2:Bool) (t1000701:List (Int×(Int×(Bool)))) (k_:List (Int×(Int×(Bool)))→Option ρ):Option ρ:=
 bnd (W.jb.c16 t8 i z0 z1 z2 t1000701 some) fun y=>
 br y
 (bnd (W.jb.c17 i old0 old1 old2 t1000701 some) fun y_1=>
 k_ y_1)
 (k_ t1000701)
def jb.c265541s:Shape:=jb.c16s
def jb.c265541x0:Shape:=jb.c16s
def jb.c265541r:Ck:=Ck.of (T:=List (Int×(Int×(Bool)))) jb.c265541s (fun ρ x_ k_=>jb.c265541 x_.2.2.2.1 x_.2.2.2.2.1 x_.2.2.2.2.2.2.2.1 x_.2.2.2.2.2.2.2.2.1 x_.2.2.2.2.2.2.2.2.2.1 x_.2.2.2.2.2.2.2.2.2.2.1 x_.2.2.2.2.2.2.2.2.2.2.2.1 x_.2.2.2.2.2.2.2.2.2.2.2.2.1 x_.2.2.2.2.2.2.2.2.2.2.2.2.2.2.1 k_) (fun ρ x_ r_ k_=>k_ 0 (Shape.inj jb.c265541x0 (x_.1,x_.2.1,x_.2.2.1,x_.2.2.2.1,x_.2.2.2.2.1,x_.2.2.2.2.2.1,x_.2.2.2.2.2.2.1,x_.2.2.2.2.2.2.2.1,x_.2.2.2.2.2.2.2.2.1,x_.2.2.2.2.2.2.2.2.2.1,x_.2.2.2.2.2.2.2.2.2.2.1,x_.2.2.2.2.2.2.2.2.2.2.2.1,x_.2.2.2.2.2.2.2.2.2.2.2.2.1,x_.2.2.2.2.2.2.2.2.2.2.2.2.2.1,r_,x_.2.2.2.2.2.2.2.2.2.2.2.2.2.2.2)))
def jb.c18 {ρ:Type} (t8:Int) (i:Int) (z0:Int) (z1:Int) (z2:Bool) (t1000702:List (Int×(Int×(Bool)))) (k_:Bool→Option ρ):Option ρ:=
 br (i != t8)
 (bnd (inR (List.length t1000702) i) fun y=>
 bnd (idx t1000702 i) fun y_1=>
 bnd (W.jx y_1 (z0,z1,z2)) fun y_2=>
 k_ y_2)
 (k_ false)
def jb.c18s:Shape:=jb.c16s
def jb.c18x0:Shape:=⟨[(0,tb28),(1,tb5),(2,tb5),(6,tb7),(7,tb42),(8,tb5),(12,tb74),(13,tb5),(64,tb5),(65,tb5),(110,tb7)],[(7,tb9),(12,tb9),(21,tb85),(1000700,tb81),(1000701,tb22),(1000702,tb22)]⟩
def jb.c18r:Ck:=Ck.of (T:=Bool) jb.c18s (fun ρ x_ k_=>jb.c18 x_.2.2.2.1 x_.2.2.2.2.1 x_.2.2.2.2.2.2.2.1 x_.2.2.2.2.2.2.2.2.1 x_.2.2.2.2.2.2.2.2.2.1 x_.2.2.2.2.2.2.2.2.2.2.2.2.2.2.2.1 k_) (fun ρ x_ r_ k_=>k_ 0 (Shape.inj jb.c18x0 (x_.1,x_.2.1,x_.2.2.1,x_.2.2.2.1,x_.2.2.2.2.1,x_.2.2.2.2.2.1,x_.2.2.2.2.2.2.1,r_,x_.2.2.2.2.2.2.2)))
def jb.c19 {ρ:Type} (i:Int) (old0:Int) (old1:Int) (old2:Bool) (t1000702:List (Int×(Int×(Bool)))) (k_:List (Int×(Int×(Bool)))→Option ρ):Option ρ:=
 bnd (inR (List.length t1000702) i) fun y=>
 bnd (idx t1000702 i) fun y_1=>
 bnd (W.Jx y_1 (old0,old1,old2)) fun y_2=>
 bnd (inR (List.length t1000702) i) fun y_3=>
 bnd (idx t1000702 i) fun y_4=>
 k_ (List.set t1000702 (Int.toNat i) y_2)
def jb.c19s:Shape:=jb.c16s
def jb.c19x0:Shape:=jb.c16s
def jb.c19r:Ck:=Ck.of (T:=List (Int×(Int×(Bool)))) jb.c19s (fun ρ x_ k_=>jb.c19 x_.2.2.2.2.1 x_.2.2.2.2.2.2.2.2.2.2.1 x_.2.2.2.2.2.2.2.2.2.2.2.1 x_.2.2.2.2.2.2.2.2.2.2.2.2.1 x_.2.2.2.2.2.2.2.2.2.2.2.2.2.2.2.1 k_) (fun ρ x_ r_ k_=>k_ 0 (Shape.inj jb.c19x0 (x_.1,x_.2.1,x_.2.2.1,x_.2.2.2.1,x_.2.2.2.2.1,x_.2.2.2.2.2.1,x_.2.2.2.2.2.2.1,x_.2.2.2.2.2.2.2.1,x_.2.2.2.2.2.2.2.2.1,x_.2.2.2.2.2.2.2.2.2.1,x_.2.2.2.2.2.2.2.2.2.2.1,x_.2.2.2.2.2.2.2.2.2.2.2.1,x_.2.2.2.2.2.2.2.2.2.2.2.2.1,x_.2.2.2.2.2.2.2.2.2.2.2.2.2.1,x_.2.2.2.2.2.2.2.2.2.2.2.2.2.2.1,r_,())))
def jb.c261454 {ρ:Type} (t8:Int) (t65:Int) (z0:Int) (z1:Int) (z2:Bool) (old0:Int) (old1:Int) (old2:Bool) (t1000701:List (Int×(Int×(Bool)))) (t1000702:List (Int×(Int×(Bool)))) (k_:(List (Int×(Int×(Bool))))×(List (Int×(Int×(Bool))))→Option ρ):Option ρ:=
 bnd (W.jb.c265541 t8 t65 z0 z1 z2 old0 old1 old2 t1000701 some) fun y=>
 bnd (W.jb.c18 t8 t65 z0 z1 z2 t1000702 some) fun y_1=>
 br y_1
 (bnd (W.jb.c19 t65 old0 old1 old2 t1000702 some) fun y_2=>
 k_ (y,y_2))
 (k_ (y,t1000702))
def jb.c261454s:Shape:=⟨[(0,tb28),(1,tb5),(2,tb5),(6,tb7),(7,tb42),(8,tb5),(12,tb74),(64,tb5),(65,tb5)],[(7,tb9),(12,tb9),(21,tb85),(1000700,tb81),(1000701,tb22),(1000702,tb22)]⟩
def jb.c261454x0:Shape:=jb.c261454s
def jb.c261454r:Ck:=Ck.of (T:=(List (Int×(Int×(Bool))))×(List (Int×(Int×(Bool))))) jb.c261454s (fun ρ x_ k_=>jb.c261454 x_.2.2.2.1 x_.2.2.2.2.2.1 x_.2.2.2.2.2.2.1 x_.2.2.2.2.2.2.2.1 x_.2.2.2.2.2.2.2.2.1 x_.2.2.2.2.2.2.2.2.2.1 x_.2.2.2.2.2.2.2.2.2.2.1 x_.2.2.2.2.2.2.2.2.2.2.2.1 x_.2.2.2.2.2.2.2.2.2.2.2.2.2.1 x_.2.2.2.2.2.2.2.2.2.2.2.2.2.2.1 k_) (fun ρ x_ r_ k_=>k_ 0 (Shape.inj jb.c261454x0 (x_.1,x_.2.1,x_.2.2.1,x_.2.2.2.1,x_.2.2.2.2.1,x_.2.2.2.2.2.1,x_.2.2.2.2.2.2.1,x_.2.2.2.2.2.2.2.1,x_.2.2.2.2.2.2.2.2.1,x_.2.2.2.2.2.2.2.2.2.1,x_.2.2.2.2.2.2.2.2.2.2.1,x_.2.2.2.2.2.2.2.2.2.2.2.1,x_.2.2.2.2.2.2.2.2.2.2.2.2.1,r_.1,r_.2,())))
def jb.c100014 {ρ:Type} (t8:Int) (t64:Int) (t65:Int) (z0:Int) (z1:Int) (z2:Bool) (old0:Int) (old1:Int) (old2:Bool) (t1000701:List (Int×(Int×(Bool)))) (t1000702:List (Int×(Int×(Bool)))) (k_:(Int×(List (Int×(Int×(Bool))))×(List (Int×(Int×(Bool)))))⊕(Int×(List (Int×(Int×(Bool))))×(List (Int×(Int×(Bool)))))→Option ρ):Option ρ:=
 br (decide (t65 < t64))
 (bnd (W.jb.c261454 t8 t65 z0 z1 z2 old0 old1 old2 t1000701 t1000702 some) fun y=>
 k_ (.inl ((IntKind.wrap IntKind.i64 (t65+(1:Int))),y.1,y.2)))
 (k_ (.inr (t65,t1000701,t1000702)))
def jb.c100014s:Shape:=jb.c261454s
def jb.c100014x0:Shape:=jb.c261454s
def jb.c100014r:Ck:=Ck.ofLoop (S:=Int×(List (Int×(Int×(Bool))))×(List (Int×(Int×(Bool))))) (T:=Int×(List (Int×(Int×(Bool))))×(List (Int×(Int×(Bool))))) jb.c100014s (fun x_=>(x_.2.2.2.2.2.1,x_.2.2.2.2.2.2.2.2.2.2.2.2.2.1,x_.2.2.2.2.2.2.2.2.2.2.2.2.2.2.1)) (fun ρ x_ s_ k_=>jb.c100014 x_.2.2.2.1 x_.2.2.2.2.1 s_.1 x_.2.2.2.2.2.2.1 x_.2.2.2.2.2.2.2.1 x_.2.2.2.2.2.2.2.2.1 x_.2.2.2.2.2.2.2.2.2.1 x_.2.2.2.2.2.2.2.2.2.2.1 x_.2.2.2.2.2.2.2.2.2.2.2.1 s_.2.1 s_.2.2 k_) (fun ρ x_ r_ k_=>k_ 4 (Shape.inj jb.c100014x0 (x_.1,x_.2.1,x_.2.2.1,x_.2.2.2.1,x_.2.2.2.2.1,r_.1,x_.2.2.2.2.2.2.1,x_.2.2.2.2.2.2.2.1,x_.2.2.2.2.2.2.2.2.1,x_.2.2.2.2.2.2.2.2.2.1,x_.2.2.2.2.2.2.2.2.2.2.1,x_.2.2.2.2.2.2.2.2.2.2.2.1,x_.2.2.2.2.2.2.2.2.2.2.2.2.1,r_.2.1,r_.2.2,())))
def jb.c21 {ρ:Type} (t8:Int) (t1000702:List (Int×(Int×(Bool)))) (k_:Unit→Option ρ):Option ρ:=
 bnd (inR (List.length t1000702) t8) fun y=>
 bnd (idx t1000702 t8) fun y_1=>
 k_ ()
def jb.c21s:Shape:=jb.c261454s
def jb.c21x0:Shape:=jb.c261454s
def jb.c21r:Ck:=Ck.of (T:=Unit) jb.c21s (fun ρ x_ k_=>jb.c21 x_.2.2.2.1 x_.2.2.2.2.2.2.2.2.2.2.2.2.2.2.1 k_) (fun ρ x_ r_ k_=>k_ 0 (Shape.inj jb.c21x0 (x_.1,x_.2.1,x_.2.2.1,x_.2.2.2.1,x_.2.2.2.2.1,x_.2.2.2.2.2.1,x_.2.2.2.2.2.2.1,x_.2.2.2.2.2.2.2.1,x_.2.2.2.2.2.2.2.2.1,x_.2.2.2.2.2.2.2.2.2.1,x_.2.2.2.2.2.2.2.2.2.2.1,x_.2.2.2.2.2.2.2.2.2.2.2.1,x_.2.2.2.2.2.2.2.2.2.2.2.2.1,x_.2.2.2.2.2.2.2.2.2.2.2.2.2.1,(List.set x_.2.2.2.2.2.2.2.2.2.2.2.2.2.2.1 (Int.toNat x_.2.2.2.1) (x_.2.2.2.2.2.2.2.2.2.1,x_.2.2.2.2.2.2.2.2.2.2.1,x_.2.2.2.2.2.2.2.2.2.2.2.1)),())))
def jb.c23 {ρ:Type} (t8:Int) (t1000701:List (Int×(Int×(Bool)))) (k_:Unit→Option ρ):Option ρ:=
 bnd (inR (List.length t1000701) t8) fun y=>
 bnd (idx t1000701 t8) fun y_1=>
 k_ ()
def jb.c23s:Shape:=jb.c261454s
def jb.c23x0:Shape:=jb.c261454s
def jb.c23r:Ck:=Ck.of (T:=Unit) jb.c23s (fun ρ x_ k_=>jb.c23 x_.2.2.2.1 x_.2.2.2.2.2.2.2.2.2.2.2.2.2.1 k_) (fun ρ x_ r_ k_=>k_ 0 (Shape.inj jb.c23x0 (x_.1,x_.2.1,x_.2.2.1,x_.2.2.2.1,x_.2.2.2.2.1,x_.2.2.2.2.2.1,x_.2.2.2.2.2.2.1,x_.2.2.2.2.2.2.2.1,x_.2.2.2.2.2.2.2.2.1,x_.2.2.2.2.2.2.2.2.2.1,x_.2.2.2.2.2.2.2.2.2.2.1,x_.2.2.2.2.2.2.2.2.2.2.2.1,x_.2.2.2.2.2.2.2.2.2.2.2.2.1,(List.set x_.2.2.2.2.2.2.2.2.2.2.2.2.2.1 (Int.toNat x_.2.2.2.1) (x_.2.2.2.2.2.2.1,x_.2.2.2.2.2.2.2.1,x_.2.2.2.2.2.2.2.2.1)),x_.2.2.2.2.2.2.2.2.2.2.2.2.2.2)))
def jb (q:Int) (b:Int) (t10007000:Int) (t1000701:List (Int×(Int×(Bool)))) (t1000702:List (Int×(Int×(Bool)))):Option ((Bool)×(List (Int×(Int×(Bool))))×(List (Int×(Int×(Bool))))×Int×Unit):=
 bnd (okIf (decide ((0:Int)≤q))) fun y=>
 bnd (W.jk (0:Int) (↑(List.length t1000701):Int) (0:Int) (IntKind.wrap IntKind.u64 ((1:Int)*(2:Int) ^ Min.min (Int.toNat q) (64:Nat))) false t1000701) fun y_1=>
 br (decide (y_1.1 < (0:Int)))
 (bnd (iter (fun s↦W.jb.c100006 (↑(List.length t1000702):Int) s.1 y_1.2.1 y_1.2.2.1 y_1.2.2.2.1 s.2.1 s.2.2.1 s.2.2.2 y_1.2.2.2.2.1 t1000702 some) ((0:Int),(0:Int),(0:Int),false)) fun y_2=>
 some (y_2.2.2.2 == (b == (1:Int)),y_1.2.2.2.2.1,t1000702,t10007000,()))
 (bnd (inR (List.length y_1.2.2.2.2.1) y_1.1) fun y_3=>
 bnd (idx y_1.2.2.2.2.1 y_1.1) fun y_4=>
 bnd (iter (fun s↦W.jb.c100014 y_1.1 t10007000 s.1 y_1.2.1 y_1.2.2.1 y_1.2.2.2.1 y_4.1 y_4.2.1 y_4.2.2 s.2.1 s.2.2 some) ((0:Int),y_1.2.2.2.2.1,t1000702)) fun y_5=>
 bnd (W.jb.c21 y_1.1 y_5.2.2 some) fun y_6=>
 bnd (W.jb.c23 y_1.1 y_5.2.1 some) fun y_7=>
 some (true,List.set y_5.2.1 (Int.toNat y_1.1) (y_1.2.1,y_1.2.2.1,b == (1:Int)),List.set y_5.2.2 (Int.toNat y_1.1) (y_4.1,y_4.2.1,y_4.2.2),t10007000,()))
def jb.mc:MCallee:=⟨41,jb.pre,jb.post,fun x_=>jb x_.1 x_.2.1 x_.2.2.1 x_.2.2.2.1 x_.2.2.2.2.1⟩
def jb.G:Env:=⟨144,tab,[(85,jx.ce),(86,jA.ce),(87,Jx.ce)],[0,1,2,6,7,8,9,10,11,12,13,24,29,30,31,32,38,64,65,66,81,110],[1000700,1000701,1000702],[(23,[⟨[],[],[141,142],[]⟩,⟨[0],[],[141,142],[]⟩,⟨[1,0],[],[141,142],[]⟩,⟨[2,1,0],[],[141,142],[]⟩,⟨[],[],[137,138,139,140,142],[]⟩,⟨[],[],[137,138,139,140,141],[]⟩,⟨[3,2,1,0,4,5],[],[],[]⟩,⟨[6,3,2,1,0,4,5],[1000701],[],[]⟩]),
 (21,[⟨[],[],[131,132],[]⟩,⟨[0],[],[131,132],[]⟩,⟨[1,0],[],[131,132],[]⟩,⟨[2,1,0],[],[131,132],[]⟩,⟨[],[],[127,128,129,130,132],[]⟩,⟨[],[],[127,128,129,130,131],[]⟩,⟨[3,2,1,0,4,5],[],[],[]⟩,⟨[6,3,2,1,0,4,5],[1000702],[],[]⟩]),
 (19,[⟨[],[],[115,116,117,118,119,120,121,122,123,124],[]⟩,⟨[0],[],[115,116,117,118,119,120,121,122,123,124],[]⟩,⟨[1,0],[],[115,116,117,118,119,120,121,122,123,124],[]⟩,⟨[2,1,0],[],[115,116,117,118,119,120,121,122,123,124],[]⟩,⟨[],[],[111,112,113,114,116,117,118,119,120,121,122,123,124],[]⟩,⟨[],[],[111,112,113,114,115,120,123],[]⟩,⟨[5],[],[111,112,113,114,115,120,123],[]⟩,⟨[6,5],[],[111,112,113,114,115,120,123],[]⟩,⟨[7,6,5],[],[111,112,113,114,115,120,123],[]⟩,⟨[],[],[111,112,113,114,115,116,117,118,119,123],[]⟩,⟨[8,7,6,5,9],[],[111,112,113,114,115,123],[]⟩,⟨[10,8,7,6,5,9],[],[111,112,113,114,115,123],[]⟩,⟨[],[],[111,112,113,114,115,116,117,118,119,120,121,122],[]⟩,⟨[11,10,8,7,6,5,9,12],[],[111,112,113,114,115],[]⟩,⟨[3,2,1,0,4,5,6,7,8,9,10,11,12,13],[],[],[]⟩,⟨[14,3,2,1,0,4,5,6,7,8,9,10,11,12,13],[1000702],[],[]⟩]),
 (18,[⟨[],[],[98],[]⟩,⟨[],[],[97],[]⟩,⟨[0,1],[],[],[]⟩,⟨[2,0,1],[],[],[]⟩,⟨[3,2,0,1],[],[105,108],[]⟩,⟨[4,3,2,0,1],[],[105,108],[]⟩,⟨[5,4,3,2,0,1],[],[105,108],[]⟩,⟨[6,5,4,3,2,0,1],[],[105,108],[]⟩,⟨[3,2,0,1],[],[101,102,103,104,108],[]⟩,⟨[7,6,5,4,3,2,0,1,8],[],[108],[]⟩,⟨[9,7,6,5,4,3,2,0,1,8],[],[108],[]⟩,⟨[3,2,0,1],[],[101,102,103,104,105,106,107],[]⟩,⟨[10,9,7,6,5,4,3,2,0,1,8,11],[],[],[]⟩,⟨[3,2,0,1,12,10,9,7,6,5,4,8,11],[],[],[]⟩]),
 (17,[⟨[],[],[86,87,88,89,90,91,92,93,94,95],[]⟩,⟨[0],[],[86,87,88,89,90,91,92,93,94,95],[]⟩,⟨[1,0],[],[86,87,88,89,90,91,92,93,94,95],[]⟩,⟨[2,1,0],[],[86,87,88,89,90,91,92,93,94,95],[]⟩,⟨[],[],[82,83,84,85,87,88,89,90,91,92,93,94,95],[]⟩,⟨[],[],[82,83,84,85,86,91,94],[]⟩,⟨[5],[],[82,83,84,85,86,91,94],[]⟩,⟨[6,5],[],[82,83,84,85,86,91,94],[]⟩,⟨[7,6,5],[],[82,83,84,85,86,91,94],[]⟩,⟨[],[],[82,83,84,85,86,87,88,89,90,94],[]⟩,⟨[8,7,6,5,9],[],[82,83,84,85,86,94],[]⟩,⟨[10,8,7,6,5,9],[],[82,83,84,85,86,94],[]⟩,⟨[],[],[82,83,84,85,86,87,88,89,90,91,92,93],[]⟩,⟨[11,10,8,7,6,5,9,12],[],[82,83,84,85,86],[]⟩,⟨[3,2,1,0,4,5,6,7,8,9,10,11,12,13],[],[],[]⟩,⟨[14,3,2,1,0,4,5,6,7,8,9,10,11,12,13],[1000701],[],[]⟩]),
 (16,[⟨[],[],[69],[]⟩,⟨[],[],[68],[]⟩,⟨[0,1],[],[],[]⟩,⟨[2,0,1],[],[],[]⟩,⟨[3,2,0,1],[],[76,79],[]⟩,⟨[4,3,2,0,1],[],[76,79],[]⟩,⟨[5,4,3,2,0,1],[],[76,79],[]⟩,⟨[6,5,4,3,2,0,1],[],[76,79],[]⟩,⟨[3,2,0,1],[],[72,73,74,75,79],[]⟩,⟨[7,6,5,4,3,2,0,1,8],[],[79],[]⟩,⟨[9,7,6,5,4,3,2,0,1,8],[],[79],[]⟩,⟨[3,2,0,1],[],[72,73,74,75,76,77,78],[]⟩,⟨[10,9,7,6,5,4,3,2,0,1,8,11],[],[],[]⟩,⟨[3,2,0,1,12,10,9,7,6,5,4,8,11],[],[],[]⟩]),
 (9,[⟨[],[],[40,41,42,43,44,45,46],[]⟩,⟨[],[],[39,44],[]⟩,⟨[1],[],[39,44],[]⟩,⟨[2,1],[],[39,44],[]⟩,⟨[3,2,1],[],[39,44],[]⟩,⟨[],[],[39,40,41,42,43],[]⟩,⟨[4,3,2,1,5],[],[39],[]⟩,⟨[6,4,3,2,1,5],[],[39],[]⟩,⟨[0,7,6,4,3,2,1,5],[],[],[]⟩,⟨[8,0,7,6,4,3,2,1,5],[9],[],[]⟩])],[(23,jb.c23r),(21,jb.c21r),(100014,jb.c100014r),(261454,jb.c261454r),(19,jb.c19r),(18,jb.c18r),(265541,jb.c265541r),(17,jb.c17r),(16,jb.c16r),(100006,jb.c100006r),(228680,jb.c228680r),(9,jb.c9r)],[(83,jk.mc)],tab_eqs⟩
theorem jb.eq (x_:densU jb.mc.pre.tys):denM jb.G Try.f41 jb.mc.pre jb.mc.post x_=jb.mc.F x_:=by kernel_rfl
theorem jb.p0:PcA jb.G Try.f41 0:=
 loop_ok (s:=jb.c100006r) (by kernel_rfl) (by kernel_rfl) (loops_of (sh:=jb.c100006s) (I:=fun x_ s_=>(x_.1,x_.2.1,x_.2.2.1,x_.2.2.2.1,x_.2.2.2.2.1,s_.1,x_.2.2.2.2.2.2.1,x_.2.2.2.2.2.2.2.1,x_.2.2.2.2.2.2.2.2.1,s_.2.1,s_.2.2.1,s_.2.2.2,x_.2.2.2.2.2.2.2.2.2.2.2.2)) (fun x_=>rfl) (fun ρ x_ s_ k_=>(nat_br (nat_bnd fun _=>nat_leaf) nat_leaf)) (fun ρ x_ t k=>(by kernel_rfl)) (fun x_ s=>by kernel_rfl))
theorem jb.p1:PcA jb.G Try.f41 1:=
 join_ok (s:=jb.c228680r) (by kernel_rfl) (by kernel_rfl) (sums_of (sh:=jb.c228680s) (fun ρ x_ k_=>(nat_bnd fun _=>(nat_bnd fun _=>(nat_bnd fun _=>(nat_br (nat_bnd fun _=>nat_leaf) nat_leaf))))) (fun ρ x_ t k=>(by kernel_rfl)) (fun x_=>by kernel_rfl))
theorem jb.p2:PcA jb.G Try.f41 2:=
 region_ok (s:=jb.c9r) (by kernel_rfl) (by kernel_rfl) (sums_of (sh:=jb.c9s) (fun ρ x_ k_=>(nat_bnd fun _=>(nat_bnd fun _=>(nat_bnd fun _=>nat_leaf)))) (fun ρ x_ t k=>(by kernel_rfl)) (fun x_=>by kernel_rfl))
theorem jb.p3:PcA jb.G Try.f41 3:=
 loop_ok (s:=jb.c100014r) (by kernel_rfl) (by kernel_rfl) (loops_of (sh:=jb.c100014s) (I:=fun x_ s_=>(x_.1,x_.2.1,x_.2.2.1,x_.2.2.2.1,x_.2.2.2.2.1,s_.1,x_.2.2.2.2.2.2.1,x_.2.2.2.2.2.2.2.1,x_.2.2.2.2.2.2.2.2.1,x_.2.2.2.2.2.2.2.2.2.1,x_.2.2.2.2.2.2.2.2.2.2.1,x_.2.2.2.2.2.2.2.2.2.2.2.1,x_.2.2.2.2.2.2.2.2.2.2.2.2.1,s_.2.1,s_.2.2,())) (fun x_=>rfl) (fun ρ x_ s_ k_=>(nat_br (nat_bnd fun _=>nat_leaf) nat_leaf)) (fun ρ x_ t k=>(by kernel_rfl)) (fun x_ s=>by kernel_rfl))
theorem jb.p4:PcA jb.G Try.f41 4:=
 join_ok (s:=jb.c261454r) (by kernel_rfl) (by kernel_rfl) (sums_of (sh:=jb.c261454s) (fun ρ x_ k_=>(nat_bnd fun _=>(nat_bnd fun _=>(nat_br (nat_bnd fun _=>nat_leaf) nat_leaf)))) (fun ρ x_ t k=>(by kernel_rfl)) (fun x_=>by kernel_rfl))
theorem jb.p5:PcA jb.G Try.f41 5:=
 join_ok (s:=jb.c265541r) (by kernel_rfl) (by kernel_rfl) (sums_of (sh:=jb.c265541s) (fun ρ x_ k_=>(nat_bnd fun _=>(nat_br (nat_bnd fun _=>nat_leaf) nat_leaf))) (fun ρ x_ t k=>(by kernel_rfl)) (fun x_=>by kernel_rfl))
theorem jb.p6:PcA jb.G Try.f41 6:=
 region_ok (s:=jb.c16r) (by kernel_rfl) (by kernel_rfl) (sums_of (sh:=jb.c16s) (fun ρ x_ k_=>(nat_br (nat_bnd fun _=>(nat_bnd fun _=>(nat_bnd fun _=>nat_leaf))) nat_leaf)) (fun ρ x_ t k=>(by kernel_rfl)) (fun x_=>by kernel_rfl))
theorem jb.p7:PcA jb.G Try.f41 7:=
 region_ok (s:=jb.c17r) (by kernel_rfl) (by kernel_rfl) (sums_of (sh:=jb.c17s) (fun ρ x_ k_=>(nat_bnd fun _=>(nat_bnd fun _=>(nat_bnd fun _=>(nat_bnd fun _=>(nat_bnd fun _=>nat_leaf)))))) (fun ρ x_ t k=>(by kernel_rfl)) (fun x_=>by kernel_rfl))
theorem jb.p8:PcA jb.G Try.f41 8:=
 region_ok (s:=jb.c18r) (by kernel_rfl) (by kernel_rfl) (sums_of (sh:=jb.c18s) (fun ρ x_ k_=>(nat_br (nat_bnd fun _=>(nat_bnd fun _=>(nat_bnd fun _=>nat_leaf))) nat_leaf)) (fun ρ x_ t k=>(by kernel_rfl)) (fun x_=>by kernel_rfl))
theorem jb.p9:PcA jb.G Try.f41 9:=
 region_ok (s:=jb.c19r) (by kernel_rfl) (by kernel_rfl) (sums_of (sh:=jb.c19s) (fun ρ x_ k_=>(nat_bnd fun _=>(nat_bnd fun _=>(nat_bnd fun _=>(nat_bnd fun _=>(nat_bnd fun _=>nat_leaf)))))) (fun ρ x_ t k=>(by kernel_rfl)) (fun x_=>by kernel_rfl))
theorem jb.p10:PcA jb.G Try.f41 10:=
 region_ok (s:=jb.c21r) (by kernel_rfl) (by kernel_rfl) (sums_of (sh:=jb.c21s) (fun ρ x_ k_=>(nat_bnd fun _=>(nat_bnd fun _=>nat_leaf))) (fun ρ x_ t k=>(by kernel_rfl)) (fun x_=>by kernel_rfl))
theorem jb.p11:PcA jb.G Try.f41 11:=
 region_ok (s:=jb.c23r) (by kernel_rfl) (by kernel_rfl) (sums_of (sh:=jb.c23s) (fun ρ x_ k_=>(nat_bnd fun _=>(nat_bnd fun _=>nat_leaf))) (fun ρ x_ t k=>(by kernel_rfl)) (fun x_=>by kernel_rfl))
theorem jb.ok:MOk Try.prog 41 jb.mc:=fnm_ok (G:=jb.G) tab_ok mixed Try.func41 ⟨(fns_cons jx.ok (fns_cons jA.ok (fns_cons Jx.ok fns_nil))),(mfns_cons jk.ok mfns_nil),tab_eqs_ok⟩ (m:=12) (by kernel_rfl) ⟨⟨⟨⟨⟨⟨⟨⟨⟨⟨⟨⟨trivial,jb.p0⟩,jb.p1⟩,jb.p2⟩,jb.p3⟩,jb.p4⟩,jb.p5⟩,jb.p6⟩,jb.p7⟩,jb.p8⟩,jb.p9⟩,jb.p10⟩,jb.p11⟩ (by kernel_rfl) jb.eq
def Ja.pre:Shape:=⟨[(0,tb11),(1,tb33),(2,tb51)],[(1000100,tb60),(1000200,tb60)]⟩
def Ja.post:Shape:=⟨[(0,tb7)],[(1000100,tb60),(1000200,tb60)]⟩
def Ja (p:Int×(Int×(Bool))) (t10001000:Int) (t10002000:Int):Option ((Bool)×Int×Int×Unit):=
 br (decide (t10001000 < t10002000))
 (bnd (okIf (decide ((0:Int)≤t10001000))) fun y=>
 some (ibits BinOp.and IntKind.u64 (Int.fdiv p.1 ((2:Int) ^ Min.min (Int.toNat t10001000) (64:Nat))) (1:Int) == (1:Int),t10001000,t10002000,()))
 (bnd (okIf (decide ((0:Int)≤IntKind.wrap IntKind.i64 (t10001000 - t10002000)))) fun y_1=>
 some (ibits BinOp.and IntKind.u64 (Int.fdiv p.2.1 ((2:Int) ^ Min.min (Int.toNat (IntKind.wrap IntKind.i64 (t10001000 - t10002000))) (64:Nat))) (1:Int) == (1:Int),t10001000,t10002000,()))
def Ja.mc:MCallee:=⟨88,Ja.pre,Ja.post,fun x_=>Ja x_.1 x_.2.1 x_.2.2.1⟩
def Ja.G:Env:=⟨22,tab,[],[0,1,2,3,4,7],[1000100,1000200],[],[],[],tab_eqs⟩
theorem Ja.eq (x_:densU Ja.mc.pre.tys):denM Ja.G Try.f88 Ja.mc.pre Ja.mc.post x_=Ja.mc.F x_:=by kernel_rfl
theorem Ja.ok:MOk Try.prog 88 Ja.mc:=fnm_ok (G:=Ja.G) tab_ok mixed Try.func88 ⟨fns_nil,mfns_nil,tab_eqs_ok⟩ (m:=0) (by kernel_rfl) trivial (by kernel_rfl) Ja.eq
abbrev tb86:SD:=.one (.own 11 0)
abbrev tb87:SD:=.one (.clo 17)
abbrev tb88:SO:=.clo 88 [] [.ref 6 0,.ref 3 0]
def je.c8 {ρ:Type} (t8:Int) (n0:Int) (col0:Int) (t11:List (Int×(Int×(Bool)))) (k_:(Bool)×Int×Int→Option ρ):Option ρ:=
 br (decide (t8 < (↑(List.length t11):Int)))
 (bnd (inR (List.length t11) t8) fun y=>
 bnd (idx t11 t8) fun y_1=>
 bnd (W.Ja y_1 col0 n0) fun y_2=>
 k_ ((!y_2.1),y_2.2.2.1,y_2.2.1))
 (k_ (false,n0,col0))
def je.c8s:Shape:=⟨[(0,tb86),(1,tb5),(3,tb12),(4,tb17),(5,tb5),(6,tb8),(7,tb87),(8,tb5),(13,tb5),(14,tb5)],[(3,tb60),(6,tb60),(11,tb22),(17,tb88)]⟩
def je.c8x0:Shape:=⟨[(0,tb86),(1,tb5),(3,tb12),(4,tb17),(5,tb5),(6,tb8),(7,tb87),(8,tb5),(13,tb5),(14,tb5),(31,tb7)],[(3,tb60),(6,tb60),(11,tb22),(17,tb88)]⟩
def je.c8r:Ck:=Ck.of (T:=(Bool)×Int×Int) je.c8s (fun ρ x_ k_=>je.c8 x_.2.2.2.1 x_.2.2.2.2.2.2.1 x_.2.2.2.2.2.2.2.1 x_.2.2.2.2.2.2.2.2.1 k_) (fun ρ x_ r_ k_=>k_ 0 (Shape.inj je.c8x0 (x_.1,x_.2.1,x_.2.2.1,x_.2.2.2.1,x_.2.2.2.2.1,x_.2.2.2.2.2.1,r_.1,r_.2.1,r_.2.2,x_.2.2.2.2.2.2.2.2)))
def je.c100008 {ρ:Type} (t8:Int) (n0:Int) (col0:Int) (t11:List (Int×(Int×(Bool)))) (k_:(Int×Int×Int)⊕(Int×Int×Int)→Option ρ):Option ρ:=
 bnd (W.je.c8 t8 n0 col0 t11 some) fun y=>
 br y.1
 (k_ (.inl ((IntKind.wrap IntKind.i64 (t8+(1:Int))),y.2.1,y.2.2)))
 (k_ (.inr (t8,y.2.1,y.2.2)))
def je.c100008s:Shape:=je.c8s
def je.c100008x0:Shape:=je.c8s
def je.c100008r:Ck:=Ck.ofLoop (S:=Int×Int×Int) (T:=Int×Int×Int) je.c100008s (fun x_=>(x_.2.2.2.1,x_.2.2.2.2.2.2.1,x_.2.2.2.2.2.2.2.1)) (fun ρ x_ s_ k_=>je.c100008 s_.1 s_.2.1 s_.2.2 x_.2.2.2.2.2.2.2.2.1 k_) (fun ρ x_ r_ k_=>k_ 4 (Shape.inj je.c100008x0 (x_.1,x_.2.1,x_.2.2.1,r_.1,x_.2.2.2.2.1,x_.2.2.2.2.2.1,r_.2.1,r_.2.2,x_.2.2.2.2.2.2.2.2)))
def je.c11 {ρ:Type} (done:Int) (t8:Int) (t11:List (Int×(Int×(Bool)))) (k_:List (Int×(Int×(Bool)))→Option ρ):Option ρ:=
 bnd (inR (List.length t11) t8) fun y=>
 bnd (idx t11 t8) fun y_1=>
 bnd (inR (List.length t11) done) fun y_2=>
 bnd (idx t11 done) fun y_3=>
 bnd (inR (List.length t11) done) fun y_4=>
 bnd (idx t11 done) fun y_5=>
 bnd (inR (List.length (List.set t11 (Int.toNat done) y_1)) t8) fun y_6=>
 bnd (idx (List.set t11 (Int.toNat done) y_1) t8) fun y_7=>
 k_ (List.set (List.set t11 (Int.toNat done) y_1) (Int.toNat t8) y_3)
def je.c11s:Shape:=je.c8s
def je.c11x0:Shape:=je.c8s
def je.c11r:Ck:=Ck.of (T:=List (Int×(Int×(Bool)))) je.c11s (fun ρ x_ k_=>je.c11 x_.2.2.1 x_.2.2.2.1 x_.2.2.2.2.2.2.2.2.1 k_) (fun ρ x_ r_ k_=>k_ 0 (Shape.inj je.c11x0 (x_.1,x_.2.1,x_.2.2.1,x_.2.2.2.1,x_.2.2.2.2.1,x_.2.2.2.2.2.1,x_.2.2.2.2.2.2.1,x_.2.2.2.2.2.2.2.1,r_,())))
def je.c15 {ρ:Type} (done:Int) (i:Int) (n0:Int) (col0:Int) (t11:List (Int×(Int×(Bool)))) (k_:(Bool)×Int×Int→Option ρ):Option ρ:=
 br (i != done)
 (bnd (inR (List.length t11) i) fun y=>
 bnd (idx t11 i) fun y_1=>
 bnd (W.Ja y_1 col0 n0) fun y_2=>
 k_ (y_2.1,y_2.2.2.1,y_2.2.1))
 (k_ (false,n0,col0))
def je.c15s:Shape:=⟨[(0,tb86),(1,tb5),(3,tb12),(4,tb17),(5,tb5),(6,tb8),(7,tb87),(8,tb5),(9,tb5),(13,tb5),(14,tb5),(53,tb5),(54,tb5)],[(3,tb60),(6,tb60),(11,tb22),(17,tb88)]⟩
def je.c15x0:Shape:=⟨[(0,tb86),(1,tb5),(3,tb12),(4,tb17),(5,tb5),(6,tb8),(7,tb87),(8,tb5),(9,tb5),(13,tb5),(14,tb5),(53,tb5),(54,tb5),(67,tb7)],[(3,tb60),(6,tb60),(11,tb22),(17,tb88)]⟩
def je.c15r:Ck:=Ck.of (T:=(Bool)×Int×Int) je.c15s (fun ρ x_ k_=>je.c15 x_.2.2.1 x_.2.2.2.2.1 x_.2.2.2.2.2.2.2.2.2.1 x_.2.2.2.2.2.2.2.2.2.2.1 x_.2.2.2.2.2.2.2.2.2.2.2.1 k_) (fun ρ x_ r_ k_=>k_ 0 (Shape.inj je.c15x0 (x_.1,x_.2.1,x_.2.2.1,x_.2.2.2.1,x_.2.2.2.2.1,x_.2.2.2.2.2.1,x_.2.2.2.2.2.2.1,x_.2.2.2.2.2.2.2.1,x_.2.2.2.2.2.2.2.2.1,r_.1,r_.2.1,r_.2.2,x_.2.2.2.2.2.2.2.2.2.2.2)))
def je.c16 {ρ:Type} (done:Int) (i:Int) (t11:List (Int×(Int×(Bool)))) (k_:List (Int×(Int×(Bool)))→Option ρ):Option ρ:=
 bnd (inR (List.length t11) i) fun y=>
 bnd (idx t11 i) fun y_1=>
 bnd (inR (List.length t11) done) fun y_2=>
 bnd (idx t11 done) fun y_3=>
 bnd (W.jA y_1 y_3) fun y_4=>
 bnd (inR (List.length t11) i) fun y_5=>
 bnd (idx t11 i) fun y_6=>
 k_ (List.set t11 (Int.toNat i) y_4)
def je.c16s:Shape:=je.c15s
def je.c16x0:Shape:=je.c15s
def je.c16r:Ck:=Ck.of (T:=List (Int×(Int×(Bool)))) je.c16s (fun ρ x_ k_=>je.c16 x_.2.2.1 x_.2.2.2.2.1 x_.2.2.2.2.2.2.2.2.2.2.2.1 k_) (fun ρ x_ r_ k_=>k_ 0 (Shape.inj je.c16x0 (x_.1,x_.2.1,x_.2.2.1,x_.2.2.2.1,x_.2.2.2.2.1,x_.2.2.2.2.2.1,x_.2.2.2.2.2.2.1,x_.2.2.2.2.2.2.2.1,x_.2.2.2.2.2.2.2.2.1,x_.2.2.2.2.2.2.2.2.2.1,x_.2.2.2.2.2.2.2.2.2.2.1,r_,())))
def je.c257352 {ρ:Type} (done:Int) (t54:Int) (n0:Int) (col0:Int) (t11:List (Int×(Int×(Bool)))) (k_:Int×Int×(List (Int×(Int×(Bool))))→Option ρ):Option ρ:=
 bnd (W.je.c15 done t54 n0 col0 t11 some) fun y=>
 br y.1
 (bnd (W.je.c16 done t54 t11 some) fun y_1=>
 k_ (y.2.1,y.2.2,y_1))
 (k_ (y.2.1,y.2.2,t11))
def je.c257352s:Shape:=⟨[(0,tb86),(1,tb5),(3,tb12),(4,tb17),(5,tb5),(6,tb8),(7,tb87),(8,tb5),(13,tb5),(14,tb5),(53,tb5),(54,tb5)],[(3,tb60),(6,tb60),(11,tb22),(17,tb88)]⟩
def je.c257352x0:Shape:=je.c257352s
def je.c257352r:Ck:=Ck.of (T:=Int×Int×(List (Int×(Int×(Bool))))) je.c257352s (fun ρ x_ k_=>je.c257352 x_.2.2.1 x_.2.2.2.2.2.2.2.1 x_.2.2.2.2.2.2.2.2.1 x_.2.2.2.2.2.2.2.2.2.1 x_.2.2.2.2.2.2.2.2.2.2.1 k_) (fun ρ x_ r_ k_=>k_ 0 (Shape.inj je.c257352x0 (x_.1,x_.2.1,x_.2.2.1,x_.2.2.2.1,x_.2.2.2.2.1,x_.2.2.2.2.2.1,x_.2.2.2.2.2.2.1,x_.2.2.2.2.2.2.2.1,r_.1,r_.2.1,r_.2.2,())))
def je.c100013 {ρ:Type} (done:Int) (t53:Int) (t54:Int) (n0:Int) (col0:Int) (t11:List (Int×(Int×(Bool)))) (k_:(Int×Int×Int×(List (Int×(Int×(Bool)))))⊕(Int×Int×Int×(List (Int×(Int×(Bool)))))→Option ρ):Option ρ:=
 br (decide (t54 < t53))
 (bnd (W.je.c257352 done t54 n0 col0 t11 some) fun y=>
 k_ (.inl ((IntKind.wrap IntKind.i64 (t54+(1:Int))),y.1,y.2.1,y.2.2)))
 (k_ (.inr (t54,n0,col0,t11)))
def je.c100013s:Shape:=je.c257352s
def je.c100013x0:Shape:=je.c257352s
def je.c100013r:Ck:=Ck.ofLoop (S:=Int×Int×Int×(List (Int×(Int×(Bool))))) (T:=Int×Int×Int×(List (Int×(Int×(Bool))))) je.c100013s (fun x_=>(x_.2.2.2.2.2.2.2.1,x_.2.2.2.2.2.2.2.2.1,x_.2.2.2.2.2.2.2.2.2.1,x_.2.2.2.2.2.2.2.2.2.2.1)) (fun ρ x_ s_ k_=>je.c100013 x_.2.2.1 x_.2.2.2.2.2.2.1 s_.1 s_.2.1 s_.2.2.1 s_.2.2.2 k_) (fun ρ x_ r_ k_=>k_ 6 (Shape.inj je.c100013x0 (x_.1,x_.2.1,x_.2.2.1,x_.2.2.2.1,x_.2.2.2.2.1,x_.2.2.2.2.2.1,x_.2.2.2.2.2.2.1,r_.1,r_.2.1,r_.2.2.1,r_.2.2.2,())))
def je.c220528 {ρ:Type} (done:Int) (t14:Int) (n0:Int) (t11:List (Int×(Int×(Bool)))) (k_:Int×Int×(List (Int×(Int×(Bool))))→Option ρ):Option ρ:=
 bnd (iter (fun s↦W.je.c100008 s.1 s.2.1 s.2.2 t11 some) (done,n0,t14)) fun y=>
 br (y.1 == (↑(List.length t11):Int))
 (k_ (done,y.2.1,t11))
 (bnd (W.je.c11 done y.1 t11 some) fun y_1=>
 bnd (iter (fun s↦W.je.c100013 done (↑(List.length y_1):Int) s.1 s.2.1 s.2.2.1 s.2.2.2 some) ((0:Int),y.2.1,y.2.2,y_1)) fun y_2=>
 k_ ((IntKind.wrap IntKind.i64 (done+(1:Int))),y_2.2.1,y_2.2.2.2))
def je.c220528s:Shape:=⟨[(0,tb86),(1,tb5),(3,tb12),(4,tb17),(5,tb5),(13,tb5),(14,tb5)],[(3,tb60),(11,tb22)]⟩
def je.c220528x0:Shape:=je.c220528s
def je.c220528r:Ck:=Ck.of (T:=Int×Int×(List (Int×(Int×(Bool))))) je.c220528s (fun ρ x_ k_=>je.c220528 x_.2.2.1 x_.2.2.2.2.1 x_.2.2.2.2.2.1 x_.2.2.2.2.2.2.1 k_) (fun ρ x_ r_ k_=>k_ 0 (Shape.inj je.c220528x0 (x_.1,x_.2.1,r_.1,x_.2.2.2.1,x_.2.2.2.2.1,r_.2.1,r_.2.2,())))
def je.c100004 {ρ:Type} (done:Int) (t13:Int) (t14:Int) (n0:Int) (t11:List (Int×(Int×(Bool)))) (k_:(Int×Int×Int×(List (Int×(Int×(Bool)))))⊕(Int×Int×Int×(List (Int×(Int×(Bool)))))→Option ρ):Option ρ:=
 br (decide (t14 < t13))
 (bnd (W.je.c220528 done t14 n0 t11 some) fun y=>
 k_ (.inl (y.1,(IntKind.wrap IntKind.i64 (t14+(1:Int))),y.2.1,y.2.2)))
 (k_ (.inr (done,t14,n0,t11)))
def je.c100004s:Shape:=je.c220528s
def je.c100004x0:Shape:=je.c220528s
def je.c100004r:Ck:=Ck.ofLoop (S:=Int×Int×Int×(List (Int×(Int×(Bool))))) (T:=Int×Int×Int×(List (Int×(Int×(Bool))))) je.c100004s (fun x_=>(x_.2.2.1,x_.2.2.2.2.1,x_.2.2.2.2.2.1,x_.2.2.2.2.2.2.1)) (fun ρ x_ s_ k_=>je.c100004 s_.1 x_.2.2.2.1 s_.2.1 s_.2.2.1 s_.2.2.2 k_) (fun ρ x_ r_ k_=>k_ 2 (Shape.inj je.c100004x0 (x_.1,x_.2.1,r_.1,x_.2.2.2.1,r_.2.1,r_.2.2.1,r_.2.2.2,())))
def je (l:List (Int×(Int×(Bool)))) (n:Int):Option (List (Int×(Int×(Bool)))):=
 bnd (okIf (decide (((0:Nat)+List.length l)*(24:Nat)≤(140737488355328:Nat)) && decide ((0:Nat)+List.length l≤(140737488355328:Nat)))) fun y=>
 bnd (iter (fun s↦W.je.c100004 s.1 (IntKind.wrap IntKind.i64 ((2:Int)*n)) s.2.1 s.2.2.1 s.2.2.2 some) ((0:Int),(0:Int),n,l)) fun y_1=>
 some y_1.2.2.2
def je.ce:Go.Ql.Callee:=⟨[(.sl (.st (.pair (.int .u64) (.pair (.int .u64) .bool)))),(.int .i64)],[(.sl (.st (.pair (.int .u64) (.pair (.int .u64) .bool))))],fun x_=>je x_.1 x_.2⟩
def je.G:Env:=⟨85,tab,[(86,jA.ce)],[0,1,3,4,5,6,7,8,9,13,14,15,31,37,53,54,55,67],[11],[(16,[⟨[],[],[69,70,71,72,73,74,75,76,77,78],[]⟩,⟨[],[],[68,70,71,72,73,74,75,76,77,78],[]⟩,⟨[],[],[68,69,71,74,75,76,77],[]⟩,⟨[],[],[68,69,70,74,75,76,77],[]⟩,⟨[2,3],[],[68,69,74,75,76,77],[]⟩,⟨[4,2,3],[],[68,69,74,75,76,77],[]⟩,⟨[],[],[68,69,70,71,72,73,75],[]⟩,⟨[],[],[68,69,70,71,72,73,74],[]⟩,⟨[6,7],[],[68,69,70,71,72,73],[]⟩,⟨[8,6,7],[],[68,69,70,71,72,73],[]⟩,⟨[5,4,2,3,9,8,6,7],[],[68,69],[]⟩,⟨[0,1,2,3,4,5,6,7,8,9,10],[],[],[]⟩,⟨[11,0,1,2,3,4,5,6,7,8,9,10],[11],[],[]⟩]),
 (11,[⟨[],[],[39,40,41,42,43,44,45,46,47,48,49],[]⟩,⟨[],[],[38,40,41,42,43,44,45,46,47,48,49],[]⟩,⟨[],[],[38,39,41,42,43,44,45,46,47,48,49,50],[11]⟩,⟨[],[],[38,39,40,42,43,44,45,46,47,48,49,50],[11]⟩,⟨[],[],[38,39,40,41,43,46,47,48,49],[]⟩,⟨[],[],[38,39,40,41,42,46,47,48,49],[]⟩,⟨[4,5],[],[38,39,40,41,46,47,48,49],[]⟩,⟨[6,4,5],[],[38,39,40,41,46,47,48,49],[]⟩,⟨[],[],[38,39,40,41,42,43,44,45,47],[]⟩,⟨[],[],[38,39,40,41,42,43,44,45,46],[]⟩,⟨[8,9],[],[38,39,40,41,42,43,44,45],[]⟩,⟨[10,8,9],[],[38,39,40,41,42,43,44,45],[]⟩,⟨[0,1,4,5,6,7,11,10,8,9],[],[40,41],[]⟩,⟨[12,0,1,4,5,6,7,11,10,8,9],[11],[40,41],[]⟩,⟨[2,3,0,1,4,5,6,7,8,9,10,11,12,13],[],[],[]⟩,⟨[14,2,3,0,1,4,5,6,7,8,9,10,11,12,13],[11],[],[]⟩])],[(100004,je.c100004r),(220528,je.c220528r),(100013,je.c100013r),(257352,je.c257352r),(16,je.c16r),(15,je.c15r),(11,je.c11r),(100008,je.c100008r),(8,je.c8r)],[(88,Ja.mc)],tab_eqs⟩
theorem je.eq (x_:dens je.ce.params):den je.G Try.f42 je.ce.params je.ce.res x_=je.ce.F x_:=by kernel_rfl
theorem je.p0:PcA je.G Try.f42 0:=
 loop_ok (s:=je.c100004r) (by kernel_rfl) (by kernel_rfl) (loops_of (sh:=je.c100004s) (I:=fun x_ s_=>(x_.1,x_.2.1,s_.1,x_.2.2.2.1,s_.2.1,s_.2.2.1,s_.2.2.2,())) (fun x_=>rfl) (fun ρ x_ s_ k_=>(nat_br (nat_bnd fun _=>nat_leaf) nat_leaf)) (fun ρ x_ t k=>(by kernel_rfl)) (fun x_ s=>by kernel_rfl))
theorem je.p1:PcA je.G Try.f42 1:=
 join_ok (s:=je.c220528r) (by kernel_rfl) (by kernel_rfl) (sums_of (sh:=je.c220528s) (fun ρ x_ k_=>(nat_bnd fun _=>(nat_br nat_leaf (nat_bnd fun _=>(nat_bnd fun _=>nat_leaf))))) (fun ρ x_ t k=>(by kernel_rfl)) (fun x_=>by kernel_rfl))
theorem je.p2:PcA je.G Try.f42 2:=
 loop_ok (s:=je.c100008r) (by kernel_rfl) (by kernel_rfl) (loops_of (sh:=je.c100008s) (I:=fun x_ s_=>(x_.1,x_.2.1,x_.2.2.1,s_.1,x_.2.2.2.2.1,x_.2.2.2.2.2.1,s_.2.1,s_.2.2,x_.2.2.2.2.2.2.2.2)) (fun x_=>rfl) (fun ρ x_ s_ k_=>(nat_bnd fun _=>(nat_br nat_leaf nat_leaf))) (fun ρ x_ t k=>(by kernel_rfl)) (fun x_ s=>by kernel_rfl))
theorem je.p3:PcA je.G Try.f42 3:=
 region_ok (s:=je.c8r) (by kernel_rfl) (by kernel_rfl) (sums_of (sh:=je.c8s) (fun ρ x_ k_=>(nat_br (nat_bnd fun _=>(nat_bnd fun _=>(nat_bnd fun _=>nat_leaf))) nat_leaf)) (fun ρ x_ t k=>(by kernel_rfl)) (fun x_=>by kernel_rfl))
theorem je.p4:PcA je.G Try.f42 4:=
 region_ok (s:=je.c11r) (by kernel_rfl) (by kernel_rfl) (sums_of (sh:=je.c11s) (fun ρ x_ k_=>(nat_bnd fun _=>(nat_bnd fun _=>(nat_bnd fun _=>(nat_bnd fun _=>(nat_bnd fun _=>(nat_bnd fun _=>(nat_bnd fun _=>(nat_bnd fun _=>nat_leaf))))))))) (fun ρ x_ t k=>(by kernel_rfl)) (fun x_=>by kernel_rfl))
theorem je.p5:PcA je.G Try.f42 5:=
 loop_ok (s:=je.c100013r) (by kernel_rfl) (by kernel_rfl) (loops_of (sh:=je.c100013s) (I:=fun x_ s_=>(x_.1,x_.2.1,x_.2.2.1,x_.2.2.2.1,x_.2.2.2.2.1,x_.2.2.2.2.2.1,x_.2.2.2.2.2.2.1,s_.1,s_.2.1,s_.2.2.1,s_.2.2.2,())) (fun x_=>rfl) (fun ρ x_ s_ k_=>(nat_br (nat_bnd fun _=>nat_leaf) nat_leaf)) (fun ρ x_ t k=>(by kernel_rfl)) (fun x_ s=>by kernel_rfl))
theorem je.p6:PcA je.G Try.f42 6:=
 join_ok (s:=je.c257352r) (by kernel_rfl) (by kernel_rfl) (sums_of (sh:=je.c257352s) (fun ρ x_ k_=>(nat_bnd fun _=>(nat_br (nat_bnd fun _=>nat_leaf) nat_leaf))) (fun ρ x_ t k=>(by kernel_rfl)) (fun x_=>by kernel_rfl))
theorem je.p7:PcA je.G Try.f42 7:=
 region_ok (s:=je.c15r) (by kernel_rfl) (by kernel_rfl) (sums_of (sh:=je.c15s) (fun ρ x_ k_=>(nat_br (nat_bnd fun _=>(nat_bnd fun _=>(nat_bnd fun _=>nat_leaf))) nat_leaf)) (fun ρ x_ t k=>(by kernel_rfl)) (fun x_=>by kernel_rfl))
theorem je.p8:PcA je.G Try.f42 8:=
 region_ok (s:=je.c16r) (by kernel_rfl) (by kernel_rfl) (sums_of (sh:=je.c16s) (fun ρ x_ k_=>(nat_bnd fun _=>(nat_bnd fun _=>(nat_bnd fun _=>(nat_bnd fun _=>(nat_bnd fun _=>(nat_bnd fun _=>(nat_bnd fun _=>nat_leaf)))))))) (fun ρ x_ t k=>(by kernel_rfl)) (fun x_=>by kernel_rfl))
theorem je.ok:CalleeOk Try.prog 42 je.ce:=fn_ok (G:=je.G) tab_ok mixed Try.func42 ⟨(fns_cons jA.ok fns_nil),(mfns_cons Ja.ok mfns_nil),tab_eqs_ok⟩ (m:=9) (by kernel_rfl) ⟨⟨⟨⟨⟨⟨⟨⟨⟨trivial,je.p0⟩,je.p1⟩,je.p2⟩,je.p3⟩,je.p4⟩,je.p5⟩,je.p6⟩,je.p7⟩,je.p8⟩ (by kernel_rfl) je.eq
abbrev tb89:SD:=.one (.val (.st (.pair (.int .i64) (.int .i64))))
def jR.c1 {ρ:Type}  (k_:Unit→Option ρ):Option ρ:=
 k_ ()
def jR.c1s:Shape:=⟨[(0,tb89),(1,tb1),(2,tb21),(3,tb36),(4,tb5),(5,tb39)],[(1,tb19),(5,tb19)]⟩
def jR.c1x0:Shape:=jR.c1s
def jR.c1r:Ck:=Ck.of (T:=Unit) jR.c1s (fun ρ x_ k_=>jR.c1  k_) (fun ρ x_ r_ k_=>k_ 0 (Shape.inj jR.c1x0 (x_.1,[],[],(0:Int),x_.2.2.2.2.1,x_.2.2.2.2.2.1,x_.2.2.2.2.1,x_.2.2.2.2.2.1,())))
def jR (f:Int×Int):Option ((List (List UInt8))×(List Int)×Int×(Int×Int)):=
 bnd (W.jR.c1 some) fun y=>
 some ([],[],(0:Int),f.1,f.2)
def jR.ce:Go.Ql.Callee:=⟨[(.st (.pair (.int .i64) (.int .i64)))],[(.sl .str),(.sl (.int .i64)),(.int .i64),(.st (.pair (.int .i64) (.int .i64)))],fun x_=>jR x_⟩
def jR.G:Env:=⟨7,tab,[],[0,1,2,3,4,5],[],[(1,[⟨[],[],[2,3,4],[2,3]⟩,⟨[],[2],[6],[]⟩,⟨[1],[3],[6],[]⟩,⟨[2,1],[],[6],[]⟩,⟨[0,3,2,1],[5],[],[]⟩])],[(1,jR.c1r)],[],tab_eqs⟩
theorem jR.eq (x_:dens jR.ce.params):den jR.G Try.f35 jR.ce.params jR.ce.res x_=jR.ce.F x_:=by kernel_rfl
theorem jR.p0:PcA jR.G Try.f35 0:=
 region_ok (s:=jR.c1r) (by kernel_rfl) (by kernel_rfl) (sums_of (sh:=jR.c1s) (fun ρ x_ k_=>nat_leaf) (fun ρ x_ t k=>(by kernel_rfl)) (fun x_=>by kernel_rfl))
theorem jR.ok:CalleeOk Try.prog 35 jR.ce:=fn_ok (G:=jR.G) tab_ok mixed Try.func35 ⟨fns_nil,mfns_nil,tab_eqs_ok⟩ (m:=1) (by kernel_rfl) ⟨trivial,jR.p0⟩ (by kernel_rfl) jR.eq
abbrev tb90:SD:=.one (.fn 35)
abbrev tb91:SD:=.one (.ref 65 0)
abbrev tb92:SD:=.one (.own 68 0)
abbrev tb93:SO:=.box [.val (.int .i64),.own 1065 0,.own 2065 0]
abbrev tb94:SD:=.one (.ref 17 0)
abbrev tb95:SD:=.one (.own 19 0)
abbrev tb96:SO:=.box [.val (.int .i64),.val (.sl (.st (.pair (.int .u64) (.pair (.int .u64) .bool)))),.own 2065 0]
abbrev tb97:SD:=.one (.ref 21 0)
def jg.c5 {ρ:Type} (t1:Int) (c0:Int) (k_:Bool→Option ρ):Option ρ:=
 br (decide (t1 < (0:Int)))
 (k_ true)
 (bnd (okIf (decide ((0:Int)≤c0))) fun y=>
 k_ (decide (t1≥IntKind.wrap IntKind.i64 ((1:Int)*(2:Int) ^ Min.min (Int.toNat c0) (64:Nat)))))
def jg.c5s:Shape:=⟨[(0,tb38),(1,tb5),(2,tb36),(3,tb12),(6,tb21),(7,tb36),(8,tb5),(9,tb79),(10,tb90),(11,tb23)],[(3,tb34),(9,tb19),(11,tb19)]⟩
def jg.c5x0:Shape:=⟨[(0,tb38),(1,tb5),(2,tb36),(3,tb12),(6,tb21),(7,tb36),(8,tb5),(9,tb79),(10,tb90),(11,tb23),(42,tb7)],[(3,tb34),(9,tb19),(11,tb19)]⟩
def jg.c5r:Ck:=Ck.of (T:=Bool) jg.c5s (fun ρ x_ k_=>jg.c5 x_.2.1 x_.2.2.2.2.2.2.1 k_) (fun ρ x_ r_ k_=>k_ 0 (Shape.inj jg.c5x0 (x_.1,x_.2.1,x_.2.2.1,x_.2.2.2.1,x_.2.2.2.2.1,x_.2.2.2.2.2.1,r_,x_.2.2.2.2.2.2)))
def jg.c10 {ρ:Type} (t1:Int) (c0:Int) (c1:Int) (k_:Int×(List (Int×(Int×(Bool))))×(List (Int×(Int×(Bool))))→Option ρ):Option ρ:=
 bnd (W.jr c0 t1) fun y=>
 bnd (okIf (decide ((0:Int)≤c1) && decide (c1≤c1) && decide (c1*(↑(8:Nat):Int)≤(140737488355328:Int)) && decide (c1≤(140737488355328:Int)))) fun y_1=>
 k_ (y.1,y.2.1,y.2.2.1)
def jg.c10s:Shape:=⟨[(0,tb38),(1,tb5),(2,tb36),(3,tb12),(6,tb21),(7,tb36),(8,tb5),(9,tb79),(10,tb90),(11,tb23),(12,tb74)],[(3,tb34),(9,tb19),(11,tb19),(12,tb19)]⟩
def jg.c10x0:Shape:=⟨[(0,tb38),(1,tb5),(2,tb36),(3,tb12),(6,tb21),(7,tb36),(8,tb5),(9,tb79),(10,tb90),(11,tb23),(12,tb74),(13,tb91),(14,tb92),(15,tb5)],[(3,tb34),(9,tb19),(11,tb19),(12,tb19),(65,tb93),(68,tb50),(1065,tb22),(2065,tb22)]⟩
def jg.c10r:Ck:=Ck.of (T:=Int×(List (Int×(Int×(Bool))))×(List (Int×(Int×(Bool))))) jg.c10s (fun ρ x_ k_=>jg.c10 x_.2.1 x_.2.2.2.2.2.2.1 x_.2.2.2.2.2.2.2.1 k_) (fun ρ x_ r_ k_=>k_ 0 (Shape.inj jg.c10x0 (x_.1,x_.2.1,x_.2.2.1,x_.2.2.2.1,x_.2.2.2.2.1,x_.2.2.2.2.2.1,(0:Int),x_.2.2.2.2.2.2.1,x_.2.2.2.2.2.2.2.1,x_.2.2.2.2.2.2.2.2.1,x_.2.2.2.2.2.2.2.2.2.1,x_.2.2.2.2.2.2.2.2.2.2.1,x_.2.2.2.2.2.2.2.2.2.2.2.1,x_.2.2.2.2.2.2.2.2.2.2.2.2.1,x_.2.2.2.2.2.2.2.2.2.2.2.2.2.1,x_.2.2.2.2.2.2.2.2.2.2.2.2.2.2.1,r_.1,(List.replicate (Int.toNat x_.2.2.2.2.2.2.2.1) (0:Int)),r_.2.1,r_.2.2,())))
def jg.c20 {ρ:Type} (b:Int) (o3:Int) (t650:Int) (t1065:List (Int×(Int×(Bool)))) (t2065:List (Int×(Int×(Bool)))) (k_:(Bool)×Int×(List (Int×(Int×(Bool))))×(List (Int×(Int×(Bool))))→Option ρ):Option ρ:=
 br (b != (0:Int))
 (br (b != (1:Int))
 (k_ (true,t650,t1065,t2065))
 (bnd (W.jb o3 b t650 t1065 t2065) fun y=>
 k_ ((!y.1),y.2.2.2.1,y.2.1,y.2.2.1)))
 (bnd (W.jb o3 b t650 t1065 t2065) fun y_1=>
 k_ ((!y_1.1),y_1.2.2.2.1,y_1.2.1,y_1.2.2.1))
def jg.c20s:Shape:=⟨[(0,tb38),(1,tb5),(2,tb36),(3,tb12),(6,tb21),(7,tb36),(8,tb5),(9,tb79),(10,tb90),(11,tb23),(12,tb74),(13,tb91),(14,tb92),(15,tb5),(16,tb5),(17,tb94),(18,tb5),(70,tb31),(71,tb5),(72,tb5)],[(3,tb34),(9,tb19),(11,tb19),(12,tb19),(17,tb26),(65,tb93),(68,tb50),(1065,tb22),(2065,tb22)]⟩
def jg.c20x0:Shape:=⟨[(0,tb38),(1,tb5),(2,tb36),(3,tb12),(6,tb21),(7,tb36),(8,tb5),(9,tb79),(10,tb90),(11,tb23),(12,tb74),(13,tb91),(14,tb92),(15,tb5),(16,tb5),(17,tb94),(18,tb5),(70,tb31),(71,tb5),(72,tb5),(119,tb7)],[(3,tb34),(9,tb19),(11,tb19),(12,tb19),(17,tb26),(65,tb93),(68,tb50),(1065,tb22),(2065,tb22)]⟩
def jg.c20r:Ck:=Ck.of (T:=(Bool)×Int×(List (Int×(Int×(Bool))))×(List (Int×(Int×(Bool))))) jg.c20s (fun ρ x_ k_=>jg.c20 x_.2.2.2.2.2.2.2.2.1 x_.2.2.2.2.2.2.2.2.2.2.2.2.2.2.2.2.2.2.2.2.2.2.2.2.1 x_.2.2.2.2.2.2.2.2.2.2.2.2.2.2.2.2.2.2.2.2.2.2.2.2.2.2.2.1 x_.2.2.2.2.2.2.2.2.2.2.2.2.2.2.2.2.2.2.2.2.2.2.2.2.2.2.2.2.2.1 x_.2.2.2.2.2.2.2.2.2.2.2.2.2.2.2.2.2.2.2.2.2.2.2.2.2.2.2.2.2.2.1 k_) (fun ρ x_ r_ k_=>uP x_ fun c x_=>uP x_ fun t1 x_=>uP x_ fun tape x_=>uP x_ fun t6 x_=>uP x_ fun t7 x_=>uP x_ fun t8 x_=>uP x_ fun used x_=>uP x_ fun i x_=>uP x_ fun b x_=>uP x_ fun t70 x_=>uP x_ fun t71 x_=>uP x_ fun t72 x_=>uP x_ fun c0 x_=>uP x_ fun c1 x_=>uP x_ fun c2 x_=>uP x_ fun t90 x_=>uP x_ fun t91 x_=>uP x_ fun f0 x_=>uP x_ fun f1 x_=>uP x_ fun f0_1 x_=>uP x_ fun f1_1 x_=>uP x_ fun o0 x_=>uP x_ fun o1 x_=>uP x_ fun o2 x_=>uP x_ fun o3 x_=>uP x_ fun o4 x_=>uP x_ fun o5 x_=>uP x_ fun t650 x_=>uP x_ fun t68 x_=>uP x_ fun t1065 x_=>uP x_ fun t2065 x_=>k_ 0 (Shape.inj jg.c20x0 (c,t1,tape,t6,t7,t8,used,i,b,t70,t71,t72,r_.1,c0,c1,c2,t90,t91,f0,f1,f0_1,f1_1,o0,o1,o2,o3,o4,o5,r_.2.1,t68,r_.2.2.1,r_.2.2.2,())))
def jg.c253291 {ρ:Type} (tape:List Int) (used:Int) (t70:List (Int×(Int×((List Int)×(Int×(Int×(List Int))))))) (t72:Int) (t650:Int) (t68:List Int) (t1065:List (Int×(Int×(Bool)))) (t2065:List (Int×(Int×(Bool)))) (k_:(Int×Int×(List Int)×(List (Int×(Int×(Bool))))×(List (Int×(Int×(Bool)))))⊕((List (List UInt8))×(List Int)×Int×Int×Int×Int×(List (Int×(Int×(Bool))))×(List (Int×(Int×(Bool)))))→Option ρ):Option ρ:=
 bnd (idx t70 t72) fun y=>
 bnd (W.jC (y.1,y.2.1,y.2.2.1,y.2.2.2.1,y.2.2.2.2.1,y.2.2.2.2.2) t68) fun y_1=>
 br (!y_1)
 (k_ (.inl (used,t650,t68,t1065,t2065)))
 (br (decide (y.1 < (5:Int)))
 (bnd (W.jn (y.1,y.2.1,y.2.2.1,y.2.2.2.1,y.2.2.2.2.1,y.2.2.2.2.2) t650 t1065 t2065) fun y_2=>
 k_ (.inl (used,y_2.2.2.1,t68,y_2.1,y_2.2.1)))
 (br (used == (↑(List.length tape):Int))
 (bnd (W.jR ((19:Int),t72)) fun y_3=>
 k_ (.inr (y_3.1,y_3.2.1,y_3.2.2.1,y_3.2.2.2.1,y_3.2.2.2.2,t650,t1065,t2065)))
 (bnd (idx tape used) fun y_4=>
 bnd (W.jg.c20 y_4 y.2.2.2.1 t650 t1065 t2065 some) fun y_5=>
 br y_5.1
 (bnd (W.jR ((20:Int),t72)) fun y_6=>
 k_ (.inr (y_6.1,y_6.2.1,y_6.2.2.1,y_6.2.2.2.1,y_6.2.2.2.2,y_5.2.1,y_5.2.2.1,y_5.2.2.2)))
 (br (y.1 == (5:Int))
 (bnd (inR (List.length t68) y.2.2.2.2.1) fun y_7=>
 bnd (idx t68 y.2.2.2.2.1) fun y_8=>
 k_ (.inl ((IntKind.wrap IntKind.i64 (used+(1:Int))),y_5.2.1,(List.set t68 (Int.toNat y.2.2.2.2.1) y_4),y_5.2.2.1,y_5.2.2.2)))
 (br (y_4 == (1:Int))
 (bnd (W.jn ((2:Int),(0:Int),[],y.2.2.2.1,(0:Int),[]) y_5.2.1 y_5.2.2.1 y_5.2.2.2) fun y_9=>
 k_ (.inl ((IntKind.wrap IntKind.i64 (used+(1:Int))),y_9.2.2.1,t68,y_9.1,y_9.2.1)))
 (k_ (.inl ((IntKind.wrap IntKind.i64 (used+(1:Int))),y_5.2.1,t68,y_5.2.2.1,y_5.2.2.2))))))))
def jg.c253291s:Shape:=⟨[(0,tb38),(1,tb5),(2,tb36),(3,tb12),(6,tb21),(7,tb36),(8,tb5),(9,tb79),(10,tb90),(11,tb23),(12,tb74),(13,tb91),(14,tb92),(15,tb5),(70,tb31),(71,tb5),(72,tb5)],[(3,tb34),(9,tb19),(11,tb19),(12,tb19),(65,tb93),(68,tb50),(1065,tb22),(2065,tb22)]⟩
def jg.c253291x0:Shape:=jg.c253291s
def jg.c253291x1:Shape:=jg.c253291s
def jg.c253291r:Ck:=Ck.of (T:=(Int×Int×(List Int)×(List (Int×(Int×(Bool))))×(List (Int×(Int×(Bool)))))⊕((List (List UInt8))×(List Int)×Int×Int×Int×Int×(List (Int×(Int×(Bool))))×(List (Int×(Int×(Bool)))))) jg.c253291s (fun ρ x_ k_=>jg.c253291 x_.2.2.1 x_.2.2.2.2.2.2.1 x_.2.2.2.2.2.2.2.1 x_.2.2.2.2.2.2.2.2.2.1 x_.2.2.2.2.2.2.2.2.2.2.2.2.2.2.2.2.2.2.2.1 x_.2.2.2.2.2.2.2.2.2.2.2.2.2.2.2.2.2.2.2.2.1 x_.2.2.2.2.2.2.2.2.2.2.2.2.2.2.2.2.2.2.2.2.2.1 x_.2.2.2.2.2.2.2.2.2.2.2.2.2.2.2.2.2.2.2.2.2.2.1 k_) (fun ρ x_ r_ k_=>uP x_ fun c x_=>uP x_ fun t1 x_=>uP x_ fun tape x_=>uP x_ fun t6 x_=>uP x_ fun t7 x_=>uP x_ fun t8 x_=>uP x_ fun used x_=>uP x_ fun t70 x_=>uP x_ fun t71 x_=>uP x_ fun t72 x_=>uP x_ fun c0 x_=>uP x_ fun c1 x_=>uP x_ fun c2 x_=>uP x_ fun t90 x_=>uP x_ fun t91 x_=>uP x_ fun f0 x_=>uP x_ fun f1 x_=>uP x_ fun f0_1 x_=>uP x_ fun f1_1 x_=>uP x_ fun t650 x_=>uP x_ fun t68 x_=>uP x_ fun t1065 x_=>uP x_ fun t2065 x_=>sel r_ (fun r_=>k_ 0 (Shape.inj jg.c253291x0 (c,t1,tape,t6,t7,t8,r_.1,t70,t71,t72,c0,c1,c2,t90,t91,f0,f1,f0_1,f1_1,r_.2.1,r_.2.2.1,r_.2.2.2.1,r_.2.2.2.2,()))) (fun r_=>k_ 1 (Shape.inj jg.c253291x1 (c,t1,tape,r_.1,r_.2.1,r_.2.2.1,used,t70,t71,t72,c0,c1,c2,r_.2.2.2.1,r_.2.2.2.2.1,f0,f1,f0_1,f1_1,r_.2.2.2.2.2.1,t68,r_.2.2.2.2.2.2.1,r_.2.2.2.2.2.2.2,()))))
def jg.c100012 {ρ:Type} (tape:List Int) (used:Int) (t70:List (Int×(Int×((List Int)×(Int×(Int×(List Int))))))) (t71:Int) (t72:Int) (t650:Int) (t68:List Int) (t1065:List (Int×(Int×(Bool)))) (t2065:List (Int×(Int×(Bool)))) (k_:(Int×Int×Int×(List Int)×(List (Int×(Int×(Bool))))×(List (Int×(Int×(Bool)))))⊕(((List (List UInt8))×(List Int)×Int×Int×Int×Int×Int×Int×(List Int)×(List (Int×(Int×(Bool))))×(List (Int×(Int×(Bool)))))⊕(Int×Int×Int×(List Int)×(List (Int×(Int×(Bool))))×(List (Int×(Int×(Bool))))))→Option ρ):Option ρ:=
 br (decide (t72 < t71))
 (bnd (W.jg.c253291 tape used t70 t72 t650 t68 t1065 t2065 some) fun y=>
 sel y
 (fun u=>k_ (.inl (u.1,(IntKind.wrap IntKind.i64 (t72+(1:Int))),u.2.1,u.2.2.1,u.2.2.2.1,u.2.2.2.2)))
 (fun v=>k_ (.inr (.inl (v.1,v.2.1,v.2.2.1,used,t72,v.2.2.2.1,v.2.2.2.2.1,v.2.2.2.2.2.1,t68,v.2.2.2.2.2.2.1,v.2.2.2.2.2.2.2)))))
 (k_ (.inr (.inr (used,t72,t650,t68,t1065,t2065))))
def jg.c100012s:Shape:=jg.c253291s
def jg.c100012x0:Shape:=jg.c253291s
def jg.c100012x1:Shape:=jg.c253291s
def jg.c100012r:Ck:=Ck.ofLoop (S:=Int×Int×Int×(List Int)×(List (Int×(Int×(Bool))))×(List (Int×(Int×(Bool))))) (T:=((List (List UInt8))×(List Int)×Int×Int×Int×Int×Int×Int×(List Int)×(List (Int×(Int×(Bool))))×(List (Int×(Int×(Bool)))))⊕(Int×Int×Int×(List Int)×(List (Int×(Int×(Bool))))×(List (Int×(Int×(Bool)))))) jg.c100012s (fun x_=>(x_.2.2.2.2.2.2.1,x_.2.2.2.2.2.2.2.2.2.1,x_.2.2.2.2.2.2.2.2.2.2.2.2.2.2.2.2.2.2.2.1,x_.2.2.2.2.2.2.2.2.2.2.2.2.2.2.2.2.2.2.2.2.1,x_.2.2.2.2.2.2.2.2.2.2.2.2.2.2.2.2.2.2.2.2.2.1,x_.2.2.2.2.2.2.2.2.2.2.2.2.2.2.2.2.2.2.2.2.2.2.1)) (fun ρ x_ s_ k_=>jg.c100012 x_.2.2.1 s_.1 x_.2.2.2.2.2.2.2.1 x_.2.2.2.2.2.2.2.2.1 s_.2.1 s_.2.2.1 s_.2.2.2.1 s_.2.2.2.2.1 s_.2.2.2.2.2 k_) (fun ρ x_ r_ k_=>uP x_ fun c x_=>uP x_ fun t1 x_=>uP x_ fun tape x_=>uP x_ fun t6 x_=>uP x_ fun t7 x_=>uP x_ fun t8 x_=>uP x_ fun used x_=>uP x_ fun t70 x_=>uP x_ fun t71 x_=>uP x_ fun t72 x_=>uP x_ fun c0 x_=>uP x_ fun c1 x_=>uP x_ fun c2 x_=>uP x_ fun t90 x_=>uP x_ fun t91 x_=>uP x_ fun f0 x_=>uP x_ fun f1 x_=>uP x_ fun f0_1 x_=>uP x_ fun f1_1 x_=>uP x_ fun t650 x_=>uP x_ fun t68 x_=>uP x_ fun t1065 x_=>uP x_ fun t2065 x_=>sel r_ (fun r_=>k_ 1 (Shape.inj jg.c100012x0 (c,t1,tape,r_.1,r_.2.1,r_.2.2.1,r_.2.2.2.1,t70,t71,r_.2.2.2.2.1,c0,c1,c2,r_.2.2.2.2.2.1,r_.2.2.2.2.2.2.1,f0,f1,f0_1,f1_1,r_.2.2.2.2.2.2.2.1,r_.2.2.2.2.2.2.2.2.1,r_.2.2.2.2.2.2.2.2.2.1,r_.2.2.2.2.2.2.2.2.2.2,()))) (fun r_=>k_ 2 (Shape.inj jg.c100012x1 (c,t1,tape,t6,t7,t8,r_.1,t70,t71,r_.2.1,c0,c1,c2,t90,t91,f0,f1,f0_1,f1_1,r_.2.2.1,r_.2.2.2.1,r_.2.2.2.2.1,r_.2.2.2.2.2,()))))
def jg.c29 {ρ:Type} (t650:Int) (t1065:List (Int×(Int×(Bool)))) (k_:(List (Int×(Int×(Bool))))×Int→Option ρ):Option ρ:=
 bnd (W.je t1065 t650) fun y=>
 k_ (y,(↑(List.length y):Int))
def jg.c29s:Shape:=⟨[(0,tb38),(1,tb5),(2,tb36),(3,tb12),(6,tb21),(7,tb36),(8,tb5),(9,tb79),(10,tb90),(11,tb23),(12,tb74),(13,tb91),(14,tb92),(15,tb5),(19,tb95),(70,tb31),(71,tb5),(72,tb5)],[(3,tb34),(9,tb19),(11,tb19),(12,tb19),(19,tb47),(65,tb93),(68,tb50),(1065,tb22),(2065,tb22)]⟩
def jg.c29x0:Shape:=⟨[(0,tb38),(1,tb5),(2,tb36),(3,tb12),(6,tb21),(7,tb36),(8,tb5),(9,tb79),(10,tb90),(11,tb23),(12,tb74),(13,tb91),(14,tb92),(15,tb5),(19,tb95),(70,tb31),(71,tb5),(72,tb5),(154,tb17),(155,tb5),(156,tb5)],[(3,tb34),(9,tb19),(11,tb19),(12,tb19),(19,tb47),(65,tb96),(68,tb50),(2065,tb22)]⟩
def jg.c29r:Ck:=Ck.of (T:=(List (Int×(Int×(Bool))))×Int) jg.c29s (fun ρ x_ k_=>jg.c29 x_.2.2.2.2.2.2.2.2.2.2.2.2.2.2.2.2.2.2.2.2.1 x_.2.2.2.2.2.2.2.2.2.2.2.2.2.2.2.2.2.2.2.2.2.2.1 k_) (fun ρ x_ r_ k_=>uP x_ fun c x_=>uP x_ fun t1 x_=>uP x_ fun tape x_=>uP x_ fun t6 x_=>uP x_ fun t7 x_=>uP x_ fun t8 x_=>uP x_ fun used x_=>uP x_ fun t70 x_=>uP x_ fun t71 x_=>uP x_ fun t72 x_=>uP x_ fun c0 x_=>uP x_ fun c1 x_=>uP x_ fun c2 x_=>uP x_ fun t90 x_=>uP x_ fun t91 x_=>uP x_ fun f0 x_=>uP x_ fun f1 x_=>uP x_ fun f0_1 x_=>uP x_ fun f1_1 x_=>uP x_ fun out x_=>uP x_ fun t650 x_=>uP x_ fun t68 x_=>uP x_ fun t1065 x_=>uP x_ fun t2065 x_=>k_ 0 (Shape.inj jg.c29x0 (c,t1,tape,t6,t7,t8,used,t70,t71,t72,r_.1,r_.2,(0:Int),c0,c1,c2,t90,t91,f0,f1,f0_1,f1_1,out,t650,t1065,t68,t2065,())))
def jg.c32 {ρ:Type} (out:List (List UInt8)) (p0:Int) (p1:Int) (p2:Bool) (t650:Int) (k_:List (List UInt8)→Option ρ):Option ρ:=
 bnd (W.jm (p0,p1,p2) t650) fun y=>
 bnd (okIf (decide ((List.length out+(1:Nat))*(16:Nat)≤(140737488355328:Nat)) && decide (List.length out+(1:Nat)≤(140737488355328:Nat)))) fun y_1=>
 k_ (out++[y])
def jg.c32s:Shape:=⟨[(0,tb38),(1,tb5),(2,tb36),(3,tb12),(6,tb21),(7,tb36),(8,tb5),(9,tb79),(10,tb90),(11,tb23),(12,tb74),(13,tb91),(14,tb92),(15,tb5),(19,tb95),(21,tb97),(70,tb31),(71,tb5),(72,tb5),(154,tb17),(155,tb5),(156,tb5)],[(3,tb34),(9,tb19),(11,tb19),(12,tb19),(19,tb47),(21,tb9),(65,tb96),(68,tb50),(2065,tb22)]⟩
def jg.c32x0:Shape:=jg.c32s
def jg.c32r:Ck:=Ck.of (T:=List (List UInt8)) jg.c32s (fun ρ x_ k_=>jg.c32 x_.2.2.2.2.2.2.2.2.2.2.2.2.2.2.2.2.2.2.2.2.2.2.1 x_.2.2.2.2.2.2.2.2.2.2.2.2.2.2.2.2.2.2.2.2.2.2.2.1 x_.2.2.2.2.2.2.2.2.2.2.2.2.2.2.2.2.2.2.2.2.2.2.2.2.1 x_.2.2.2.2.2.2.2.2.2.2.2.2.2.2.2.2.2.2.2.2.2.2.2.2.2.1 x_.2.2.2.2.2.2.2.2.2.2.2.2.2.2.2.2.2.2.2.2.2.2.2.2.2.2.1 k_) (fun ρ x_ r_ k_=>k_ 0 (Shape.inj jg.c32x0 (x_.1,x_.2.1,x_.2.2.1,x_.2.2.2.1,x_.2.2.2.2.1,x_.2.2.2.2.2.1,x_.2.2.2.2.2.2.1,x_.2.2.2.2.2.2.2.1,x_.2.2.2.2.2.2.2.2.1,x_.2.2.2.2.2.2.2.2.2.1,x_.2.2.2.2.2.2.2.2.2.2.1,x_.2.2.2.2.2.2.2.2.2.2.2.1,x_.2.2.2.2.2.2.2.2.2.2.2.2.1,x_.2.2.2.2.2.2.2.2.2.2.2.2.2.1,x_.2.2.2.2.2.2.2.2.2.2.2.2.2.2.1,x_.2.2.2.2.2.2.2.2.2.2.2.2.2.2.2.1,x_.2.2.2.2.2.2.2.2.2.2.2.2.2.2.2.2.1,x_.2.2.2.2.2.2.2.2.2.2.2.2.2.2.2.2.2.1,x_.2.2.2.2.2.2.2.2.2.2.2.2.2.2.2.2.2.2.1,x_.2.2.2.2.2.2.2.2.2.2.2.2.2.2.2.2.2.2.2.1,x_.2.2.2.2.2.2.2.2.2.2.2.2.2.2.2.2.2.2.2.2.1,x_.2.2.2.2.2.2.2.2.2.2.2.2.2.2.2.2.2.2.2.2.2.1,r_,x_.2.2.2.2.2.2.2.2.2.2.2.2.2.2.2.2.2.2.2.2.2.2.2)))
def jg.c100030 {ρ:Type} (t154:List (Int×(Int×(Bool)))) (t155:Int) (t156:Int) (out:List (List UInt8)) (t650:Int) (k_:(Int×(List (List UInt8)))⊕(Int×(List (List UInt8)))→Option ρ):Option ρ:=
 br (decide (t156 < t155))
 (bnd (idx t154 t156) fun y=>
 bnd (W.jg.c32 out y.1 y.2.1 y.2.2 t650 some) fun y_1=>
 k_ (.inl ((IntKind.wrap IntKind.i64 (t156+(1:Int))),y_1)))
 (k_ (.inr (t156,out)))
def jg.c100030s:Shape:=jg.c29x0
def jg.c100030x0:Shape:=jg.c29x0
def jg.c100030r:Ck:=Ck.ofLoop (S:=Int×(List (List UInt8))) (T:=Int×(List (List UInt8))) jg.c100030s (fun x_=>(x_.2.2.2.2.2.2.2.2.2.2.2.2.1,x_.2.2.2.2.2.2.2.2.2.2.2.2.2.2.2.2.2.2.2.2.2.2.1)) (fun ρ x_ s_ k_=>jg.c100030 x_.2.2.2.2.2.2.2.2.2.2.1 x_.2.2.2.2.2.2.2.2.2.2.2.1 s_.1 s_.2 x_.2.2.2.2.2.2.2.2.2.2.2.2.2.2.2.2.2.2.2.2.2.2.2.1 k_) (fun ρ x_ r_ k_=>k_ 5 (Shape.inj jg.c100030x0 (x_.1,x_.2.1,x_.2.2.1,x_.2.2.2.1,x_.2.2.2.2.1,x_.2.2.2.2.2.1,x_.2.2.2.2.2.2.1,x_.2.2.2.2.2.2.2.1,x_.2.2.2.2.2.2.2.2.1,x_.2.2.2.2.2.2.2.2.2.1,x_.2.2.2.2.2.2.2.2.2.2.1,x_.2.2.2.2.2.2.2.2.2.2.2.1,r_.1,x_.2.2.2.2.2.2.2.2.2.2.2.2.2.1,x_.2.2.2.2.2.2.2.2.2.2.2.2.2.2.1,x_.2.2.2.2.2.2.2.2.2.2.2.2.2.2.2.1,x_.2.2.2.2.2.2.2.2.2.2.2.2.2.2.2.2.1,x_.2.2.2.2.2.2.2.2.2.2.2.2.2.2.2.2.2.1,x_.2.2.2.2.2.2.2.2.2.2.2.2.2.2.2.2.2.2.1,x_.2.2.2.2.2.2.2.2.2.2.2.2.2.2.2.2.2.2.2.1,x_.2.2.2.2.2.2.2.2.2.2.2.2.2.2.2.2.2.2.2.2.1,x_.2.2.2.2.2.2.2.2.2.2.2.2.2.2.2.2.2.2.2.2.2.1,r_.2,x_.2.2.2.2.2.2.2.2.2.2.2.2.2.2.2.2.2.2.2.2.2.2.2)))
def jg (c:Int×(Int×(List (Int×(Int×((List Int)×(Int×(Int×(List Int))))))))) (t1:Int) (tape:List Int):Option ((List (List UInt8))×(List Int)×Int×(Int×Int)):=
 bnd (W.jv (c.1,c.2.1,c.2.2)) fun y=>
 br (y.1 != (0:Int))
 (bnd (W.jR (y.1,y.2)) fun y_1=>
 some (y_1.1,y_1.2.1,y_1.2.2.1,y_1.2.2.2.1,y_1.2.2.2.2))
 (bnd (W.jg.c5 t1 c.1 some) fun y_2=>
 br y_2
 (bnd (W.jR ((18:Int),(0:Int))) fun y_3=>
 some (y_3.1,y_3.2.1,y_3.2.2.1,y_3.2.2.2.1,y_3.2.2.2.2))
 (bnd (W.jz (c.1,c.2.1,c.2.2)) fun y_4=>
 br (y_4.1 != (0:Int))
 (bnd (W.jR (y_4.1,y_4.2)) fun y_5=>
 some (y_5.1,y_5.2.1,y_5.2.2.1,y_5.2.2.2.1,y_5.2.2.2.2))
 (bnd (W.jg.c10 t1 c.1 c.2.1 some) fun y_6=>
 bnd (iter (fun s↦W.jg.c100012 tape s.1 c.2.2 (↑(List.length c.2.2):Int) s.2.1 s.2.2.1 s.2.2.2.1 s.2.2.2.2.1 s.2.2.2.2.2 some) ((0:Int),(0:Int),y_6.1,List.replicate (Int.toNat c.2.1) (0:Int),y_6.2.1,y_6.2.2)) fun y_7=>
 sel y_7
 (fun u=>some (u.1,u.2.1,u.2.2.1,u.2.2.2.2.2.1,u.2.2.2.2.2.2.1))
 (fun v=>bnd (W.jg.c29 v.2.2.1 v.2.2.2.2.1 some) fun y_8=>
 bnd (iter (fun s↦W.jg.c100030 y_8.1 y_8.2 s.1 s.2 v.2.2.1 some) ((0:Int),[])) fun y_9=>
 some (y_9.2,v.2.2.2.1,v.1,(0:Int),(0:Int))))))
def jg.ce:Go.Ql.Callee:=⟨[(.st (.pair (.int .i64) (.pair (.int .i64) (.sl (.st (.pair (.int .i64) (.pair (.int .i64) (.pair (.sl (.int .i64)) (.pair (.int .i64) (.pair (.int .i64) (.sl (.int .i64)))))))))))),(.int .i64),(.sl (.int .i64))],[(.sl .str),(.sl (.int .i64)),(.int .i64),(.st (.pair (.int .i64) (.int .i64)))],fun x_=>jg x_.1 x_.2.1 x_.2.2⟩
def jg.G:Env:=⟨174,tab,[(36,jv.ce),(37,jz.ce),(39,jC.ce),(42,je.ce),(43,jm.ce),(35,jR.ce)],[0,1,2,3,6,7,8,9,10,11,12,13,14,15,16,17,18,19,21,26,42,54,70,71,72,73,77,82,89,119,132,139,154,155,156,157],[19,65,68,1065,2065],[(32,[⟨[],[],[161,162,163,164,165,166,167],[167]⟩,⟨[],[],[160,162,163,164,165],[]⟩,⟨[],[],[160,161],[]⟩,⟨[2],[],[160,161],[]⟩,⟨[3,2],[],[160,161],[]⟩,⟨[4,3,2],[],[160,161],[]⟩,⟨[1,5,4,3,2],[],[160],[]⟩,⟨[6,1,5,4,3,2],[167],[160],[]⟩,⟨[0,7,6,1,5,4,3,2],[19],[],[]⟩,⟨[8,0,7,6,1,5,4,3,2],[],[],[]⟩]),
 (29,[⟨[],[],[150,151,152,153,156],[]⟩,⟨[0],[],[150,151,152,153,156],[]⟩,⟨[1,0],[],[150,151,152,153,156],[]⟩,⟨[2,1,0],[],[150,151,152,153,156],[]⟩,⟨[],[],[146,147,148,149,156],[]⟩,⟨[4],[],[146,147,148,149,156],[]⟩,⟨[5,4],[],[146,147,148,149,156],[]⟩,⟨[6,5,4],[],[146,147,148,149,156],[]⟩,⟨[3,2,1,0,7,6,5,4],[1065],[156],[]⟩,⟨[8,3,2,1,0,7,6,5,4],[],[156],[]⟩,⟨[],[],[146,147,148,149,150,151,152,153,154,155],[1065]⟩]),
 (10,[⟨[],[],[64,66,67,68],[68]⟩,⟨[0],[],[64,66,67,68],[68]⟩,⟨[],[],[62,63,66,67,68],[68]⟩,⟨[1,0,2],[1065,2065,65],[66,67,68],[68]⟩,⟨[],[],[62,63,64,65,13],[1065,2065,65]⟩,⟨[4],[],[62,63,64,65,13],[1065,2065,65]⟩,⟨[5,4],[68],[62,63,64,65,13],[1065,2065,65]⟩,⟨[3,1,0,2],[],[66,67,68],[68]⟩,⟨[6,5,4,7,3,1,0,2],[],[],[]⟩,⟨[8,6,5,4,7,3,1,0,2],[],[],[]⟩])],[(100030,jg.c100030r),(32,jg.c32r),(29,jg.c29r),(100012,jg.c100012r),(253291,jg.c253291r),(20,jg.c20r),(10,jg.c10r),(5,jg.c5r)],[(38,jr.mc),(40,jn.mc),(41,jb.mc)],tab_eqs⟩
theorem jg.eq (x_:dens jg.ce.params):den jg.G Try.f9 jg.ce.params jg.ce.res x_=jg.ce.F x_:=by kernel_rfl
theorem jg.p0:PcA jg.G Try.f9 0:=
 region_ok (s:=jg.c5r) (by kernel_rfl) (by kernel_rfl) (sums_of (sh:=jg.c5s) (fun ρ x_ k_=>(nat_br nat_leaf (nat_bnd fun _=>nat_leaf))) (fun ρ x_ t k=>(by kernel_rfl)) (fun x_=>by kernel_rfl))
theorem jg.p1:PcA jg.G Try.f9 1:=
 region_ok (s:=jg.c10r) (by kernel_rfl) (by kernel_rfl) (sums_of (sh:=jg.c10s) (fun ρ x_ k_=>(nat_bnd fun _=>(nat_bnd fun _=>nat_leaf))) (fun ρ x_ t k=>(by kernel_rfl)) (fun x_=>by kernel_rfl))
theorem jg.p2:PcA jg.G Try.f9 2:=
 loop_ok (s:=jg.c100012r) (by kernel_rfl) (by kernel_rfl) (loops_of (sh:=jg.c100012s) (I:=fun x_ s_=>(x_.1,x_.2.1,x_.2.2.1,x_.2.2.2.1,x_.2.2.2.2.1,x_.2.2.2.2.2.1,s_.1,x_.2.2.2.2.2.2.2.1,x_.2.2.2.2.2.2.2.2.1,s_.2.1,x_.2.2.2.2.2.2.2.2.2.2.1,x_.2.2.2.2.2.2.2.2.2.2.2.1,x_.2.2.2.2.2.2.2.2.2.2.2.2.1,x_.2.2.2.2.2.2.2.2.2.2.2.2.2.1,x_.2.2.2.2.2.2.2.2.2.2.2.2.2.2.1,x_.2.2.2.2.2.2.2.2.2.2.2.2.2.2.2.1,x_.2.2.2.2.2.2.2.2.2.2.2.2.2.2.2.2.1,x_.2.2.2.2.2.2.2.2.2.2.2.2.2.2.2.2.2.1,x_.2.2.2.2.2.2.2.2.2.2.2.2.2.2.2.2.2.2.1,s_.2.2.1,s_.2.2.2.1,s_.2.2.2.2.1,s_.2.2.2.2.2,())) (fun x_=>rfl) (fun ρ x_ s_ k_=>(nat_br (nat_bnd fun _=>(nat_sel (fun _=>nat_leaf) (fun _=>nat_leaf))) nat_leaf)) (fun ρ x_ t k=>(nat_sel (fun _=>(by kernel_rfl)) (fun _=>(by kernel_rfl)))) (fun x_ s=>by kernel_rfl))
theorem jg.p3:PcA jg.G Try.f9 3:=
 join_ok (s:=jg.c253291r) (by kernel_rfl) (by kernel_rfl) (sums_of (sh:=jg.c253291s) (fun ρ x_ k_=>(nat_bnd fun _=>(nat_bnd fun _=>(nat_br nat_leaf (nat_br (nat_bnd fun _=>nat_leaf) (nat_br (nat_bnd fun _=>nat_leaf) (nat_bnd fun _=>(nat_bnd fun _=>(nat_br (nat_bnd fun _=>nat_leaf) (nat_br (nat_bnd fun _=>(nat_bnd fun _=>nat_leaf)) (nat_br (nat_bnd fun _=>nat_leaf) nat_leaf))))))))))) (fun ρ x_ t k=>(nat_sel (fun _=>(by kernel_rfl)) (fun _=>(by kernel_rfl)))) (fun x_=>by kernel_rfl))
theorem jg.p4:PcA jg.G Try.f9 4:=
 region_ok (s:=jg.c20r) (by kernel_rfl) (by kernel_rfl) (sums_of (sh:=jg.c20s) (fun ρ x_ k_=>(nat_br (nat_br nat_leaf (nat_bnd fun _=>nat_leaf)) (nat_bnd fun _=>nat_leaf))) (fun ρ x_ t k=>(by kernel_rfl)) (fun x_=>by kernel_rfl))
theorem jg.p5:PcA jg.G Try.f9 5:=
 region_ok (s:=jg.c29r) (by kernel_rfl) (by kernel_rfl) (sums_of (sh:=jg.c29s) (fun ρ x_ k_=>(nat_bnd fun _=>nat_leaf)) (fun ρ x_ t k=>(by kernel_rfl)) (fun x_=>by kernel_rfl))
theorem jg.p6:PcA jg.G Try.f9 6:=
 loop_ok (s:=jg.c100030r) (by kernel_rfl) (by kernel_rfl) (loops_of (sh:=jg.c100030s) (I:=fun x_ s_=>(x_.1,x_.2.1,x_.2.2.1,x_.2.2.2.1,x_.2.2.2.2.1,x_.2.2.2.2.2.1,x_.2.2.2.2.2.2.1,x_.2.2.2.2.2.2.2.1,x_.2.2.2.2.2.2.2.2.1,x_.2.2.2.2.2.2.2.2.2.1,x_.2.2.2.2.2.2.2.2.2.2.1,x_.2.2.2.2.2.2.2.2.2.2.2.1,s_.1,x_.2.2.2.2.2.2.2.2.2.2.2.2.2.1,x_.2.2.2.2.2.2.2.2.2.2.2.2.2.2.1,x_.2.2.2.2.2.2.2.2.2.2.2.2.2.2.2.1,x_.2.2.2.2.2.2.2.2.2.2.2.2.2.2.2.2.1,x_.2.2.2.2.2.2.2.2.2.2.2.2.2.2.2.2.2.1,x_.2.2.2.2.2.2.2.2.2.2.2.2.2.2.2.2.2.2.1,x_.2.2.2.2.2.2.2.2.2.2.2.2.2.2.2.2.2.2.2.1,x_.2.2.2.2.2.2.2.2.2.2.2.2.2.2.2.2.2.2.2.2.1,x_.2.2.2.2.2.2.2.2.2.2.2.2.2.2.2.2.2.2.2.2.2.1,s_.2,x_.2.2.2.2.2.2.2.2.2.2.2.2.2.2.2.2.2.2.2.2.2.2.2)) (fun x_=>rfl) (fun ρ x_ s_ k_=>(nat_br (nat_bnd fun _=>(nat_bnd fun _=>nat_leaf)) nat_leaf)) (fun ρ x_ t k=>(by kernel_rfl)) (fun x_ s=>by kernel_rfl))
theorem jg.p7:PcA jg.G Try.f9 7:=
 region_ok (s:=jg.c32r) (by kernel_rfl) (by kernel_rfl) (sums_of (sh:=jg.c32s) (fun ρ x_ k_=>(nat_bnd fun _=>(nat_bnd fun _=>nat_leaf))) (fun ρ x_ t k=>(by kernel_rfl)) (fun x_=>by kernel_rfl))
theorem jg.ok:CalleeOk Try.prog 9 jg.ce:=fn_ok (G:=jg.G) tab_ok mixed Try.func9 ⟨(fns_cons jv.ok (fns_cons jz.ok (fns_cons jC.ok (fns_cons je.ok (fns_cons jm.ok (fns_cons jR.ok fns_nil)))))),(mfns_cons jr.ok (mfns_cons jn.ok (mfns_cons jb.ok mfns_nil))),tab_eqs_ok⟩ (m:=8) (by kernel_rfl) ⟨⟨⟨⟨⟨⟨⟨⟨trivial,jg.p0⟩,jg.p1⟩,jg.p2⟩,jg.p3⟩,jg.p4⟩,jg.p5⟩,jg.p6⟩,jg.p7⟩ (by kernel_rfl) jg.eq
def jw.c6 {ρ:Type} (a:List (List UInt8)) (b:List (List UInt8)) (i:Int) (k_:Bool→Option ρ):Option ρ:=
 bnd (idx a i) fun y=>
 bnd (idx b i) fun y_1=>
 k_ (!y == y_1)
def jw.c6s:Shape:=⟨[(0,tb21),(1,tb21),(4,tb7),(5,tb5)],[]⟩
def jw.c6x0:Shape:=⟨[(0,tb21),(1,tb21),(4,tb7),(5,tb5),(25,tb7)],[]⟩
def jw.c6r:Ck:=Ck.of (T:=Bool) jw.c6s (fun ρ x_ k_=>jw.c6 x_.1 x_.2.1 x_.2.2.2.1 k_) (fun ρ x_ r_ k_=>k_ 0 (Shape.inj jw.c6x0 (x_.1,x_.2.1,x_.2.2.1,x_.2.2.2.1,r_,())))
def jw.c100004 {ρ:Type} (a:List (List UInt8)) (b:List (List UInt8)) (i:Int) (k_:Int⊕(Int⊕Int)→Option ρ):Option ρ:=
 br (decide (i < (↑(List.length a):Int)))
 (bnd (W.jw.c6 a b i some) fun y=>
 br y
 (k_ (.inr (.inl i)))
 (k_ (.inl (IntKind.wrap IntKind.i64 (i+(1:Int))))))
 (k_ (.inr (.inr i)))
def jw.c100004s:Shape:=jw.c6s
def jw.c100004x0:Shape:=jw.c6s
def jw.c100004x1:Shape:=jw.c6s
def jw.c100004r:Ck:=Ck.ofLoop (S:=Int) (T:=Int⊕Int) jw.c100004s (fun x_=>x_.2.2.2.1) (fun ρ x_ s_ k_=>jw.c100004 x_.1 x_.2.1 s_ k_) (fun ρ x_ r_ k_=>sel r_ (fun r_=>k_ 1 (Shape.inj jw.c100004x0 (x_.1,x_.2.1,false,r_,()))) (fun r_=>k_ 2 (Shape.inj jw.c100004x1 (x_.1,x_.2.1,x_.2.2.1,r_,()))))
def jw (a:List (List UInt8)) (b:List (List UInt8)):Option (Bool):=
 br ((↑(List.length a):Int) != (↑(List.length b):Int))
 (some false)
 (bnd (iter (fun s↦W.jw.c100004 a b s some) (0:Int)) fun y=>
 sel y
 (fun u=>some false)
 (fun v=>some true))
def jw.ce:Go.Ql.Callee:=⟨[(.sl .str),(.sl .str)],[.bool],fun x_=>jw x_.1 x_.2⟩
def jw.G:Env:=⟨26,tab,[],[0,1,4,5,10,14,25],[],[(6,[⟨[],[],[18,21,22,23,24],[]⟩,⟨[],[],[17,21,22,23,24],[]⟩,⟨[0,1],[],[21,22,23,24],[]⟩,⟨[2,0,1],[],[21,22,23,24],[]⟩,⟨[],[],[17,18,19,20,22],[]⟩,⟨[],[],[17,18,19,20,21],[]⟩,⟨[4,5],[],[17,18,19,20],[]⟩,⟨[6,4,5],[],[17,18,19,20],[]⟩,⟨[3,2,0,1,7,6,4,5],[],[],[]⟩])],[(100004,jw.c100004r),(6,jw.c6r)],[],tab_eqs⟩
theorem jw.eq (x_:dens jw.ce.params):den jw.G Try.f16 jw.ce.params jw.ce.res x_=jw.ce.F x_:=by kernel_rfl
theorem jw.p0:PcA jw.G Try.f16 0:=
 loop_ok (s:=jw.c100004r) (by kernel_rfl) (by kernel_rfl) (loops_of (sh:=jw.c100004s) (I:=fun x_ s_=>(x_.1,x_.2.1,x_.2.2.1,s_,())) (fun x_=>rfl) (fun ρ x_ s_ k_=>(nat_br (nat_bnd fun _=>(nat_br nat_leaf nat_leaf)) nat_leaf)) (fun ρ x_ t k=>(nat_sel (fun _=>(by kernel_rfl)) (fun _=>(by kernel_rfl)))) (fun x_ s=>by kernel_rfl))
theorem jw.p1:PcA jw.G Try.f16 1:=
 region_ok (s:=jw.c6r) (by kernel_rfl) (by kernel_rfl) (sums_of (sh:=jw.c6s) (fun ρ x_ k_=>(nat_bnd fun _=>(nat_bnd fun _=>nat_leaf))) (fun ρ x_ t k=>(by kernel_rfl)) (fun x_=>by kernel_rfl))
theorem jw.ok:CalleeOk Try.prog 16 jw.ce:=fn_ok (G:=jw.G) tab_ok mixed Try.func16 ⟨fns_nil,mfns_nil,tab_eqs_ok⟩ (m:=2) (by kernel_rfl) ⟨⟨trivial,jw.p0⟩,jw.p1⟩ (by kernel_rfl) jw.eq
def jI.c2 {ρ:Type} (l:List (List UInt8)) (f0:Int) (k_:Bool→Option ρ):Option ρ:=
 br (f0 == (0:Int))
 (bnd (W.jw l [Array.toList (ByteArray.data (ByteArray.mk #[(43:UInt8),(88:UInt8),(88:UInt8)])),Array.toList (ByteArray.data (ByteArray.mk #[(45:UInt8),(90:UInt8),(90:UInt8)]))]) fun y=>
 k_ y)
 (k_ false)
def jI.c2s:Shape:=⟨[(0,tb7),(1,tb21),(4,tb6)],[(4,tb19)]⟩
def jI.c2x0:Shape:=jI.c2s
def jI.c2r:Ck:=Ck.of (T:=Bool) jI.c2s (fun ρ x_ k_=>jI.c2 x_.2.1 x_.2.2.1 k_) (fun ρ x_ r_ k_=>k_ 0 (Shape.inj jI.c2x0 (r_,x_.2)))
def jI :Option (Bool):=
 bnd (W.jg ((2:Int),(0:Int),[((3:Int),(0:Int),[],(0:Int),(0:Int),[]),((2:Int),(0:Int),[(0:Int)],(1:Int),(0:Int),[])]) (2:Int) []) fun y=>
 bnd (W.jI.c2 y.1 y.2.2.2.1 some) fun y_1=>
 some y_1
def jI.ce:Go.Ql.Callee:=⟨[],[.bool],fun x_=>jI⟩
def jI.G:Env:=⟨24,tab,[(9,jg.ce),(16,jw.ce)],[0,1,4],[],[],[(2,jI.c2r)],[],tab_eqs⟩
theorem jI.eq (x_:dens jI.ce.params):den jI.G Try.f10 jI.ce.params jI.ce.res x_=jI.ce.F x_:=by kernel_rfl
theorem jI.p0:PcA jI.G Try.f10 0:=
 region_ok (s:=jI.c2r) (by kernel_rfl) (by kernel_rfl) (sums_of (sh:=jI.c2s) (fun ρ x_ k_=>(nat_br (nat_bnd fun _=>nat_leaf) nat_leaf)) (fun ρ x_ t k=>(by kernel_rfl)) (fun x_=>by kernel_rfl))
theorem jI.ok:CalleeOk Try.prog 10 jI.ce:=fn_ok (G:=jI.G) tab_ok mixed Try.func10 ⟨(fns_cons jg.ok (fns_cons jw.ok fns_nil)),mfns_nil,tab_eqs_ok⟩ (m:=1) (by kernel_rfl) ⟨trivial,jI.p0⟩ (by kernel_rfl) jI.eq
abbrev tb98:SO:=.box [.val .bool,.val (.sl (.int .i64))]
def jS.c2 {ρ:Type} (d:List Int) (n:Int) (k_:Bool→Option ρ):Option ρ:=
 br (decide (n > (0:Int)))
 (bnd (idx d (IntKind.wrap IntKind.i64 (n - (1:Int)))) fun y=>
 k_ (y == (0:Int)))
 (k_ false)
def jS.c2s:Shape:=⟨[(0,tb7),(1,tb36),(4,tb6),(5,tb5)],[(4,tb98)]⟩
def jS.c2x0:Shape:=⟨[(0,tb7),(1,tb36),(4,tb6),(5,tb5),(17,tb7)],[(4,tb98)]⟩
def jS.c2r:Ck:=Ck.of (T:=Bool) jS.c2s (fun ρ x_ k_=>jS.c2 x_.2.1 x_.2.2.1 k_) (fun ρ x_ r_ k_=>k_ 0 (Shape.inj jS.c2x0 (x_.1,x_.2.1,x_.2.2.1,r_,x_.2.2.2)))
def jS.c100002 {ρ:Type} (d:List Int) (n:Int) (k_:Int⊕Int→Option ρ):Option ρ:=
 bnd (W.jS.c2 d n some) fun y=>
 br y
 (k_ (.inl (IntKind.wrap IntKind.i64 (n - (1:Int)))))
 (k_ (.inr n))
def jS.c100002s:Shape:=jS.c2s
def jS.c100002x0:Shape:=jS.c2s
def jS.c100002r:Ck:=Ck.ofLoop (S:=Int) (T:=Int) jS.c100002s (fun x_=>x_.2.2.1) (fun ρ x_ s_ k_=>jS.c100002 x_.2.1 s_ k_) (fun ρ x_ r_ k_=>k_ 2 (Shape.inj jS.c100002x0 (x_.1,x_.2.1,r_,x_.2.2.2)))
def jS (neg:Bool) (d:List Int):Option ((Bool)×(List Int)):=
 bnd (iter (fun s↦W.jS.c100002 d s some) ↑(List.length d)) fun y=>
 br (y == (0:Int))
 (some (false,[]))
 (bnd (okIf (decide ((0:Int)≤y) && decide (y≤(↑(List.length d):Int)))) fun y_1=>
 some (neg,List.take (Int.toNat y) d))
def jS.ce:Go.Ql.Callee:=⟨[.bool,(.sl (.int .i64))],[(.st (.pair .bool (.sl (.int .i64))))],fun x_=>jS x_.1 x_.2⟩
def jS.G:Env:=⟨28,tab,[],[0,1,4,5,17,21],[],[],[(100002,jS.c100002r),(2,jS.c2r)],[],tab_eqs⟩
theorem jS.eq (x_:dens jS.ce.params):den jS.G Try.f95 jS.ce.params jS.ce.res x_=jS.ce.F x_:=by kernel_rfl
theorem jS.p0:PcA jS.G Try.f95 0:=
 loop_ok (s:=jS.c100002r) (by kernel_rfl) (by kernel_rfl) (loops_of (sh:=jS.c100002s) (I:=fun x_ s_=>(x_.1,x_.2.1,s_,x_.2.2.2)) (fun x_=>rfl) (fun ρ x_ s_ k_=>(nat_bnd fun _=>(nat_br nat_leaf nat_leaf))) (fun ρ x_ t k=>(by kernel_rfl)) (fun x_ s=>by kernel_rfl))
theorem jS.p1:PcA jS.G Try.f95 1:=
 region_ok (s:=jS.c2r) (by kernel_rfl) (by kernel_rfl) (sums_of (sh:=jS.c2s) (fun ρ x_ k_=>(nat_br (nat_bnd fun _=>nat_leaf) nat_leaf)) (fun ρ x_ t k=>(by kernel_rfl)) (fun x_=>by kernel_rfl))
theorem jS.ok:CalleeOk Try.prog 95 jS.ce:=fn_ok (G:=jS.G) tab_ok mixed Try.func95 ⟨fns_nil,mfns_nil,tab_eqs_ok⟩ (m:=2) (by kernel_rfl) ⟨⟨trivial,jS.p0⟩,jS.p1⟩ (by kernel_rfl) jS.eq
abbrev tb99:SD:=.one (.own 4 0)
def Jm.c208197 {ρ:Type} (n:Int) (u:Int) (k_:Int→Option ρ):Option ρ:=
 br (decide (n < (0:Int)))
 (k_ (IntKind.wrap IntKind.u64 ((0:Int) - u)))
 (k_ u)
def Jm.c208197s:Shape:=⟨[(0,tb5),(2,tb2),(3,tb13)],[(2,tb98)]⟩
def Jm.c208197x0:Shape:=Jm.c208197s
def Jm.c208197r:Ck:=Ck.of (T:=Int) Jm.c208197s (fun ρ x_ k_=>Jm.c208197 x_.1 x_.2.1 k_) (fun ρ x_ r_ k_=>k_ 0 (Shape.inj Jm.c208197x0 (x_.1,r_,x_.2.2)))
def Jm.c100005 {ρ:Type} (u:Int) (d:List Int) (k_:(Int×(List Int))⊕(Int×(List Int))→Option ρ):Option ρ:=
 br (decide (u > (0:Int)))
 (bnd (okIf (decide ((List.length d+(1:Nat))*(8:Nat)≤(140737488355328:Nat)) && decide (List.length d+(1:Nat)≤(140737488355328:Nat)))) fun y=>
 k_ (.inl ((IntKind.wrap IntKind.u64 (Int.tdiv u (10000:Int))),(d++[IntKind.wrap IntKind.i64 (Int.tmod u (10000:Int))]))))
 (k_ (.inr (u,d)))
def Jm.c100005s:Shape:=⟨[(0,tb5),(2,tb2),(3,tb13),(4,tb99)],[(2,tb98),(4,tb50)]⟩
def Jm.c100005x0:Shape:=Jm.c100005s
def Jm.c100005r:Ck:=Ck.ofLoop (S:=Int×(List Int)) (T:=Int×(List Int)) Jm.c100005s (fun x_=>(x_.2.1,x_.2.2.2.2.1)) (fun ρ x_ s_ k_=>Jm.c100005 s_.1 s_.2 k_) (fun ρ x_ r_ k_=>k_ 2 (Shape.inj Jm.c100005x0 (x_.1,r_.1,x_.2.2.1,x_.2.2.2.1,r_.2,())))
def Jm (n:Int):Option ((Bool)×(List Int)):=
 bnd (W.Jm.c208197 n (IntKind.wrap IntKind.u64 n) some) fun y=>
 bnd (iter (fun s↦W.Jm.c100005 s.1 s.2 some) (y,[])) fun y_1=>
 bnd (W.jS (decide (n < (0:Int))) y_1.2) fun y_2=>
 some (y_2.1,y_2.2)
def Jm.ce:Go.Ql.Callee:=⟨[(.int .i64)],[(.st (.pair .bool (.sl (.int .i64))))],fun x_=>Jm x_⟩
def Jm.G:Env:=⟨25,tab,[(95,jS.ce)],[0,2,3,4,8,12],[4],[],[(100005,Jm.c100005r),(208197,Jm.c208197r)],[],tab_eqs⟩
theorem Jm.eq (x_:dens Jm.ce.params):den Jm.G Try.f60 Jm.ce.params Jm.ce.res x_=Jm.ce.F x_:=by kernel_rfl
theorem Jm.p0:PcA Jm.G Try.f60 0:=
 join_ok (s:=Jm.c208197r) (by kernel_rfl) (by kernel_rfl) (sums_of (sh:=Jm.c208197s) (fun ρ x_ k_=>(nat_br nat_leaf nat_leaf)) (fun ρ x_ t k=>(by kernel_rfl)) (fun x_=>by kernel_rfl))
theorem Jm.p1:PcA Jm.G Try.f60 1:=
 loop_ok (s:=Jm.c100005r) (by kernel_rfl) (by kernel_rfl) (loops_of (sh:=Jm.c100005s) (I:=fun x_ s_=>(x_.1,s_.1,x_.2.2.1,x_.2.2.2.1,s_.2,())) (fun x_=>rfl) (fun ρ x_ s_ k_=>(nat_br (nat_bnd fun _=>nat_leaf) nat_leaf)) (fun ρ x_ t k=>(by kernel_rfl)) (fun x_ s=>by kernel_rfl))
theorem Jm.ok:CalleeOk Try.prog 60 Jm.ce:=fn_ok (G:=Jm.G) tab_ok mixed Try.func60 ⟨(fns_cons jS.ok fns_nil),mfns_nil,tab_eqs_ok⟩ (m:=2) (by kernel_rfl) ⟨⟨trivial,Jm.p0⟩,Jm.p1⟩ (by kernel_rfl) Jm.eq
def JF (n:(Bool)×(List Int)):Option ((List ((Bool)×(List Int)))×Int):=
 bnd (idx (List.replicate (8:Nat) (false,([]:List (Ty.den (Ty.int IntKind.i64))))) (0:Int)) fun y=>
 some (List.set (List.replicate (8:Nat) (false,([]:List (Ty.den (Ty.int IntKind.i64))))) (0:Nat) (n.1,n.2),(0:Int))
def JF.ce:Go.Ql.Callee:=⟨[(.st (.pair .bool (.sl (.int .i64))))],[(.st (.pair (.ar 8 (.st (.pair .bool (.sl (.int .i64))))) (.int .i64)))],fun x_=>JF x_⟩
def JF.G:Env:=⟨9,tab,[],[0,1,2,3],[2,3,4],[],[],[],tab_eqs⟩
theorem JF.eq (x_:dens JF.ce.params):den JF.G Try.f59 JF.ce.params JF.ce.res x_=JF.ce.F x_:=by kernel_rfl
theorem JF.ok:CalleeOk Try.prog 59 JF.ce:=fn_ok (G:=JF.G) tab_ok mixed Try.func59 ⟨fns_nil,mfns_nil,tab_eqs_ok⟩ (m:=0) (by kernel_rfl) trivial (by kernel_rfl) JF.eq
def JD (qubits:Int) (t1:Int):Option (List ((List ((Bool)×(List Int)))×Int)):=
 bnd (okIf (decide ((0:Int)≤qubits))) fun y=>
 bnd (okIf (decide ((0:Int)≤IntKind.wrap IntKind.i64 ((1:Int)*(2:Int) ^ Min.min (Int.toNat qubits) (64:Nat))) && decide (IntKind.wrap IntKind.i64 ((1:Int)*(2:Int) ^ Min.min (Int.toNat qubits) (64:Nat))≤IntKind.wrap IntKind.i64 ((1:Int)*(2:Int) ^ Min.min (Int.toNat qubits) (64:Nat))) && decide (IntKind.wrap IntKind.i64 ((1:Int)*(2:Int) ^ Min.min (Int.toNat qubits) (64:Nat))*(↑(264:Nat):Int)≤(140737488355328:Int)) && decide (IntKind.wrap IntKind.i64 ((1:Int)*(2:Int) ^ Min.min (Int.toNat qubits) (64:Nat))≤(140737488355328:Int)))) fun y_1=>
 bnd (W.Jm (1:Int)) fun y_2=>
 bnd (W.JF y_2) fun y_3=>
 bnd (inR (List.length (List.replicate (Int.toNat (IntKind.wrap IntKind.i64 ((1:Int)*(2:Int) ^ Min.min (Int.toNat qubits) (64:Nat)))) (List.replicate (8:Nat) (false,([]:List (Ty.den (Ty.int IntKind.i64)))),(0:Int)))) t1) fun y_4=>
 bnd (idx (List.replicate (Int.toNat (IntKind.wrap IntKind.i64 ((1:Int)*(2:Int) ^ Min.min (Int.toNat qubits) (64:Nat)))) (List.replicate (8:Nat) (false,([]:List (Ty.den (Ty.int IntKind.i64)))),(0:Int))) t1) fun y_5=>
 some (List.set (List.replicate (Int.toNat (IntKind.wrap IntKind.i64 ((1:Int)*(2:Int) ^ Min.min (Int.toNat qubits) (64:Nat)))) (List.replicate (8:Nat) (false,([]:List (Ty.den (Ty.int IntKind.i64)))),(0:Int))) (Int.toNat t1) y_3)
def JD.ce:Go.Ql.Callee:=⟨[(.int .i64),(.int .i64)],[(.sl (.st (.pair (.ar 8 (.st (.pair .bool (.sl (.int .i64))))) (.int .i64))))],fun x_=>JD x_.1 x_.2⟩
def JD.G:Env:=⟨15,tab,[(60,Jm.ce),(59,JF.ce)],[0,1,4,5],[8],[],[],[],tab_eqs⟩
theorem JD.eq (x_:dens JD.ce.params):den JD.G Try.f23 JD.ce.params JD.ce.res x_=JD.ce.F x_:=by kernel_rfl
theorem JD.ok:CalleeOk Try.prog 23 JD.ce:=fn_ok (G:=JD.G) tab_ok mixed Try.func23 ⟨(fns_cons Jm.ok (fns_cons JF.ok fns_nil)),mfns_nil,tab_eqs_ok⟩ (m:=0) (by kernel_rfl) trivial (by kernel_rfl) JD.eq
abbrev tb100:SD:=.one (.val (.st (.pair (.ar 8 (.st (.pair .bool (.sl (.int .i64))))) (.int .i64))))
abbrev tb101:SD:=.one (.fptr (.st (.pair (.ar 8 (.st (.pair .bool (.sl (.int .i64))))) (.int .i64))))
def Jc.c100002 {ρ:Type} (a_1:(List ((Bool)×(List Int)))×Int) (i:Int) (k_:Int⊕(Int⊕Int)→Option ρ):Option ρ:=
 br (decide (i < (8:Int)))
 (bnd (idx a_1.1 i) fun y=>
 br (decide ((↑(List.length y.2):Int) > (0:Int)))
 (k_ (.inr (.inl i)))
 (k_ (.inl (IntKind.wrap IntKind.i64 (i+(1:Int))))))
 (k_ (.inr (.inr i)))
def Jc.c100002s:Shape:=⟨[(0,tb100),(1,tb101),(2,tb7),(3,tb5)],[]⟩
def Jc.c100002x0:Shape:=Jc.c100002s
def Jc.c100002x1:Shape:=Jc.c100002s
def Jc.c100002r:Ck:=Ck.ofLoop (S:=Int) (T:=Int⊕Int) Jc.c100002s (fun x_=>x_.2.2.2.1) (fun ρ x_ s_ k_=>Jc.c100002 x_.2.1 s_ k_) (fun ρ x_ r_ k_=>sel r_ (fun r_=>k_ 1 (Shape.inj Jc.c100002x0 (x_.1,x_.2.1,false,r_,()))) (fun r_=>k_ 2 (Shape.inj Jc.c100002x1 (x_.1,x_.2.1,x_.2.2.1,r_,()))))
def Jc (a:(List ((Bool)×(List Int)))×Int):Option (Bool):=
 bnd (iter (fun s↦W.Jc.c100002 a s some) (0:Int)) fun y=>
 sel y
 (fun u=>some false)
 (fun v=>some true)
def Jc.ce:Go.Ql.Callee:=⟨[(.st (.pair (.ar 8 (.st (.pair .bool (.sl (.int .i64))))) (.int .i64)))],[.bool],fun x_=>Jc x_⟩
def Jc.G:Env:=⟨15,tab,[],[0,1,2,3,5,14],[8000001],[],[(100002,Jc.c100002r)],[],tab_eqs⟩
theorem Jc.eq (x_:dens Jc.ce.params):den Jc.G Try.f48 Jc.ce.params Jc.ce.res x_=Jc.ce.F x_:=by kernel_rfl
theorem Jc.p0:PcA Jc.G Try.f48 0:=
 loop_ok (s:=Jc.c100002r) (by kernel_rfl) (by kernel_rfl) (loops_of (sh:=Jc.c100002s) (I:=fun x_ s_=>(x_.1,x_.2.1,x_.2.2.1,s_,())) (fun x_=>rfl) (fun ρ x_ s_ k_=>(nat_br (nat_bnd fun _=>(nat_br nat_leaf nat_leaf)) nat_leaf)) (fun ρ x_ t k=>(nat_sel (fun _=>(by kernel_rfl)) (fun _=>(by kernel_rfl)))) (fun x_ s=>by kernel_rfl))
theorem Jc.ok:CalleeOk Try.prog 48 Jc.ce:=fn_ok (G:=Jc.G) tab_ok mixed Try.func48 ⟨fns_nil,mfns_nil,tab_eqs_ok⟩ (m:=1) (by kernel_rfl) ⟨trivial,Jc.p0⟩ (by kernel_rfl) Jc.eq
def JA (x:Int) (q:Int):Option Int:=
 bnd (okIf (decide ((0:Int)≤q))) fun y=>
 some (ibits BinOp.and IntKind.i64 (Int.fdiv x ((2:Int) ^ Min.min (Int.toNat q) (64:Nat))) (1:Int))
def JA.ce:Go.Ql.Callee:=⟨[(.int .i64),(.int .i64)],[(.int .i64)],fun x_=>JA x_.1 x_.2⟩
def JA.G:Env:=⟨9,tab,[],[0,1,4],[],[],[],[],tab_eqs⟩
theorem JA.eq (x_:dens JA.ce.params):den JA.G Try.f63 JA.ce.params JA.ce.res x_=JA.ce.F x_:=by kernel_rfl
theorem JA.ok:CalleeOk Try.prog 63 JA.ce:=fn_ok (G:=JA.G) tab_ok mixed Try.func63 ⟨fns_nil,mfns_nil,tab_eqs_ok⟩ (m:=0) (by kernel_rfl) trivial (by kernel_rfl) JA.eq
def Jk.c100002 {ρ:Type} (x:Int) (qs:List Int) (i:Int) (k_:Int⊕(Int⊕Int)→Option ρ):Option ρ:=
 br (decide (i < (↑(List.length qs):Int)))
 (bnd (idx qs i) fun y=>
 bnd (W.JA x y) fun y_1=>
 br (y_1 == (0:Int))
 (k_ (.inr (.inl i)))
 (k_ (.inl (IntKind.wrap IntKind.i64 (i+(1:Int))))))
 (k_ (.inr (.inr i)))
def Jk.c100002s:Shape:=⟨[(0,tb5),(1,tb36),(4,tb7),(5,tb5)],[]⟩
def Jk.c100002x0:Shape:=Jk.c100002s
def Jk.c100002x1:Shape:=Jk.c100002s
def Jk.c100002r:Ck:=Ck.ofLoop (S:=Int) (T:=Int⊕Int) Jk.c100002s (fun x_=>x_.2.2.2.1) (fun ρ x_ s_ k_=>Jk.c100002 x_.1 x_.2.1 s_ k_) (fun ρ x_ r_ k_=>sel r_ (fun r_=>k_ 1 (Shape.inj Jk.c100002x0 (x_.1,x_.2.1,false,r_,()))) (fun r_=>k_ 2 (Shape.inj Jk.c100002x1 (x_.1,x_.2.1,x_.2.2.1,r_,()))))
def Jk (x:Int) (qs:List Int):Option (Bool):=
 bnd (iter (fun s↦W.Jk.c100002 x qs s some) (0:Int)) fun y=>
 sel y
 (fun u=>some false)
 (fun v=>some true)
def Jk.ce:Go.Ql.Callee:=⟨[(.int .i64),(.sl (.int .i64))],[.bool],fun x_=>Jk x_.1 x_.2⟩
def Jk.G:Env:=⟨19,tab,[(63,JA.ce)],[0,1,4,5,9,18],[],[],[(100002,Jk.c100002r)],[],tab_eqs⟩
theorem Jk.eq (x_:dens Jk.ce.params):den Jk.G Try.f61 Jk.ce.params Jk.ce.res x_=Jk.ce.F x_:=by kernel_rfl
theorem Jk.p0:PcA Jk.G Try.f61 0:=
 loop_ok (s:=Jk.c100002r) (by kernel_rfl) (by kernel_rfl) (loops_of (sh:=Jk.c100002s) (I:=fun x_ s_=>(x_.1,x_.2.1,x_.2.2.1,s_,())) (fun x_=>rfl) (fun ρ x_ s_ k_=>(nat_br (nat_bnd fun _=>(nat_bnd fun _=>(nat_br nat_leaf nat_leaf))) nat_leaf)) (fun ρ x_ t k=>(nat_sel (fun _=>(by kernel_rfl)) (fun _=>(by kernel_rfl)))) (fun x_ s=>by kernel_rfl))
theorem Jk.ok:CalleeOk Try.prog 61 Jk.ce:=fn_ok (G:=Jk.G) tab_ok mixed Try.func61 ⟨(fns_cons JA.ok fns_nil),mfns_nil,tab_eqs_ok⟩ (m:=1) (by kernel_rfl) ⟨trivial,Jk.p0⟩ (by kernel_rfl) Jk.eq
abbrev tb102:SD:=.one (.val (.st (.pair .bool (.sl (.int .i64)))))
abbrev tb103:SD:=.one (.own 17 0)
def jD.c7 {ρ:Type} (c:Int) (j:Int) (b1:List Int) (k_:Bool→Option ρ):Option ρ:=
 br (decide (j < (↑(List.length b1):Int)))
 (k_ true)
 (k_ (decide (c > (0:Int))))
def jD.c7s:Shape:=⟨[(0,tb102),(1,tb102),(2,tb2),(3,tb12),(4,tb6),(5,tb103),(6,tb5),(7,tb5),(8,tb5)],[(2,tb98),(3,tb98),(4,tb98),(17,tb50)]⟩
def jD.c7x0:Shape:=⟨[(0,tb102),(1,tb102),(2,tb2),(3,tb12),(4,tb6),(5,tb103),(6,tb5),(7,tb5),(8,tb5),(33,tb7)],[(2,tb98),(3,tb98),(4,tb98),(17,tb50)]⟩
def jD.c7r:Ck:=Ck.of (T:=Bool) jD.c7s (fun ρ x_ k_=>jD.c7 x_.2.2.2.1 x_.2.2.2.2.1 x_.2.2.2.2.2.2.2.2.1 k_) (fun ρ x_ r_ k_=>k_ 0 (Shape.inj jD.c7x0 (x_.1,x_.2.1,x_.2.2.1,x_.2.2.2.1,x_.2.2.2.2.1,r_,x_.2.2.2.2.2)))
def jD.c11 {ρ:Type} (i:Int) (c:Int) (j:Int) (a1:List Int) (b1:List Int) (k_:Int→Option ρ):Option ρ:=
 bnd (idx a1 i) fun y=>
 bnd (idx b1 j) fun y_1=>
 k_ (IntKind.wrap IntKind.i64 (c+IntKind.wrap IntKind.i64 (y*y_1)))
def jD.c11s:Shape:=jD.c7s
def jD.c11x0:Shape:=jD.c7s
def jD.c11r:Ck:=Ck.of (T:=Int) jD.c11s (fun ρ x_ k_=>jD.c11 x_.2.2.1 x_.2.2.2.1 x_.2.2.2.2.1 x_.2.2.2.2.2.2.1 x_.2.2.2.2.2.2.2.2.1 k_) (fun ρ x_ r_ k_=>k_ 0 (Shape.inj jD.c11x0 (x_.1,x_.2.1,x_.2.2.1,r_,x_.2.2.2.2)))
def jD.c240965 {ρ:Type} (i:Int) (c:Int) (j:Int) (a1:List Int) (b1:List Int) (k_:Int→Option ρ):Option ρ:=
 br (decide (j < (↑(List.length b1):Int)))
 (bnd (W.jD.c11 i c j a1 b1 some) fun y=>
 k_ y)
 (k_ c)
def jD.c240965s:Shape:=jD.c7s
def jD.c240965x0:Shape:=jD.c7s
def jD.c240965r:Ck:=Ck.of (T:=Int) jD.c240965s (fun ρ x_ k_=>jD.c240965 x_.2.2.1 x_.2.2.2.1 x_.2.2.2.2.1 x_.2.2.2.2.2.2.1 x_.2.2.2.2.2.2.2.2.1 k_) (fun ρ x_ r_ k_=>k_ 0 (Shape.inj jD.c240965x0 (x_.1,x_.2.1,x_.2.2.1,r_,x_.2.2.2.2)))
def jD.c100007 {ρ:Type} (i:Int) (c:Int) (j:Int) (a1:List Int) (b1:List Int) (t17:List Int) (k_:(Int×Int×(List Int))⊕(Int×Int×(List Int))→Option ρ):Option ρ:=
 bnd (W.jD.c7 c j b1 some) fun y=>
 br y
 (bnd (inR (List.length t17) (IntKind.wrap IntKind.i64 (i+j))) fun y_1=>
 bnd (idx t17 (IntKind.wrap IntKind.i64 (i+j))) fun y_2=>
 bnd (W.jD.c240965 i (IntKind.wrap IntKind.i64 (c+y_2)) j a1 b1 some) fun y_3=>
 bnd (inR (List.length t17) (IntKind.wrap IntKind.i64 (i+j))) fun y_4=>
 bnd (idx t17 (IntKind.wrap IntKind.i64 (i+j))) fun y_5=>
 k_ (.inl ((IntKind.wrap IntKind.i64 (Int.tdiv y_3 (10000:Int))),(IntKind.wrap IntKind.i64 (j+(1:Int))),(List.set t17 (Int.toNat (IntKind.wrap IntKind.i64 (i+j))) (Int.tmod y_3 (10000:Int))))))
 (k_ (.inr (c,j,t17)))
def jD.c100007s:Shape:=jD.c7s
def jD.c100007x0:Shape:=jD.c7s
def jD.c100007r:Ck:=Ck.ofLoop (S:=Int×Int×(List Int)) (T:=Int×Int×(List Int)) jD.c100007s (fun x_=>(x_.2.2.2.1,x_.2.2.2.2.1,x_.2.2.2.2.2.2.2.2.2.2.2.1)) (fun ρ x_ s_ k_=>jD.c100007 x_.2.2.1 s_.1 s_.2.1 x_.2.2.2.2.2.2.1 x_.2.2.2.2.2.2.2.2.1 s_.2.2 k_) (fun ρ x_ r_ k_=>k_ 4 (Shape.inj jD.c100007x0 (x_.1,x_.2.1,x_.2.2.1,r_.1,r_.2.1,x_.2.2.2.2.2.1,x_.2.2.2.2.2.2.1,x_.2.2.2.2.2.2.2.1,x_.2.2.2.2.2.2.2.2.1,x_.2.2.2.2.2.2.2.2.2.1,x_.2.2.2.2.2.2.2.2.2.2.1,r_.2.2,())))
def jD.c100003 {ρ:Type} (i:Int) (a1:List Int) (b1:List Int) (t17:List Int) (k_:(Int×(List Int))⊕(Int×(List Int))→Option ρ):Option ρ:=
 br (decide (i < (↑(List.length a1):Int)))
 (bnd (iter (fun s↦W.jD.c100007 i s.1 s.2.1 a1 b1 s.2.2 some) ((0:Int),(0:Int),t17)) fun y=>
 k_ (.inl ((IntKind.wrap IntKind.i64 (i+(1:Int))),y.2.2)))
 (k_ (.inr (i,t17)))
def jD.c100003s:Shape:=⟨[(0,tb102),(1,tb102),(2,tb2),(3,tb12),(4,tb6),(5,tb103),(6,tb5)],[(2,tb98),(3,tb98),(4,tb98),(17,tb50)]⟩
def jD.c100003x0:Shape:=jD.c100003s
def jD.c100003r:Ck:=Ck.ofLoop (S:=Int×(List Int)) (T:=Int×(List Int)) jD.c100003s (fun x_=>(x_.2.2.1,x_.2.2.2.2.2.2.2.2.2.1)) (fun ρ x_ s_ k_=>jD.c100003 s_.1 x_.2.2.2.2.1 x_.2.2.2.2.2.2.1 s_.2 k_) (fun ρ x_ r_ k_=>k_ 2 (Shape.inj jD.c100003x0 (x_.1,x_.2.1,r_.1,x_.2.2.2.1,x_.2.2.2.2.1,x_.2.2.2.2.2.1,x_.2.2.2.2.2.2.1,x_.2.2.2.2.2.2.2.1,x_.2.2.2.2.2.2.2.2.1,r_.2,())))
def jD (a:(Bool)×(List Int)) (b:(Bool)×(List Int)):Option ((Bool)×(List Int)):=
 bnd (okIf (decide ((0:Int)≤IntKind.wrap IntKind.i64 (IntKind.wrap IntKind.i64 ((↑(List.length a.2):Int)+(↑(List.length b.2):Int))+(1:Int))) && decide (IntKind.wrap IntKind.i64 (IntKind.wrap IntKind.i64 ((↑(List.length a.2):Int)+(↑(List.length b.2):Int))+(1:Int))≤IntKind.wrap IntKind.i64 (IntKind.wrap IntKind.i64 ((↑(List.length a.2):Int)+(↑(List.length b.2):Int))+(1:Int))) && decide (IntKind.wrap IntKind.i64 (IntKind.wrap IntKind.i64 ((↑(List.length a.2):Int)+(↑(List.length b.2):Int))+(1:Int))*(↑(8:Nat):Int)≤(140737488355328:Int)) && decide (IntKind.wrap IntKind.i64 (IntKind.wrap IntKind.i64 ((↑(List.length a.2):Int)+(↑(List.length b.2):Int))+(1:Int))≤(140737488355328:Int)))) fun y=>
 bnd (iter (fun s↦W.jD.c100003 s.1 a.2 b.2 s.2 some) ((0:Int),List.replicate (Int.toNat (IntKind.wrap IntKind.i64 (IntKind.wrap IntKind.i64 ((↑(List.length a.2):Int)+(↑(List.length b.2):Int))+(1:Int)))) (0:Int))) fun y_1=>
 bnd (W.jS (!a.1 == b.1) y_1.2) fun y_2=>
 some (y_2.1,y_2.2)
def jD.ce:Go.Ql.Callee:=⟨[(.st (.pair .bool (.sl (.int .i64)))),(.st (.pair .bool (.sl (.int .i64))))],[(.st (.pair .bool (.sl (.int .i64))))],fun x_=>jD x_.1 x_.2⟩
def jD.G:Env:=⟨78,tab,[(95,jS.ce)],[0,1,2,3,4,5,6,7,8,22,33,48],[17],[(11,[⟨[],[],[50,51,52,53,54,55,56,57,58,59,60],[]⟩,⟨[],[],[49,52,55,56,57,58,59],[]⟩,⟨[1],[],[49,52,55,56,57,58,59],[]⟩,⟨[],[],[49,50,51,55,56,57,58,59],[]⟩,⟨[2,1,3],[],[49,55,56,57,58,59],[]⟩,⟨[4,2,1,3],[],[49,55,56,57,58,59],[]⟩,⟨[],[],[49,50,51,52,53,54,57],[]⟩,⟨[6],[],[49,50,51,52,53,54,57],[]⟩,⟨[],[],[49,50,51,52,53,54,55,56],[]⟩,⟨[7,6,8],[],[49,50,51,52,53,54],[]⟩,⟨[9,7,6,8],[],[49,50,51,52,53,54],[]⟩,⟨[5,4,2,1,3,10,9,7,6,8],[],[49],[]⟩,⟨[0,11,5,4,2,1,3,10,9,7,6,8],[],[],[]⟩,⟨[12,0,11,5,4,2,1,3,10,9,7,6,8],[],[],[]⟩])],[(100003,jD.c100003r),(100007,jD.c100007r),(240965,jD.c240965r),(11,jD.c11r),(7,jD.c7r)],[],tab_eqs⟩
theorem jD.eq (x_:dens jD.ce.params):den jD.G Try.f123 jD.ce.params jD.ce.res x_=jD.ce.F x_:=by kernel_rfl
theorem jD.p0:PcA jD.G Try.f123 0:=
 loop_ok (s:=jD.c100003r) (by kernel_rfl) (by kernel_rfl) (loops_of (sh:=jD.c100003s) (I:=fun x_ s_=>(x_.1,x_.2.1,s_.1,x_.2.2.2.1,x_.2.2.2.2.1,x_.2.2.2.2.2.1,x_.2.2.2.2.2.2.1,x_.2.2.2.2.2.2.2.1,x_.2.2.2.2.2.2.2.2.1,s_.2,())) (fun x_=>rfl) (fun ρ x_ s_ k_=>(nat_br (nat_bnd fun _=>nat_leaf) nat_leaf)) (fun ρ x_ t k=>(by kernel_rfl)) (fun x_ s=>by kernel_rfl))
theorem jD.p1:PcA jD.G Try.f123 1:=
 loop_ok (s:=jD.c100007r) (by kernel_rfl) (by kernel_rfl) (loops_of (sh:=jD.c100007s) (I:=fun x_ s_=>(x_.1,x_.2.1,x_.2.2.1,s_.1,s_.2.1,x_.2.2.2.2.2.1,x_.2.2.2.2.2.2.1,x_.2.2.2.2.2.2.2.1,x_.2.2.2.2.2.2.2.2.1,x_.2.2.2.2.2.2.2.2.2.1,x_.2.2.2.2.2.2.2.2.2.2.1,s_.2.2,())) (fun x_=>rfl) (fun ρ x_ s_ k_=>(nat_bnd fun _=>(nat_br (nat_bnd fun _=>(nat_bnd fun _=>(nat_bnd fun _=>(nat_bnd fun _=>(nat_bnd fun _=>nat_leaf))))) nat_leaf))) (fun ρ x_ t k=>(by kernel_rfl)) (fun x_ s=>by kernel_rfl))
theorem jD.p2:PcA jD.G Try.f123 2:=
 region_ok (s:=jD.c7r) (by kernel_rfl) (by kernel_rfl) (sums_of (sh:=jD.c7s) (fun ρ x_ k_=>(nat_br nat_leaf nat_leaf)) (fun ρ x_ t k=>(by kernel_rfl)) (fun x_=>by kernel_rfl))
theorem jD.p3:PcA jD.G Try.f123 3:=
 join_ok (s:=jD.c240965r) (by kernel_rfl) (by kernel_rfl) (sums_of (sh:=jD.c240965s) (fun ρ x_ k_=>(nat_br (nat_bnd fun _=>nat_leaf) nat_leaf)) (fun ρ x_ t k=>(by kernel_rfl)) (fun x_=>by kernel_rfl))
theorem jD.p4:PcA jD.G Try.f123 4:=
 region_ok (s:=jD.c11r) (by kernel_rfl) (by kernel_rfl) (sums_of (sh:=jD.c11s) (fun ρ x_ k_=>(nat_bnd fun _=>(nat_bnd fun _=>nat_leaf))) (fun ρ x_ t k=>(by kernel_rfl)) (fun x_=>by kernel_rfl))
theorem jD.ok:CalleeOk Try.prog 123 jD.ce:=fn_ok (G:=jD.G) tab_ok mixed Try.func123 ⟨(fns_cons jS.ok fns_nil),mfns_nil,tab_eqs_ok⟩ (m:=5) (by kernel_rfl) ⟨⟨⟨⟨⟨trivial,jD.p0⟩,jD.p1⟩,jD.p2⟩,jD.p3⟩,jD.p4⟩ (by kernel_rfl) jD.eq
def jZ.c216389 {ρ:Type} (n:Int) (out0:Bool) (out1:List Int) (t40:Bool) (t41:List Int) (k_:(Bool)×(List Int)→Option ρ):Option ρ:=
 br (Int.tmod n (2:Int) == (1:Int))
 (bnd (W.jD (out0,out1) (t40,t41)) fun y=>
 k_ (y.1,y.2))
 (k_ (out0,out1))
def jZ.c216389s:Shape:=⟨[(0,tb5),(2,tb2),(3,tb12),(4,tb6)],[(2,tb98),(3,tb98),(4,tb98)]⟩
def jZ.c216389x0:Shape:=jZ.c216389s
def jZ.c216389r:Ck:=Ck.of (T:=(Bool)×(List Int)) jZ.c216389s (fun ρ x_ k_=>jZ.c216389 x_.1 x_.2.2.2.1 x_.2.2.2.2.1 x_.2.2.2.2.2.1 x_.2.2.2.2.2.2.1 k_) (fun ρ x_ r_ k_=>k_ 0 (Shape.inj jZ.c216389x0 (x_.1,x_.2.1,x_.2.2.1,r_.1,r_.2,x_.2.2.2.2.2)))
def jZ.c100003 {ρ:Type} (n:Int) (out0:Bool) (out1:List Int) (t40:Bool) (t41:List Int) (k_:(Int×(Bool)×(List Int)×(Bool)×(List Int))⊕(Int×(Bool)×(List Int)×(Bool)×(List Int))→Option ρ):Option ρ:=
 br (decide (n > (0:Int)))
 (bnd (W.jZ.c216389 n out0 out1 t40 t41 some) fun y=>
 bnd (W.jD (t40,t41) (t40,t41)) fun y_1=>
 k_ (.inl ((IntKind.wrap IntKind.i64 (Int.tdiv n (2:Int))),y.1,y.2,y_1.1,y_1.2)))
 (k_ (.inr (n,out0,out1,t40,t41)))
def jZ.c100003s:Shape:=jZ.c216389s
def jZ.c100003x0:Shape:=jZ.c216389s
def jZ.c100003r:Ck:=Ck.ofLoop (S:=Int×(Bool)×(List Int)×(Bool)×(List Int)) (T:=Int×(Bool)×(List Int)×(Bool)×(List Int)) jZ.c100003s (fun x_=>(x_.1,x_.2.2.2.1,x_.2.2.2.2.1,x_.2.2.2.2.2.1,x_.2.2.2.2.2.2.1)) (fun ρ x_ s_ k_=>jZ.c100003 s_.1 s_.2.1 s_.2.2.1 s_.2.2.2.1 s_.2.2.2.2 k_) (fun ρ x_ r_ k_=>k_ 2 (Shape.inj jZ.c100003x0 (r_.1,x_.2.1,x_.2.2.1,r_.2.1,r_.2.2.1,r_.2.2.2.1,r_.2.2.2.2,())))
def jZ (n:Int):Option ((Bool)×(List Int)):=
 bnd (W.Jm (1:Int)) fun y=>
 bnd (W.Jm (2:Int)) fun y_1=>
 bnd (iter (fun s↦W.jZ.c100003 s.1 s.2.1 s.2.2.1 s.2.2.2.1 s.2.2.2.2 some) (n,y.1,y.2,y_1.1,y_1.2)) fun y_2=>
 some (y_2.2.1,y_2.2.2.1)
def jZ.ce:Go.Ql.Callee:=⟨[(.int .i64)],[(.st (.pair .bool (.sl (.int .i64))))],fun x_=>jZ x_⟩
def jZ.G:Env:=⟨21,tab,[(60,Jm.ce),(123,jD.ce)],[0,2,3,4,8,11],[],[],[(100003,jZ.c100003r),(216389,jZ.c216389r)],[],tab_eqs⟩
theorem jZ.eq (x_:dens jZ.ce.params):den jZ.G Try.f122 jZ.ce.params jZ.ce.res x_=jZ.ce.F x_:=by kernel_rfl
theorem jZ.p0:PcA jZ.G Try.f122 0:=
 loop_ok (s:=jZ.c100003r) (by kernel_rfl) (by kernel_rfl) (loops_of (sh:=jZ.c100003s) (I:=fun x_ s_=>(s_.1,x_.2.1,x_.2.2.1,s_.2.1,s_.2.2.1,s_.2.2.2.1,s_.2.2.2.2,())) (fun x_=>rfl) (fun ρ x_ s_ k_=>(nat_br (nat_bnd fun _=>(nat_bnd fun _=>nat_leaf)) nat_leaf)) (fun ρ x_ t k=>(by kernel_rfl)) (fun x_ s=>by kernel_rfl))
theorem jZ.p1:PcA jZ.G Try.f122 1:=
 join_ok (s:=jZ.c216389r) (by kernel_rfl) (by kernel_rfl) (sums_of (sh:=jZ.c216389s) (fun ρ x_ k_=>(nat_br (nat_bnd fun _=>nat_leaf) nat_leaf)) (fun ρ x_ t k=>(by kernel_rfl)) (fun x_=>by kernel_rfl))
theorem jZ.ok:CalleeOk Try.prog 122 jZ.ce:=fn_ok (G:=jZ.G) tab_ok mixed Try.func122 ⟨(fns_cons Jm.ok (fns_cons jD.ok fns_nil)),mfns_nil,tab_eqs_ok⟩ (m:=2) (by kernel_rfl) ⟨⟨trivial,jZ.p0⟩,jZ.p1⟩ (by kernel_rfl) jZ.eq
abbrev tb104:SD:=.one (.aptr 2 0)
abbrev tb105:SD:=.one (.aptr 4 0)
abbrev tb106:SO:=.arr 0 false 90 (.st (.pair (.ar 8 (.st (.pair .bool (.sl (.int .i64))))) (.int .i64)))
def Jd.c6 {ρ:Type} (i:Int) (a_1:List ((List ((Bool)×(List Int)))×Int)) (t50:Bool) (t51:List Int) (k_:List ((List ((Bool)×(List Int)))×Int)→Option ρ):Option ρ:=
 bnd (inR (List.length a_1) (0:Int)) fun y=>
 bnd (okIf (decide ((0:Ty.den (Ty.int IntKind.i64))≤i) && decide (i < (↑(8:Nat):Int)))) fun y_1=>
 bnd (idx a_1 (0:Int)) fun y_2=>
 bnd (idx y_2.1 i) fun y_3=>
 bnd (W.jD y_3 (t50,t51)) fun y_4=>
 bnd (inR (List.length a_1) (0:Int)) fun y_5=>
 bnd (okIf (decide ((0:Ty.den (Ty.int IntKind.i64))≤i) && decide (i < (↑(8:Nat):Int)))) fun y_6=>
 bnd (idx a_1 (0:Int)) fun y_7=>
 bnd (idx y_7.1 i) fun y_8=>
 k_ (List.set a_1 (0:Nat) (List.set y_7.1 (Int.toNat i) y_4,y_7.2))
def Jd.c6s:Shape:=⟨[(0,tb100),(1,tb5),(2,tb104),(4,tb105),(5,tb39),(6,tb5)],[(2,tb106),(4,tb106),(5,tb98)]⟩
def Jd.c6x0:Shape:=Jd.c6s
def Jd.c6r:Ck:=Ck.of (T:=List ((List ((Bool)×(List Int)))×Int)) Jd.c6s (fun ρ x_ k_=>Jd.c6 x_.2.2.1 x_.2.2.2.1 x_.2.2.2.2.2.1 x_.2.2.2.2.2.2.1 k_) (fun ρ x_ r_ k_=>k_ 0 (Shape.inj Jd.c6x0 (x_.1,x_.2.1,x_.2.2.1,r_,x_.2.2.2.2)))
def Jd.c100004 {ρ:Type} (i:Int) (a_1:List ((List ((Bool)×(List Int)))×Int)) (t50:Bool) (t51:List Int) (k_:(Int×(List ((List ((Bool)×(List Int)))×Int)))⊕(Int×(List ((List ((Bool)×(List Int)))×Int)))→Option ρ):Option ρ:=
 br (decide (i < (8:Int)))
 (bnd (W.Jd.c6 i a_1 t50 t51 some) fun y=>
 k_ (.inl ((IntKind.wrap IntKind.i64 (i+(1:Int))),y)))
 (k_ (.inr (i,a_1)))
def Jd.c100004s:Shape:=Jd.c6s
def Jd.c100004x0:Shape:=Jd.c6s
def Jd.c100004r:Ck:=Ck.ofLoop (S:=Int×(List ((List ((Bool)×(List Int)))×Int))) (T:=Int×(List ((List ((Bool)×(List Int)))×Int))) Jd.c100004s (fun x_=>(x_.2.2.1,x_.2.2.2.1)) (fun ρ x_ s_ k_=>Jd.c100004 s_.1 s_.2 x_.2.2.2.2.2.1 x_.2.2.2.2.2.2.1 k_) (fun ρ x_ r_ k_=>k_ 2 (Shape.inj Jd.c100004x0 (x_.1,x_.2.1,r_.1,r_.2,x_.2.2.2.2)))
def Jd.c204118 {ρ:Type} (e:Int) (a_1:List ((List ((Bool)×(List Int)))×Int)) (k_:List ((List ((Bool)×(List Int)))×Int)→Option ρ):Option ρ:=
 bnd (inR (List.length a_1) (0:Int)) fun y=>
 bnd (idx a_1 (0:Int)) fun y_1=>
 br (decide (y_1.2 < e))
 (bnd (inR (List.length a_1) (0:Int)) fun y_2=>
 bnd (idx a_1 (0:Int)) fun y_3=>
 bnd (W.jZ (IntKind.wrap IntKind.i64 (e - y_3.2))) fun y_4=>
 bnd (iter (fun s↦W.Jd.c100004 s.1 s.2 y_4.1 y_4.2 some) ((0:Int),a_1)) fun y_5=>
 bnd (inR (List.length y_5.2) (0:Int)) fun y_6=>
 bnd (idx y_5.2 (0:Int)) fun y_7=>
 k_ (List.set y_5.2 (0:Nat) (y_7.1,e)))
 (k_ a_1)
def Jd.c204118s:Shape:=⟨[(0,tb100),(1,tb5),(2,tb104),(4,tb105)],[(2,tb106),(4,tb106)]⟩
def Jd.c204118x0:Shape:=Jd.c204118s
def Jd.c204118r:Ck:=Ck.of (T:=List ((List ((Bool)×(List Int)))×Int)) Jd.c204118s (fun ρ x_ k_=>Jd.c204118 x_.2.1 x_.2.2.1 k_) (fun ρ x_ r_ k_=>k_ 0 (Shape.inj Jd.c204118x0 (x_.1,x_.2.1,r_,x_.2.2.2)))
def Jd (a:(List ((Bool)×(List Int)))×Int) (e:Int):Option ((List ((Bool)×(List Int)))×Int):=
 bnd (W.Jd.c204118 e [a] some) fun y=>
 bnd (idx y (0:Int)) fun y_1=>
 some y_1
def Jd.ce:Go.Ql.Callee:=⟨[(.st (.pair (.ar 8 (.st (.pair .bool (.sl (.int .i64))))) (.int .i64))),(.int .i64)],[(.st (.pair (.ar 8 (.st (.pair .bool (.sl (.int .i64))))) (.int .i64)))],fun x_=>Jd x_.1 x_.2⟩
def Jd.G:Env:=⟨32,tab,[(122,jZ.ce),(123,jD.ce)],[0,1,2,4,5,6,10,17],[2,4],[(6,[⟨[],[],[21,22,23,24,25,26,27],[]⟩,⟨[],[],[20,22,25,27],[]⟩,⟨[],[],[20,21,25,27],[]⟩,⟨[2,1],[],[20,25,27],[]⟩,⟨[3,2,1],[],[20,25,27],[]⟩,⟨[],[],[20,21,22,23,24,27],[]⟩,⟨[4,3,2,1,5],[],[20,27],[]⟩,⟨[],[],[20,21,22,23,24,25,26],[]⟩,⟨[7,0,1,2,3,4,5,6],[],[],[]⟩,⟨[8,7,0,1,2,3,4,5,6],[2],[],[]⟩])],[(204118,Jd.c204118r),(100004,Jd.c100004r),(6,Jd.c6r)],[],tab_eqs⟩
theorem Jd.eq (x_:dens Jd.ce.params):den Jd.G Try.f96 Jd.ce.params Jd.ce.res x_=Jd.ce.F x_:=by kernel_rfl
theorem Jd.p0:PcA Jd.G Try.f96 0:=
 join_ok (s:=Jd.c204118r) (by kernel_rfl) (by kernel_rfl) (sums_of (sh:=Jd.c204118s) (fun ρ x_ k_=>(nat_bnd fun _=>(nat_bnd fun _=>(nat_br (nat_bnd fun _=>(nat_bnd fun _=>(nat_bnd fun _=>(nat_bnd fun _=>(nat_bnd fun _=>(nat_bnd fun _=>nat_leaf)))))) nat_leaf)))) (fun ρ x_ t k=>(by kernel_rfl)) (fun x_=>by kernel_rfl))
theorem Jd.p1:PcA Jd.G Try.f96 1:=
 loop_ok (s:=Jd.c100004r) (by kernel_rfl) (by kernel_rfl) (loops_of (sh:=Jd.c100004s) (I:=fun x_ s_=>(x_.1,x_.2.1,s_.1,s_.2,x_.2.2.2.2)) (fun x_=>rfl) (fun ρ x_ s_ k_=>(nat_br (nat_bnd fun _=>nat_leaf) nat_leaf)) (fun ρ x_ t k=>(by kernel_rfl)) (fun x_ s=>by kernel_rfl))
theorem Jd.p2:PcA Jd.G Try.f96 2:=
 region_ok (s:=Jd.c6r) (by kernel_rfl) (by kernel_rfl) (sums_of (sh:=Jd.c6s) (fun ρ x_ k_=>(nat_bnd fun _=>(nat_bnd fun _=>(nat_bnd fun _=>(nat_bnd fun _=>(nat_bnd fun _=>(nat_bnd fun _=>(nat_bnd fun _=>(nat_bnd fun _=>(nat_bnd fun _=>nat_leaf)))))))))) (fun ρ x_ t k=>(by kernel_rfl)) (fun x_=>by kernel_rfl))
theorem Jd.ok:CalleeOk Try.prog 96 Jd.ce:=fn_ok (G:=Jd.G) tab_ok mixed Try.func96 ⟨(fns_cons jZ.ok (fns_cons jD.ok fns_nil)),mfns_nil,tab_eqs_ok⟩ (m:=3) (by kernel_rfl) ⟨⟨⟨trivial,Jd.p0⟩,Jd.p1⟩,Jd.p2⟩ (by kernel_rfl) Jd.eq
def jL.c4 {ρ:Type} (a:List Int) (b:List Int) (c:Int) (i:Int) (k_:Bool→Option ρ):Option ρ:=
 br (decide (i < (↑(List.length a):Int)))
 (k_ true)
 (br (decide (i < (↑(List.length b):Int)))
 (k_ true)
 (k_ (decide (c > (0:Int)))))
def jL.c4s:Shape:=⟨[(0,tb36),(1,tb36),(4,tb36),(5,tb20),(6,tb5),(7,tb5)],[(5,tb50)]⟩
def jL.c4x0:Shape:=⟨[(0,tb36),(1,tb36),(4,tb36),(5,tb20),(6,tb5),(7,tb5),(21,tb7)],[(5,tb50)]⟩
def jL.c4r:Ck:=Ck.of (T:=Bool) jL.c4s (fun ρ x_ k_=>jL.c4 x_.1 x_.2.1 x_.2.2.2.1 x_.2.2.2.2.1 k_) (fun ρ x_ r_ k_=>k_ 0 (Shape.inj jL.c4x0 (x_.1,x_.2.1,x_.2.2.1,x_.2.2.2.1,x_.2.2.2.2.1,r_,x_.2.2.2.2.2)))
def jL.c224581 {ρ:Type} (a:List Int) (c:Int) (i:Int) (k_:Int→Option ρ):Option ρ:=
 br (decide (i < (↑(List.length a):Int)))
 (bnd (idx a i) fun y=>
 k_ (IntKind.wrap IntKind.i64 (c+y)))
 (k_ c)
def jL.c224581s:Shape:=jL.c4s
def jL.c224581x0:Shape:=jL.c4s
def jL.c224581r:Ck:=Ck.of (T:=Int) jL.c224581s (fun ρ x_ k_=>jL.c224581 x_.1 x_.2.2.2.1 x_.2.2.2.2.1 k_) (fun ρ x_ r_ k_=>k_ 0 (Shape.inj jL.c224581x0 (x_.1,x_.2.1,x_.2.2.1,r_,x_.2.2.2.2)))
def jL.c232773 {ρ:Type} (b:List Int) (c:Int) (i:Int) (k_:Int→Option ρ):Option ρ:=
 br (decide (i < (↑(List.length b):Int)))
 (bnd (idx b i) fun y=>
 k_ (IntKind.wrap IntKind.i64 (c+y)))
 (k_ c)
def jL.c232773s:Shape:=jL.c4s
def jL.c232773x0:Shape:=jL.c4s
def jL.c232773r:Ck:=Ck.of (T:=Int) jL.c232773s (fun ρ x_ k_=>jL.c232773 x_.2.1 x_.2.2.2.1 x_.2.2.2.2.1 k_) (fun ρ x_ r_ k_=>k_ 0 (Shape.inj jL.c232773x0 (x_.1,x_.2.1,x_.2.2.1,r_,x_.2.2.2.2)))
def jL.c100004 {ρ:Type} (a:List Int) (b:List Int) (c:Int) (i:Int) (out:List Int) (k_:(Int×Int×(List Int))⊕(Int×Int×(List Int))→Option ρ):Option ρ:=
 bnd (W.jL.c4 a b c i some) fun y=>
 br y
 (bnd (W.jL.c224581 a c i some) fun y_1=>
 bnd (W.jL.c232773 b y_1 i some) fun y_2=>
 bnd (okIf (decide ((List.length out+(1:Nat))*(8:Nat)≤(140737488355328:Nat)) && decide (List.length out+(1:Nat)≤(140737488355328:Nat)))) fun y_3=>
 k_ (.inl ((IntKind.wrap IntKind.i64 (Int.tdiv y_2 (10000:Int))),(IntKind.wrap IntKind.i64 (i+(1:Int))),(out++[Int.tmod y_2 (10000:Int)]))))
 (k_ (.inr (c,i,out)))
def jL.c100004s:Shape:=jL.c4s
def jL.c100004x0:Shape:=jL.c4s
def jL.c100004r:Ck:=Ck.ofLoop (S:=Int×Int×(List Int)) (T:=Int×Int×(List Int)) jL.c100004s (fun x_=>(x_.2.2.2.1,x_.2.2.2.2.1,x_.2.2.2.2.2.1)) (fun ρ x_ s_ k_=>jL.c100004 x_.1 x_.2.1 s_.1 s_.2.1 s_.2.2 k_) (fun ρ x_ r_ k_=>k_ 2 (Shape.inj jL.c100004x0 (x_.1,x_.2.1,x_.2.2.1,r_.1,r_.2.1,r_.2.2,())))
def jL (a:List Int) (b:List Int):Option (List Int):=
 bnd (iter (fun s↦W.jL.c100004 a b s.1 s.2.1 s.2.2 some) ((0:Int),(0:Int),[])) fun y=>
 some y.2.2
def jL.ce:Go.Ql.Callee:=⟨[(.sl (.int .i64)),(.sl (.int .i64))],[(.sl (.int .i64))],fun x_=>jL x_.1 x_.2⟩
def jL.G:Env:=⟨52,tab,[],[0,1,4,5,6,7,21,27,37],[5],[],[(100004,jL.c100004r),(232773,jL.c232773r),(224581,jL.c224581r),(4,jL.c4r)],[],tab_eqs⟩
theorem jL.eq (x_:dens jL.ce.params):den jL.G Try.f124 jL.ce.params jL.ce.res x_=jL.ce.F x_:=by kernel_rfl
theorem jL.p0:PcA jL.G Try.f124 0:=
 loop_ok (s:=jL.c100004r) (by kernel_rfl) (by kernel_rfl) (loops_of (sh:=jL.c100004s) (I:=fun x_ s_=>(x_.1,x_.2.1,x_.2.2.1,s_.1,s_.2.1,s_.2.2,())) (fun x_=>rfl) (fun ρ x_ s_ k_=>(nat_bnd fun _=>(nat_br (nat_bnd fun _=>(nat_bnd fun _=>(nat_bnd fun _=>nat_leaf))) nat_leaf))) (fun ρ x_ t k=>(by kernel_rfl)) (fun x_ s=>by kernel_rfl))
theorem jL.p1:PcA jL.G Try.f124 1:=
 region_ok (s:=jL.c4r) (by kernel_rfl) (by kernel_rfl) (sums_of (sh:=jL.c4s) (fun ρ x_ k_=>(nat_br nat_leaf (nat_br nat_leaf nat_leaf))) (fun ρ x_ t k=>(by kernel_rfl)) (fun x_=>by kernel_rfl))
theorem jL.p2:PcA jL.G Try.f124 2:=
 join_ok (s:=jL.c224581r) (by kernel_rfl) (by kernel_rfl) (sums_of (sh:=jL.c224581s) (fun ρ x_ k_=>(nat_br (nat_bnd fun _=>nat_leaf) nat_leaf)) (fun ρ x_ t k=>(by kernel_rfl)) (fun x_=>by kernel_rfl))
theorem jL.p3:PcA jL.G Try.f124 3:=
 join_ok (s:=jL.c232773r) (by kernel_rfl) (by kernel_rfl) (sums_of (sh:=jL.c232773s) (fun ρ x_ k_=>(nat_br (nat_bnd fun _=>nat_leaf) nat_leaf)) (fun ρ x_ t k=>(by kernel_rfl)) (fun x_=>by kernel_rfl))
theorem jL.ok:CalleeOk Try.prog 124 jL.ce:=fn_ok (G:=jL.G) tab_ok mixed Try.func124 ⟨fns_nil,mfns_nil,tab_eqs_ok⟩ (m:=4) (by kernel_rfl) ⟨⟨⟨⟨trivial,jL.p0⟩,jL.p1⟩,jL.p2⟩,jL.p3⟩ (by kernel_rfl) jL.eq
def jT.c8 {ρ:Type} (a:List Int) (b:List Int) (i:Int) (k_:Bool→Option ρ):Option ρ:=
 bnd (idx a i) fun y=>
 bnd (idx b i) fun y_1=>
 k_ (decide (y < y_1))
def jT.c8s:Shape:=⟨[(0,tb36),(1,tb36),(4,tb5),(5,tb5)],[]⟩
def jT.c8x0:Shape:=⟨[(0,tb36),(1,tb36),(4,tb5),(5,tb5),(31,tb7)],[]⟩
def jT.c8r:Ck:=Ck.of (T:=Bool) jT.c8s (fun ρ x_ k_=>jT.c8 x_.1 x_.2.1 x_.2.2.2.1 k_) (fun ρ x_ r_ k_=>k_ 0 (Shape.inj jT.c8x0 (x_.1,x_.2.1,x_.2.2.1,x_.2.2.2.1,r_,())))
def jT.c10 {ρ:Type} (a:List Int) (b:List Int) (i:Int) (k_:Bool→Option ρ):Option ρ:=
 bnd (idx a i) fun y=>
 bnd (idx b i) fun y_1=>
 k_ (decide (y > y_1))
def jT.c10s:Shape:=jT.c8s
def jT.c10x0:Shape:=⟨[(0,tb36),(1,tb36),(4,tb5),(5,tb5),(40,tb7)],[]⟩
def jT.c10r:Ck:=Ck.of (T:=Bool) jT.c10s (fun ρ x_ k_=>jT.c10 x_.1 x_.2.1 x_.2.2.2.1 k_) (fun ρ x_ r_ k_=>k_ 0 (Shape.inj jT.c10x0 (x_.1,x_.2.1,x_.2.2.1,x_.2.2.2.1,r_,())))
def jT.c100006 {ρ:Type} (a:List Int) (b:List Int) (i:Int) (k_:Int⊕((Int×Int)⊕Int)→Option ρ):Option ρ:=
 br (decide (i≥(0:Int)))
 (bnd (W.jT.c8 a b i some) fun y=>
 br y
 (k_ (.inr (.inl ((-1:Int),i))))
 (bnd (W.jT.c10 a b i some) fun y_1=>
 br y_1
 (k_ (.inr (.inl ((1:Int),i))))
 (k_ (.inl (IntKind.wrap IntKind.i64 (i - (1:Int)))))))
 (k_ (.inr (.inr i)))
def jT.c100006s:Shape:=jT.c8s
def jT.c100006x0:Shape:=jT.c8s
def jT.c100006x1:Shape:=jT.c8s
def jT.c100006r:Ck:=Ck.ofLoop (S:=Int) (T:=(Int×Int)⊕Int) jT.c100006s (fun x_=>x_.2.2.2.1) (fun ρ x_ s_ k_=>jT.c100006 x_.1 x_.2.1 s_ k_) (fun ρ x_ r_ k_=>sel r_ (fun r_=>k_ 1 (Shape.inj jT.c100006x0 (x_.1,x_.2.1,r_.1,r_.2,()))) (fun r_=>k_ 2 (Shape.inj jT.c100006x1 (x_.1,x_.2.1,x_.2.2.1,r_,()))))
def jT (a:List Int) (b:List Int):Option Int:=
 br ((↑(List.length a):Int) != (↑(List.length b):Int))
 (br (decide ((↑(List.length a):Int) < (↑(List.length b):Int)))
 (some (-1:Int))
 (some (1:Int)))
 (bnd (iter (fun s↦W.jT.c100006 a b s some) (IntKind.wrap IntKind.i64 ((↑(List.length a):Int) - (1:Int)))) fun y=>
 sel y
 (fun u=>some u.1)
 (fun v=>some (0:Int)))
def jT.ce:Go.Ql.Callee:=⟨[(.sl (.int .i64)),(.sl (.int .i64))],[(.int .i64)],fun x_=>jT x_.1 x_.2⟩
def jT.G:Env:=⟨41,tab,[],[0,1,4,5,10,15,20,31,40],[],[(10,[⟨[],[],[33,36,37,38,39],[]⟩,⟨[],[],[32,36,37,38,39],[]⟩,⟨[0,1],[],[36,37,38,39],[]⟩,⟨[2,0,1],[],[36,37,38,39],[]⟩,⟨[],[],[32,33,34,35,37],[]⟩,⟨[],[],[32,33,34,35,36],[]⟩,⟨[4,5],[],[32,33,34,35],[]⟩,⟨[6,4,5],[],[32,33,34,35],[]⟩,⟨[3,2,0,1,7,6,4,5],[],[],[]⟩]),
 (8,[⟨[],[],[24,27,28,29,30],[]⟩,⟨[],[],[23,27,28,29,30],[]⟩,⟨[0,1],[],[27,28,29,30],[]⟩,⟨[2,0,1],[],[27,28,29,30],[]⟩,⟨[],[],[23,24,25,26,28],[]⟩,⟨[],[],[23,24,25,26,27],[]⟩,⟨[4,5],[],[23,24,25,26],[]⟩,⟨[6,4,5],[],[23,24,25,26],[]⟩,⟨[3,2,0,1,7,6,4,5],[],[],[]⟩])],[(100006,jT.c100006r),(10,jT.c10r),(8,jT.c8r)],[],tab_eqs⟩
theorem jT.eq (x_:dens jT.ce.params):den jT.G Try.f125 jT.ce.params jT.ce.res x_=jT.ce.F x_:=by kernel_rfl
theorem jT.p0:PcA jT.G Try.f125 0:=
 loop_ok (s:=jT.c100006r) (by kernel_rfl) (by kernel_rfl) (loops_of (sh:=jT.c100006s) (I:=fun x_ s_=>(x_.1,x_.2.1,x_.2.2.1,s_,())) (fun x_=>rfl) (fun ρ x_ s_ k_=>(nat_br (nat_bnd fun _=>(nat_br nat_leaf (nat_bnd fun _=>(nat_br nat_leaf nat_leaf)))) nat_leaf)) (fun ρ x_ t k=>(nat_sel (fun _=>(by kernel_rfl)) (fun _=>(by kernel_rfl)))) (fun x_ s=>by kernel_rfl))
theorem jT.p1:PcA jT.G Try.f125 1:=
 region_ok (s:=jT.c8r) (by kernel_rfl) (by kernel_rfl) (sums_of (sh:=jT.c8s) (fun ρ x_ k_=>(nat_bnd fun _=>(nat_bnd fun _=>nat_leaf))) (fun ρ x_ t k=>(by kernel_rfl)) (fun x_=>by kernel_rfl))
theorem jT.p2:PcA jT.G Try.f125 2:=
 region_ok (s:=jT.c10r) (by kernel_rfl) (by kernel_rfl) (sums_of (sh:=jT.c10s) (fun ρ x_ k_=>(nat_bnd fun _=>(nat_bnd fun _=>nat_leaf))) (fun ρ x_ t k=>(by kernel_rfl)) (fun x_=>by kernel_rfl))
theorem jT.ok:CalleeOk Try.prog 125 jT.ce:=fn_ok (G:=jT.G) tab_ok mixed Try.func125 ⟨fns_nil,mfns_nil,tab_eqs_ok⟩ (m:=3) (by kernel_rfl) ⟨⟨⟨trivial,jT.p0⟩,jT.p1⟩,jT.p2⟩ (by kernel_rfl) jT.eq
def jV.c228677 {ρ:Type} (b:List Int) (i:Int) (x:Int) (k_:Int→Option ρ):Option ρ:=
 br (decide (i < (↑(List.length b):Int)))
 (bnd (idx b i) fun y=>
 k_ (IntKind.wrap IntKind.i64 (x - y)))
 (k_ x)
def jV.c228677s:Shape:=⟨[(0,tb36),(1,tb36),(4,tb36),(5,tb20),(6,tb5),(7,tb5),(8,tb5)],[(5,tb50)]⟩
def jV.c228677x0:Shape:=jV.c228677s
def jV.c228677r:Ck:=Ck.of (T:=Int) jV.c228677s (fun ρ x_ k_=>jV.c228677 x_.2.1 x_.2.2.2.2.1 x_.2.2.2.2.2.1 k_) (fun ρ x_ r_ k_=>k_ 0 (Shape.inj jV.c228677x0 (x_.1,x_.2.1,x_.2.2.1,x_.2.2.2.1,x_.2.2.2.2.1,r_,x_.2.2.2.2.2.2)))
def jV.c240967 {ρ:Type} (c:Int) (x:Int) (k_:Int×Int→Option ρ):Option ρ:=
 br (decide (x < (0:Int)))
 (k_ ((1:Int),(IntKind.wrap IntKind.i64 (x+(10000:Int)))))
 (k_ (c,x))
def jV.c240967s:Shape:=jV.c228677s
def jV.c240967x0:Shape:=jV.c228677s
def jV.c240967r:Ck:=Ck.of (T:=Int×Int) jV.c240967s (fun ρ x_ k_=>jV.c240967 x_.2.2.2.1 x_.2.2.2.2.2.1 k_) (fun ρ x_ r_ k_=>k_ 0 (Shape.inj jV.c240967x0 (x_.1,x_.2.1,x_.2.2.1,r_.1,x_.2.2.2.2.1,r_.2,x_.2.2.2.2.2.2)))
def jV.c100004 {ρ:Type} (a:List Int) (b:List Int) (c:Int) (i:Int) (out:List Int) (k_:(Int×Int×(List Int))⊕(Int×Int×(List Int))→Option ρ):Option ρ:=
 br (decide (i < (↑(List.length a):Int)))
 (bnd (idx a i) fun y=>
 bnd (W.jV.c228677 b i (IntKind.wrap IntKind.i64 (y - c)) some) fun y_1=>
 bnd (W.jV.c240967 (0:Int) y_1 some) fun y_2=>
 bnd (okIf (decide ((List.length out+(1:Nat))*(8:Nat)≤(140737488355328:Nat)) && decide (List.length out+(1:Nat)≤(140737488355328:Nat)))) fun y_3=>
 k_ (.inl (y_2.1,(IntKind.wrap IntKind.i64 (i+(1:Int))),(out++[y_2.2]))))
 (k_ (.inr (c,i,out)))
def jV.c100004s:Shape:=⟨[(0,tb36),(1,tb36),(4,tb36),(5,tb20),(6,tb5),(7,tb5)],[(5,tb50)]⟩
def jV.c100004x0:Shape:=jV.c100004s
def jV.c100004r:Ck:=Ck.ofLoop (S:=Int×Int×(List Int)) (T:=Int×Int×(List Int)) jV.c100004s (fun x_=>(x_.2.2.2.1,x_.2.2.2.2.1,x_.2.2.2.2.2.1)) (fun ρ x_ s_ k_=>jV.c100004 x_.1 x_.2.1 s_.1 s_.2.1 s_.2.2 k_) (fun ρ x_ r_ k_=>k_ 2 (Shape.inj jV.c100004x0 (x_.1,x_.2.1,x_.2.2.1,r_.1,r_.2.1,r_.2.2,())))
def jV (a:List Int) (b:List Int):Option (List Int):=
 bnd (iter (fun s↦W.jV.c100004 a b s.1 s.2.1 s.2.2 some) ((0:Int),(0:Int),[])) fun y=>
 some y.2.2
def jV.ce:Go.Ql.Callee:=⟨[(.sl (.int .i64)),(.sl (.int .i64))],[(.sl (.int .i64))],fun x_=>jV x_.1 x_.2⟩
def jV.G:Env:=⟨40,tab,[],[0,1,4,5,6,7,8,12,24,32],[5],[],[(100004,jV.c100004r),(240967,jV.c240967r),(228677,jV.c228677r)],[],tab_eqs⟩
theorem jV.eq (x_:dens jV.ce.params):den jV.G Try.f126 jV.ce.params jV.ce.res x_=jV.ce.F x_:=by kernel_rfl
theorem jV.p0:PcA jV.G Try.f126 0:=
 loop_ok (s:=jV.c100004r) (by kernel_rfl) (by kernel_rfl) (loops_of (sh:=jV.c100004s) (I:=fun x_ s_=>(x_.1,x_.2.1,x_.2.2.1,s_.1,s_.2.1,s_.2.2,())) (fun x_=>rfl) (fun ρ x_ s_ k_=>(nat_br (nat_bnd fun _=>(nat_bnd fun _=>(nat_bnd fun _=>(nat_bnd fun _=>nat_leaf)))) nat_leaf)) (fun ρ x_ t k=>(by kernel_rfl)) (fun x_ s=>by kernel_rfl))
theorem jV.p1:PcA jV.G Try.f126 1:=
 join_ok (s:=jV.c228677r) (by kernel_rfl) (by kernel_rfl) (sums_of (sh:=jV.c228677s) (fun ρ x_ k_=>(nat_br (nat_bnd fun _=>nat_leaf) nat_leaf)) (fun ρ x_ t k=>(by kernel_rfl)) (fun x_=>by kernel_rfl))
theorem jV.p2:PcA jV.G Try.f126 2:=
 join_ok (s:=jV.c240967r) (by kernel_rfl) (by kernel_rfl) (sums_of (sh:=jV.c240967s) (fun ρ x_ k_=>(nat_br nat_leaf nat_leaf)) (fun ρ x_ t k=>(by kernel_rfl)) (fun x_=>by kernel_rfl))
theorem jV.ok:CalleeOk Try.prog 126 jV.ce:=fn_ok (G:=jV.G) tab_ok mixed Try.func126 ⟨fns_nil,mfns_nil,tab_eqs_ok⟩ (m:=3) (by kernel_rfl) ⟨⟨⟨trivial,jV.p0⟩,jV.p1⟩,jV.p2⟩ (by kernel_rfl) jV.eq
def jW.c6 {ρ:Type} (a0:Bool) (a1:List Int) (b1:List Int) (k_:(Bool)×(List Int)→Option ρ):Option ρ:=
 bnd (W.jL a1 b1) fun y=>
 bnd (W.jS a0 y) fun y_1=>
 k_ (y_1.1,y_1.2)
def jW.c6s:Shape:=⟨[(0,tb102),(1,tb102),(2,tb2),(3,tb12),(4,tb6)],[(2,tb98),(3,tb98),(4,tb98)]⟩
def jW.c6x0:Shape:=jW.c6s
def jW.c6r:Ck:=Ck.of (T:=(Bool)×(List Int)) jW.c6s (fun ρ x_ k_=>jW.c6 x_.2.2.1 x_.2.2.2.1 x_.2.2.2.2.2.1 k_) (fun ρ x_ r_ k_=>k_ 0 (Shape.inj jW.c6x0 (x_.1,x_.2.1,x_.2.2.1,x_.2.2.2.1,x_.2.2.2.2.1,x_.2.2.2.2.2.1,r_.1,r_.2,())))
def jW.c8 {ρ:Type} (a0:Bool) (a1:List Int) (b1:List Int) (k_:(Bool)×(List Int)→Option ρ):Option ρ:=
 bnd (W.jV a1 b1) fun y=>
 bnd (W.jS a0 y) fun y_1=>
 k_ (y_1.1,y_1.2)
def jW.c8s:Shape:=jW.c6s
def jW.c8x0:Shape:=jW.c6s
def jW.c8r:Ck:=Ck.of (T:=(Bool)×(List Int)) jW.c8s (fun ρ x_ k_=>jW.c8 x_.2.2.1 x_.2.2.2.1 x_.2.2.2.2.2.1 k_) (fun ρ x_ r_ k_=>k_ 0 (Shape.inj jW.c8x0 (x_.1,x_.2.1,x_.2.2.1,x_.2.2.2.1,x_.2.2.2.2.1,x_.2.2.2.2.2.1,r_.1,r_.2,())))
def jW.c9 {ρ:Type} (a1:List Int) (b0:Bool) (b1:List Int) (k_:(Bool)×(List Int)→Option ρ):Option ρ:=
 bnd (W.jV b1 a1) fun y=>
 bnd (W.jS b0 y) fun y_1=>
 k_ (y_1.1,y_1.2)
def jW.c9s:Shape:=jW.c6s
def jW.c9x0:Shape:=jW.c6s
def jW.c9r:Ck:=Ck.of (T:=(Bool)×(List Int)) jW.c9s (fun ρ x_ k_=>jW.c9 x_.2.2.2.1 x_.2.2.2.2.1 x_.2.2.2.2.2.1 k_) (fun ρ x_ r_ k_=>k_ 0 (Shape.inj jW.c9x0 (x_.1,x_.2.1,x_.2.2.1,x_.2.2.2.1,x_.2.2.2.2.1,x_.2.2.2.2.2.1,r_.1,r_.2,())))
def jW (a:(Bool)×(List Int)) (b:(Bool)×(List Int)):Option ((Bool)×(List Int)):=
 br ((↑(List.length a.2):Int) == (0:Int))
 (some (b.1,b.2))
 (br ((↑(List.length b.2):Int) == (0:Int))
 (some (a.1,a.2))
 (br (a.1 == b.1)
 (bnd (W.jW.c6 a.1 a.2 b.2 some) fun y=>
 some (y.1,y.2))
 (bnd (W.jT a.2 b.2) fun y_1=>
 br (decide (y_1≥(0:Int)))
 (bnd (W.jW.c8 a.1 a.2 b.2 some) fun y_2=>
 some (y_2.1,y_2.2))
 (bnd (W.jW.c9 a.2 b.1 b.2 some) fun y_3=>
 some (y_3.1,y_3.2)))))
def jW.ce:Go.Ql.Callee:=⟨[(.st (.pair .bool (.sl (.int .i64)))),(.st (.pair .bool (.sl (.int .i64))))],[(.st (.pair .bool (.sl (.int .i64))))],fun x_=>jW x_.1 x_.2⟩
def jW.G:Env:=⟨50,tab,[(124,jL.ce),(95,jS.ce),(125,jT.ce),(126,jV.ce)],[0,1,2,3,4,8,13,19,33],[],[(9,[⟨[],[],[44,45,46,47,48],[]⟩,⟨[0],[],[44,45,46,47,48],[]⟩,⟨[],[],[42,43,46,47],[]⟩,⟨[2],[],[42,43,46,47],[]⟩,⟨[],[],[42,43,44,45],[]⟩,⟨[4],[],[42,43,44,45],[]⟩,⟨[3,2,5,4],[],[42,43],[]⟩,⟨[1,0,6,3,2,5,4],[],[],[]⟩,⟨[7,1,0,6,3,2,5,4],[4],[],[]⟩]),
 (8,[⟨[],[],[36,37,38,39,40],[]⟩,⟨[0],[],[36,37,38,39,40],[]⟩,⟨[],[],[34,35,38,39],[]⟩,⟨[2],[],[34,35,38,39],[]⟩,⟨[],[],[34,35,36,37],[]⟩,⟨[4],[],[34,35,36,37],[]⟩,⟨[3,2,5,4],[],[34,35],[]⟩,⟨[1,0,6,3,2,5,4],[],[],[]⟩,⟨[7,1,0,6,3,2,5,4],[4],[],[]⟩]),
 (6,[⟨[],[],[22,23,24,25,26],[]⟩,⟨[0],[],[22,23,24,25,26],[]⟩,⟨[],[],[20,21,24,25],[]⟩,⟨[2],[],[20,21,24,25],[]⟩,⟨[],[],[20,21,22,23],[]⟩,⟨[4],[],[20,21,22,23],[]⟩,⟨[3,2,5,4],[],[20,21],[]⟩,⟨[1,0,6,3,2,5,4],[],[],[]⟩,⟨[7,1,0,6,3,2,5,4],[4],[],[]⟩])],[(9,jW.c9r),(8,jW.c8r),(6,jW.c6r)],[],tab_eqs⟩
theorem jW.eq (x_:dens jW.ce.params):den jW.G Try.f97 jW.ce.params jW.ce.res x_=jW.ce.F x_:=by kernel_rfl
theorem jW.p0:PcA jW.G Try.f97 0:=
 region_ok (s:=jW.c6r) (by kernel_rfl) (by kernel_rfl) (sums_of (sh:=jW.c6s) (fun ρ x_ k_=>(nat_bnd fun _=>(nat_bnd fun _=>nat_leaf))) (fun ρ x_ t k=>(by kernel_rfl)) (fun x_=>by kernel_rfl))
theorem jW.p1:PcA jW.G Try.f97 1:=
 region_ok (s:=jW.c8r) (by kernel_rfl) (by kernel_rfl) (sums_of (sh:=jW.c8s) (fun ρ x_ k_=>(nat_bnd fun _=>(nat_bnd fun _=>nat_leaf))) (fun ρ x_ t k=>(by kernel_rfl)) (fun x_=>by kernel_rfl))
theorem jW.p2:PcA jW.G Try.f97 2:=
 region_ok (s:=jW.c9r) (by kernel_rfl) (by kernel_rfl) (sums_of (sh:=jW.c9s) (fun ρ x_ k_=>(nat_bnd fun _=>(nat_bnd fun _=>nat_leaf))) (fun ρ x_ t k=>(by kernel_rfl)) (fun x_=>by kernel_rfl))
theorem jW.ok:CalleeOk Try.prog 97 jW.ce:=fn_ok (G:=jW.G) tab_ok mixed Try.func97 ⟨(fns_cons jL.ok (fns_cons jS.ok (fns_cons jT.ok (fns_cons jV.ok fns_nil)))),mfns_nil,tab_eqs_ok⟩ (m:=3) (by kernel_rfl) ⟨⟨⟨trivial,jW.p0⟩,jW.p1⟩,jW.p2⟩ (by kernel_rfl) jW.eq
def Jy.c1 {ρ:Type} (a1:List Int) (k_:Bool→Option ρ):Option ρ:=
 br (decide ((↑(List.length a1):Int) > (0:Int)))
 (bnd (idx a1 (0:Int)) fun y=>
 k_ (Int.tmod y (2:Int) == (1:Int)))
 (k_ false)
def Jy.c1s:Shape:=⟨[(0,tb102),(1,tb1),(2,tb7)],[(1,tb98)]⟩
def Jy.c1x0:Shape:=Jy.c1s
def Jy.c1r:Ck:=Ck.of (T:=Bool) Jy.c1s (fun ρ x_ k_=>Jy.c1 x_.2.2.2.1 k_) (fun ρ x_ r_ k_=>k_ 0 (Shape.inj Jy.c1x0 (x_.1,r_,x_.2.2)))
def Jy (a:(Bool)×(List Int)):Option (Bool):=
 bnd (W.Jy.c1 a.2 some) fun y=>
 some y
def Jy.ce:Go.Ql.Callee:=⟨[(.st (.pair .bool (.sl (.int .i64))))],[.bool],fun x_=>Jy x_⟩
def Jy.G:Env:=⟨15,tab,[],[0,1,2],[],[],[(1,Jy.c1r)],[],tab_eqs⟩
theorem Jy.eq (x_:dens Jy.ce.params):den Jy.G Try.f127 Jy.ce.params Jy.ce.res x_=Jy.ce.F x_:=by kernel_rfl
theorem Jy.p0:PcA Jy.G Try.f127 0:=
 region_ok (s:=Jy.c1r) (by kernel_rfl) (by kernel_rfl) (sums_of (sh:=Jy.c1s) (fun ρ x_ k_=>(nat_br (nat_bnd fun _=>nat_leaf) nat_leaf)) (fun ρ x_ t k=>(by kernel_rfl)) (fun x_=>by kernel_rfl))
theorem Jy.ok:CalleeOk Try.prog 127 Jy.ce:=fn_ok (G:=Jy.G) tab_ok mixed Try.func127 ⟨fns_nil,mfns_nil,tab_eqs_ok⟩ (m:=1) (by kernel_rfl) ⟨trivial,Jy.p0⟩ (by kernel_rfl) Jy.eq
def Jr.c100004 {ρ:Type} (c:Int) (i:Int) (a1:List Int) (t10:List Int) (k_:(Int×Int×(List Int))⊕(Int×Int×(List Int))→Option ρ):Option ρ:=
 br (decide (i≥(0:Int)))
 (bnd (idx a1 i) fun y=>
 bnd (inR (List.length t10) i) fun y_1=>
 bnd (idx t10 i) fun y_2=>
 k_ (.inl ((Int.tmod (IntKind.wrap IntKind.i64 (IntKind.wrap IntKind.i64 (c*(10000:Int))+y)) (2:Int)),(IntKind.wrap IntKind.i64 (i - (1:Int))),(List.set t10 (Int.toNat i) (IntKind.wrap IntKind.i64 (Int.tdiv (IntKind.wrap IntKind.i64 (IntKind.wrap IntKind.i64 (c*(10000:Int))+y)) (2:Int)))))))
 (k_ (.inr (c,i,t10)))
def Jr.c100004s:Shape:=⟨[(0,tb102),(1,tb1),(2,tb2),(3,tb7),(4,tb49),(5,tb5),(6,tb5)],[(1,tb98),(2,tb98),(10,tb50)]⟩
def Jr.c100004x0:Shape:=Jr.c100004s
def Jr.c100004r:Ck:=Ck.ofLoop (S:=Int×Int×(List Int)) (T:=Int×Int×(List Int)) Jr.c100004s (fun x_=>(x_.2.2.1,x_.2.2.2.1,x_.2.2.2.2.2.2.2.2.1)) (fun ρ x_ s_ k_=>Jr.c100004 s_.1 s_.2.1 x_.2.2.2.2.2.1 s_.2.2 k_) (fun ρ x_ r_ k_=>k_ 2 (Shape.inj Jr.c100004x0 (x_.1,x_.2.1,r_.1,r_.2.1,x_.2.2.2.2.1,x_.2.2.2.2.2.1,x_.2.2.2.2.2.2.1,x_.2.2.2.2.2.2.2.1,r_.2.2,())))
def Jr (a:(Bool)×(List Int)):Option (((Bool)×(List Int))×(Bool)):=
 bnd (okIf (decide ((0:Int)≤(↑(List.length a.2):Int)) && decide ((↑(List.length a.2):Int)≤(↑(List.length a.2):Int)) && decide ((↑(List.length a.2):Int)*(↑(8:Nat):Int)≤(140737488355328:Int)) && decide ((↑(List.length a.2):Int)≤(140737488355328:Int)))) fun y=>
 bnd (iter (fun s↦W.Jr.c100004 s.1 s.2.1 a.2 s.2.2 some) ((0:Int),IntKind.wrap IntKind.i64 ((↑(List.length a.2):Int) - (1:Int)),List.replicate (Int.toNat (↑(List.length a.2):Int)) (0:Int))) fun y_1=>
 bnd (W.jS a.1 y_1.2.2) fun y_2=>
 some ((y_2.1,y_2.2),decide (y_1.1 > (0:Int)))
def Jr.ce:Go.Ql.Callee:=⟨[(.st (.pair .bool (.sl (.int .i64))))],[(.st (.pair .bool (.sl (.int .i64)))),.bool],fun x_=>Jr x_⟩
def Jr.G:Env:=⟨40,tab,[(95,jS.ce)],[0,1,2,3,4,5,6,16],[10],[],[(100004,Jr.c100004r)],[],tab_eqs⟩
theorem Jr.eq (x_:dens Jr.ce.params):den Jr.G Try.f128 Jr.ce.params Jr.ce.res x_=Jr.ce.F x_:=by kernel_rfl
theorem Jr.p0:PcA Jr.G Try.f128 0:=
 loop_ok (s:=Jr.c100004r) (by kernel_rfl) (by kernel_rfl) (loops_of (sh:=Jr.c100004s) (I:=fun x_ s_=>(x_.1,x_.2.1,s_.1,s_.2.1,x_.2.2.2.2.1,x_.2.2.2.2.2.1,x_.2.2.2.2.2.2.1,x_.2.2.2.2.2.2.2.1,s_.2.2,())) (fun x_=>rfl) (fun ρ x_ s_ k_=>(nat_br (nat_bnd fun _=>(nat_bnd fun _=>(nat_bnd fun _=>nat_leaf))) nat_leaf)) (fun ρ x_ t k=>(by kernel_rfl)) (fun x_ s=>by kernel_rfl))
theorem Jr.ok:CalleeOk Try.prog 128 Jr.ce:=fn_ok (G:=Jr.G) tab_ok mixed Try.func128 ⟨(fns_cons jS.ok fns_nil),mfns_nil,tab_eqs_ok⟩ (m:=1) (by kernel_rfl) ⟨trivial,Jr.p0⟩ (by kernel_rfl) Jr.eq
abbrev tb107:SD:=.one (.aptr 1 0)
def jB.c100003 {ρ:Type} (i:Int) (a_1:List ((List ((Bool)×(List Int)))×Int)) (t2:List ((List ((Bool)×(List Int)))×Int)) (k_:Int⊕((Int×(List ((List ((Bool)×(List Int)))×Int)))⊕Int)→Option ρ):Option ρ:=
 br (decide (i < (8:Int)))
 (bnd (inR (List.length a_1) (0:Int)) fun y=>
 bnd (okIf (decide ((0:Ty.den (Ty.int IntKind.i64))≤i) && decide (i < (↑(8:Nat):Int)))) fun y_1=>
 bnd (idx a_1 (0:Int)) fun y_2=>
 bnd (idx y_2.1 i) fun y_3=>
 bnd (W.Jy y_3) fun y_4=>
 br y_4
 (bnd (idx a_1 (0:Int)) fun y_5=>
 bnd (idx t2 (0:Int)) fun y_6=>
 k_ (.inr (.inl (i,(List.set t2 (0:Nat) y_5)))))
 (k_ (.inl (IntKind.wrap IntKind.i64 (i+(1:Int))))))
 (k_ (.inr (.inr i)))
def jB.c100003s:Shape:=⟨[(0,tb100),(1,tb107),(2,tb104),(3,tb5)],[(1,tb106),(2,tb106)]⟩
def jB.c100003x0:Shape:=jB.c100003s
def jB.c100003x1:Shape:=jB.c100003s
def jB.c100003r:Ck:=Ck.ofLoop (S:=Int) (T:=(Int×(List ((List ((Bool)×(List Int)))×Int)))⊕Int) jB.c100003s (fun x_=>x_.2.1) (fun ρ x_ s_ k_=>jB.c100003 s_ x_.2.2.1 x_.2.2.2.1 k_) (fun ρ x_ r_ k_=>sel r_ (fun r_=>k_ 1 (Shape.inj jB.c100003x0 (x_.1,r_.1,x_.2.2.1,r_.2,()))) (fun r_=>k_ 4 (Shape.inj jB.c100003x1 (x_.1,r_,x_.2.2))))
def jB.c100008 {ρ:Type} (i_1:Int) (a_1:List ((List ((Bool)×(List Int)))×Int)) (k_:(Int×(List ((List ((Bool)×(List Int)))×Int)))⊕(Int×(List ((List ((Bool)×(List Int)))×Int)))→Option ρ):Option ρ:=
 br (decide (i_1 < (8:Int)))
 (bnd (inR (List.length a_1) (0:Int)) fun y=>
 bnd (okIf (decide ((0:Ty.den (Ty.int IntKind.i64))≤i_1) && decide (i_1 < (↑(8:Nat):Int)))) fun y_1=>
 bnd (idx a_1 (0:Int)) fun y_2=>
 bnd (idx y_2.1 i_1) fun y_3=>
 bnd (W.Jr y_3) fun y_4=>
 bnd (inR (List.length a_1) (0:Int)) fun y_5=>
 bnd (okIf (decide ((0:Ty.den (Ty.int IntKind.i64))≤i_1) && decide (i_1 < (↑(8:Nat):Int)))) fun y_6=>
 bnd (idx a_1 (0:Int)) fun y_7=>
 bnd (idx y_7.1 i_1) fun y_8=>
 k_ (.inl ((IntKind.wrap IntKind.i64 (i_1+(1:Int))),(List.set a_1 (0:Nat) (List.set y_7.1 (Int.toNat i_1) y_4.1,y_7.2)))))
 (k_ (.inr (i_1,a_1)))
def jB.c100008s:Shape:=⟨[(0,tb100),(1,tb107),(2,tb104),(3,tb5),(4,tb5)],[(1,tb106),(2,tb106)]⟩
def jB.c100008x0:Shape:=jB.c100008s
def jB.c100008r:Ck:=Ck.ofLoop (S:=Int×(List ((List ((Bool)×(List Int)))×Int))) (T:=Int×(List ((List ((Bool)×(List Int)))×Int))) jB.c100008s (fun x_=>(x_.2.2.1,x_.2.2.2.1)) (fun ρ x_ s_ k_=>jB.c100008 s_.1 s_.2 k_) (fun ρ x_ r_ k_=>k_ 6 (Shape.inj jB.c100008x0 (x_.1,x_.2.1,r_.1,r_.2,x_.2.2.2.2)))
def jB.c100001 {ρ:Type} (a_1:List ((List ((Bool)×(List Int)))×Int)) (t2:List ((List ((Bool)×(List Int)))×Int)) (k_:(List ((List ((Bool)×(List Int)))×Int))⊕(((List ((List ((Bool)×(List Int)))×Int))×(List ((List ((Bool)×(List Int)))×Int)))⊕(List ((List ((Bool)×(List Int)))×Int)))→Option ρ):Option ρ:=
 bnd (inR (List.length a_1) (0:Int)) fun y=>
 bnd (idx a_1 (0:Int)) fun y_1=>
 br (decide (y_1.2 > (0:Int)))
 (bnd (iter (fun s↦W.jB.c100003 s a_1 t2 some) (0:Int)) fun y_2=>
 sel y_2
 (fun u=>k_ (.inr (.inl (a_1,u.2))))
 (fun v=>bnd (iter (fun s↦W.jB.c100008 s.1 s.2 some) ((0:Int),a_1)) fun y_3=>
 bnd (idx y_3.2 (0:Int)) fun y_4=>
 bnd (W.Jc y_4) fun y_5=>
 br y_5
 (bnd (idx t2 (0:Int)) fun y_6=>
 k_ (.inr (.inl (y_3.2,(List.set t2 (0:Nat) (List.replicate (8:Nat) (false,[]),(0:Int)))))))
 (bnd (inR (List.length y_3.2) (0:Int)) fun y_7=>
 bnd (idx y_3.2 (0:Int)) fun y_8=>
 bnd (inR (List.length y_3.2) (0:Int)) fun y_9=>
 bnd (idx y_3.2 (0:Int)) fun y_10=>
 k_ (.inl (List.set y_3.2 (0:Nat) (y_10.1,IntKind.wrap IntKind.i64 (y_8.2 - (1:Int))))))))
 (k_ (.inr (.inr a_1)))
def jB.c100001s:Shape:=⟨[(0,tb100),(1,tb107),(2,tb104)],[(1,tb106),(2,tb106)]⟩
def jB.c100001x0:Shape:=jB.c100001s
def jB.c100001x1:Shape:=jB.c100001s
def jB.c100001r:Ck:=Ck.ofLoop (S:=List ((List ((Bool)×(List Int)))×Int)) (T:=((List ((List ((Bool)×(List Int)))×Int))×(List ((List ((Bool)×(List Int)))×Int)))⊕(List ((List ((Bool)×(List Int)))×Int))) jB.c100001s (fun x_=>x_.2.1) (fun ρ x_ s_ k_=>jB.c100001 s_ x_.2.2.1 k_) (fun ρ x_ r_ k_=>sel r_ (fun r_=>k_ 1 (Shape.inj jB.c100001x0 (x_.1,r_.1,r_.2,()))) (fun r_=>k_ 2 (Shape.inj jB.c100001x1 (x_.1,r_,x_.2.2))))
def jB (a:(List ((Bool)×(List Int)))×Int):Option ((List ((Bool)×(List Int)))×Int):=
 bnd (iter (fun s↦W.jB.c100001 s [(List.replicate (8:Nat) (false,[]),(0:Int))] some) [a]) fun y=>
 sel y
 (fun u=>bnd (idx u.2 (0:Int)) fun y_1=>
 some y_1)
 (fun v=>bnd (idx v (0:Int)) fun y_2=>
 some y_2)
def jB.ce:Go.Ql.Callee:=⟨[(.st (.pair (.ar 8 (.st (.pair .bool (.sl (.int .i64))))) (.int .i64)))],[(.st (.pair (.ar 8 (.st (.pair .bool (.sl (.int .i64))))) (.int .i64)))],fun x_=>jB x_⟩
def jB.G:Env:=⟨41,tab,[(127,Jy.ce),(128,Jr.ce),(48,Jc.ce)],[0,1,2,3,4,7,9,16,19,34],[1,2,35],[],[(100001,jB.c100001r),(100008,jB.c100008r),(100003,jB.c100003r)],[],tab_eqs⟩
theorem jB.eq (x_:dens jB.ce.params):den jB.G Try.f98 jB.ce.params jB.ce.res x_=jB.ce.F x_:=by kernel_rfl
theorem jB.p0:PcA jB.G Try.f98 0:=
 loop_ok (s:=jB.c100001r) (by kernel_rfl) (by kernel_rfl) (loops_of (sh:=jB.c100001s) (I:=fun x_ s_=>(x_.1,s_,x_.2.2)) (fun x_=>rfl) (fun ρ x_ s_ k_=>(nat_bnd fun _=>(nat_bnd fun _=>(nat_br (nat_bnd fun _=>(nat_sel (fun _=>nat_leaf) (fun _=>(nat_bnd fun _=>(nat_bnd fun _=>(nat_bnd fun _=>(nat_br (nat_bnd fun _=>nat_leaf) (nat_bnd fun _=>(nat_bnd fun _=>(nat_bnd fun _=>(nat_bnd fun _=>nat_leaf))))))))))) nat_leaf)))) (fun ρ x_ t k=>(nat_sel (fun _=>(by kernel_rfl)) (fun _=>(by kernel_rfl)))) (fun x_ s=>by kernel_rfl))
theorem jB.p1:PcA jB.G Try.f98 1:=
 loop_ok (s:=jB.c100003r) (by kernel_rfl) (by kernel_rfl) (loops_of (sh:=jB.c100003s) (I:=fun x_ s_=>(x_.1,s_,x_.2.2)) (fun x_=>rfl) (fun ρ x_ s_ k_=>(nat_br (nat_bnd fun _=>(nat_bnd fun _=>(nat_bnd fun _=>(nat_bnd fun _=>(nat_bnd fun _=>(nat_br (nat_bnd fun _=>(nat_bnd fun _=>nat_leaf)) nat_leaf)))))) nat_leaf)) (fun ρ x_ t k=>(nat_sel (fun _=>(by kernel_rfl)) (fun _=>(by kernel_rfl)))) (fun x_ s=>by kernel_rfl))
theorem jB.p2:PcA jB.G Try.f98 2:=
 loop_ok (s:=jB.c100008r) (by kernel_rfl) (by kernel_rfl) (loops_of (sh:=jB.c100008s) (I:=fun x_ s_=>(x_.1,x_.2.1,s_.1,s_.2,x_.2.2.2.2)) (fun x_=>rfl) (fun ρ x_ s_ k_=>(nat_br (nat_bnd fun _=>(nat_bnd fun _=>(nat_bnd fun _=>(nat_bnd fun _=>(nat_bnd fun _=>(nat_bnd fun _=>(nat_bnd fun _=>(nat_bnd fun _=>(nat_bnd fun _=>nat_leaf))))))))) nat_leaf)) (fun ρ x_ t k=>(by kernel_rfl)) (fun x_ s=>by kernel_rfl))
theorem jB.ok:CalleeOk Try.prog 98 jB.ce:=fn_ok (G:=jB.G) tab_ok mixed Try.func98 ⟨(fns_cons Jy.ok (fns_cons Jr.ok (fns_cons Jc.ok fns_nil))),mfns_nil,tab_eqs_ok⟩ (m:=3) (by kernel_rfl) ⟨⟨⟨trivial,jB.p0⟩,jB.p1⟩,jB.p2⟩ (by kernel_rfl) jB.eq
abbrev tb108:SD:=.one (.aptr 3 0)
def Jb.c10 {ρ:Type} (i:Int) (a_1:List ((List ((Bool)×(List Int)))×Int)) (b_1:List ((List ((Bool)×(List Int)))×Int)) (k_:List ((List ((Bool)×(List Int)))×Int)→Option ρ):Option ρ:=
 bnd (inR (List.length a_1) (0:Int)) fun y=>
 bnd (okIf (decide ((0:Ty.den (Ty.int IntKind.i64))≤i) && decide (i < (↑(8:Nat):Int)))) fun y_1=>
 bnd (idx a_1 (0:Int)) fun y_2=>
 bnd (idx y_2.1 i) fun y_3=>
 bnd (inR (List.length b_1) (0:Int)) fun y_4=>
 bnd (okIf (decide ((0:Ty.den (Ty.int IntKind.i64))≤i) && decide (i < (↑(8:Nat):Int)))) fun y_5=>
 bnd (idx b_1 (0:Int)) fun y_6=>
 bnd (idx y_6.1 i) fun y_7=>
 bnd (W.jW y_3 y_7) fun y_8=>
 bnd (inR (List.length a_1) (0:Int)) fun y_9=>
 bnd (okIf (decide ((0:Ty.den (Ty.int IntKind.i64))≤i) && decide (i < (↑(8:Nat):Int)))) fun y_10=>
 bnd (idx a_1 (0:Int)) fun y_11=>
 bnd (idx y_11.1 i) fun y_12=>
 k_ (List.set a_1 (0:Nat) (List.set y_11.1 (Int.toNat i) y_8,y_11.2))
def Jb.c10s:Shape:=⟨[(0,tb100),(1,tb100),(2,tb104),(3,tb108),(4,tb105),(5,tb5)],[(2,tb106),(3,tb106),(4,tb106)]⟩
def Jb.c10x0:Shape:=Jb.c10s
def Jb.c10r:Ck:=Ck.of (T:=List ((List ((Bool)×(List Int)))×Int)) Jb.c10s (fun ρ x_ k_=>Jb.c10 x_.2.2.1 x_.2.2.2.1 x_.2.2.2.2.1 k_) (fun ρ x_ r_ k_=>k_ 0 (Shape.inj Jb.c10x0 (x_.1,x_.2.1,x_.2.2.1,r_,x_.2.2.2.2)))
def Jb.c100008 {ρ:Type} (i:Int) (a_1:List ((List ((Bool)×(List Int)))×Int)) (b_1:List ((List ((Bool)×(List Int)))×Int)) (k_:(Int×(List ((List ((Bool)×(List Int)))×Int)))⊕(Int×(List ((List ((Bool)×(List Int)))×Int)))→Option ρ):Option ρ:=
 br (decide (i < (8:Int)))
 (bnd (W.Jb.c10 i a_1 b_1 some) fun y=>
 k_ (.inl ((IntKind.wrap IntKind.i64 (i+(1:Int))),y)))
 (k_ (.inr (i,a_1)))
def Jb.c100008s:Shape:=Jb.c10s
def Jb.c100008x0:Shape:=Jb.c10s
def Jb.c100008r:Ck:=Ck.ofLoop (S:=Int×(List ((List ((Bool)×(List Int)))×Int))) (T:=Int×(List ((List ((Bool)×(List Int)))×Int))) Jb.c100008s (fun x_=>(x_.2.2.1,x_.2.2.2.1)) (fun ρ x_ s_ k_=>Jb.c100008 s_.1 s_.2 x_.2.2.2.2.1 k_) (fun ρ x_ r_ k_=>k_ 2 (Shape.inj Jb.c100008x0 (x_.1,x_.2.1,r_.1,r_.2,x_.2.2.2.2)))
def Jb (a:(List ((Bool)×(List Int)))×Int) (b:(List ((Bool)×(List Int)))×Int):Option ((List ((Bool)×(List Int)))×Int):=
 bnd (W.Jc a) fun y=>
 br y
 (some b)
 (bnd (W.Jc b) fun y_1=>
 br y_1
 (some a)
 (bnd (W.Jd a b.2) fun y_2=>
 bnd (W.Jd b y_2.2) fun y_3=>
 bnd (iter (fun s↦W.Jb.c100008 s.1 s.2 [y_3] some) ((0:Int),[y_2])) fun y_4=>
 bnd (idx y_4.2 (0:Int)) fun y_5=>
 bnd (W.Jc y_5) fun y_6=>
 br y_6
 (some (List.replicate (8:Nat) (false,[]),(0:Int)))
 (bnd (idx y_4.2 (0:Int)) fun y_7=>
 bnd (W.jB y_7) fun y_8=>
 some y_8)))
def Jb.ce:Go.Ql.Callee:=⟨[(.st (.pair (.ar 8 (.st (.pair .bool (.sl (.int .i64))))) (.int .i64))),(.st (.pair (.ar 8 (.st (.pair .bool (.sl (.int .i64))))) (.int .i64)))],[(.st (.pair (.ar 8 (.st (.pair .bool (.sl (.int .i64))))) (.int .i64)))],fun x_=>Jb x_.1 x_.2⟩
def Jb.G:Env:=⟨41,tab,[(48,Jc.ce),(96,Jd.ce),(97,jW.ce),(98,jB.ce)],[0,1,2,3,4,5,7,10,21,37],[2,3,4,38],[(10,[⟨[],[],[25,26,27,28,29,30,31,32,33,34],[]⟩,⟨[],[],[24,26,29,30,31,32,34],[]⟩,⟨[],[],[24,25,29,30,31,32,34],[]⟩,⟨[2,1],[],[24,29,30,31,32,34],[]⟩,⟨[3,2,1],[],[24,29,30,31,32,34],[]⟩,⟨[],[],[24,25,26,27,28,30,34],[]⟩,⟨[],[],[24,25,26,27,28,29,34],[]⟩,⟨[6,5],[],[24,25,26,27,28,34],[]⟩,⟨[7,6,5],[],[24,25,26,27,28,34],[]⟩,⟨[4,3,2,1,8,7,6,5],[],[24,34],[]⟩,⟨[],[],[24,25,26,27,28,29,30,31,32,33],[]⟩,⟨[10,0,1,2,3,4,5,6,7,8,9],[],[],[]⟩,⟨[11,10,0,1,2,3,4,5,6,7,8,9],[2],[],[]⟩])],[(100008,Jb.c100008r),(10,Jb.c10r)],[],tab_eqs⟩
theorem Jb.eq (x_:dens Jb.ce.params):den Jb.G Try.f62 Jb.ce.params Jb.ce.res x_=Jb.ce.F x_:=by kernel_rfl
theorem Jb.p0:PcA Jb.G Try.f62 0:=
 loop_ok (s:=Jb.c100008r) (by kernel_rfl) (by kernel_rfl) (loops_of (sh:=Jb.c100008s) (I:=fun x_ s_=>(x_.1,x_.2.1,s_.1,s_.2,x_.2.2.2.2)) (fun x_=>rfl) (fun ρ x_ s_ k_=>(nat_br (nat_bnd fun _=>nat_leaf) nat_leaf)) (fun ρ x_ t k=>(by kernel_rfl)) (fun x_ s=>by kernel_rfl))
theorem Jb.p1:PcA Jb.G Try.f62 1:=
 region_ok (s:=Jb.c10r) (by kernel_rfl) (by kernel_rfl) (sums_of (sh:=Jb.c10s) (fun ρ x_ k_=>(nat_bnd fun _=>(nat_bnd fun _=>(nat_bnd fun _=>(nat_bnd fun _=>(nat_bnd fun _=>(nat_bnd fun _=>(nat_bnd fun _=>(nat_bnd fun _=>(nat_bnd fun _=>(nat_bnd fun _=>(nat_bnd fun _=>(nat_bnd fun _=>(nat_bnd fun _=>nat_leaf)))))))))))))) (fun ρ x_ t k=>(by kernel_rfl)) (fun x_=>by kernel_rfl))
theorem Jb.ok:CalleeOk Try.prog 62 Jb.ce:=fn_ok (G:=Jb.G) tab_ok mixed Try.func62 ⟨(fns_cons Jc.ok (fns_cons Jd.ok (fns_cons jW.ok (fns_cons jB.ok fns_nil)))),mfns_nil,tab_eqs_ok⟩ (m:=2) (by kernel_rfl) ⟨⟨trivial,Jb.p0⟩,Jb.p1⟩ (by kernel_rfl) Jb.eq
def JE (a:(Bool)×(List Int)):Option ((Bool)×(List Int)):=
 bnd (W.jS (!a.1) a.2) fun y=>
 some (y.1,y.2)
def JE.ce:Go.Ql.Callee:=⟨[(.st (.pair .bool (.sl (.int .i64))))],[(.st (.pair .bool (.sl (.int .i64))))],fun x_=>JE x_⟩
def JE.G:Env:=⟨9,tab,[(95,jS.ce)],[0,1,2],[],[],[],[],tab_eqs⟩
theorem JE.eq (x_:dens JE.ce.params):den JE.G Try.f99 JE.ce.params JE.ce.res x_=JE.ce.F x_:=by kernel_rfl
theorem JE.ok:CalleeOk Try.prog 99 JE.ce:=fn_ok (G:=JE.G) tab_ok mixed Try.func99 ⟨(fns_cons jS.ok fns_nil),mfns_nil,tab_eqs_ok⟩ (m:=0) (by kernel_rfl) trivial (by kernel_rfl) JE.eq
def jJ.c208197 {ρ:Type} (t1:Int) (k_:Int→Option ρ):Option ρ:=
 br (decide (t1 < (0:Int)))
 (k_ (IntKind.wrap IntKind.i64 (t1+(16:Int))))
 (k_ t1)
def jJ.c208197s:Shape:=⟨[(0,tb100),(1,tb5),(2,tb101),(4,tb105)],[(4,tb106)]⟩
def jJ.c208197x0:Shape:=jJ.c208197s
def jJ.c208197r:Ck:=Ck.of (T:=Int) jJ.c208197s (fun ρ x_ k_=>jJ.c208197 x_.2.1 k_) (fun ρ x_ r_ k_=>k_ 0 (Shape.inj jJ.c208197x0 (x_.1,r_,x_.2.2)))
def jJ.c236872 {ρ:Type} (t1:Int) (a_1:(List ((Bool)×(List Int)))×Int) (i:Int) (out:List ((List ((Bool)×(List Int)))×Int)) (k_:List ((List ((Bool)×(List Int)))×Int)→Option ρ):Option ρ:=
 br (decide (Int.tmod (IntKind.wrap IntKind.i64 (i+t1)) (16:Int) < (8:Int)))
 (bnd (idx a_1.1 i) fun y=>
 bnd (inR (List.length out) (0:Int)) fun y_1=>
 bnd (okIf (decide ((0:Ty.den (Ty.int IntKind.i64))≤Int.tmod (IntKind.wrap IntKind.i64 (i+t1)) (16:Int)) && decide (Int.tmod (IntKind.wrap IntKind.i64 (i+t1)) (16:Int) < (↑(8:Nat):Int)))) fun y_2=>
 bnd (idx out (0:Int)) fun y_3=>
 bnd (idx y_3.1 (Int.tmod (IntKind.wrap IntKind.i64 (i+t1)) (16:Int))) fun y_4=>
 k_ (List.set out (0:Nat) (List.set y_3.1 (Int.toNat (Int.tmod (IntKind.wrap IntKind.i64 (i+t1)) (16:Int))) y,y_3.2)))
 (bnd (idx a_1.1 i) fun y_5=>
 bnd (W.JE y_5) fun y_6=>
 bnd (inR (List.length out) (0:Int)) fun y_7=>
 bnd (okIf (decide ((0:Ty.den (Ty.int IntKind.i64))≤IntKind.wrap IntKind.i64 (Int.tmod (IntKind.wrap IntKind.i64 (i+t1)) (16:Int) - (8:Int))) && decide (IntKind.wrap IntKind.i64 (Int.tmod (IntKind.wrap IntKind.i64 (i+t1)) (16:Int) - (8:Int)) < (↑(8:Nat):Int)))) fun y_8=>
 bnd (idx out (0:Int)) fun y_9=>
 bnd (idx y_9.1 (IntKind.wrap IntKind.i64 (Int.tmod (IntKind.wrap IntKind.i64 (i+t1)) (16:Int) - (8:Int)))) fun y_10=>
 k_ (List.set out (0:Nat) (List.set y_9.1 (Int.toNat (IntKind.wrap IntKind.i64 (Int.tmod (IntKind.wrap IntKind.i64 (i+t1)) (16:Int) - (8:Int)))) y_6,y_9.2)))
def jJ.c236872s:Shape:=⟨[(0,tb100),(1,tb5),(2,tb101),(4,tb105),(5,tb35),(6,tb5)],[(4,tb106),(5,tb106)]⟩
def jJ.c236872x0:Shape:=jJ.c236872s
def jJ.c236872r:Ck:=Ck.of (T:=List ((List ((Bool)×(List Int)))×Int)) jJ.c236872s (fun ρ x_ k_=>jJ.c236872 x_.2.1 x_.2.2.1 x_.2.2.2.1 x_.2.2.2.2.2.1 k_) (fun ρ x_ r_ k_=>k_ 0 (Shape.inj jJ.c236872x0 (x_.1,x_.2.1,x_.2.2.1,x_.2.2.2.1,x_.2.2.2.2.1,r_,())))
def jJ.c100007 {ρ:Type} (t1:Int) (a_1:(List ((Bool)×(List Int)))×Int) (i:Int) (out:List ((List ((Bool)×(List Int)))×Int)) (k_:(Int×(List ((List ((Bool)×(List Int)))×Int)))⊕(Int×(List ((List ((Bool)×(List Int)))×Int)))→Option ρ):Option ρ:=
 br (decide (i < (8:Int)))
 (bnd (W.jJ.c236872 t1 a_1 i out some) fun y=>
 k_ (.inl ((IntKind.wrap IntKind.i64 (i+(1:Int))),y)))
 (k_ (.inr (i,out)))
def jJ.c100007s:Shape:=jJ.c236872s
def jJ.c100007x0:Shape:=jJ.c236872s
def jJ.c100007r:Ck:=Ck.ofLoop (S:=Int×(List ((List ((Bool)×(List Int)))×Int))) (T:=Int×(List ((List ((Bool)×(List Int)))×Int))) jJ.c100007s (fun x_=>(x_.2.2.2.1,x_.2.2.2.2.2.1)) (fun ρ x_ s_ k_=>jJ.c100007 x_.2.1 x_.2.2.1 s_.1 s_.2 k_) (fun ρ x_ r_ k_=>k_ 2 (Shape.inj jJ.c100007x0 (x_.1,x_.2.1,x_.2.2.1,r_.1,x_.2.2.2.2.1,r_.2,())))
def jJ (a:(List ((Bool)×(List Int)))×Int) (t1:Int):Option ((List ((Bool)×(List Int)))×Int):=
 bnd (W.jJ.c208197 (Int.tmod t1 (16:Int)) some) fun y=>
 bnd (iter (fun s↦W.jJ.c100007 y a s.1 s.2 some) ((0:Int),[(List.replicate (8:Nat) (false,[]),a.2)])) fun y_1=>
 bnd (idx y_1.2 (0:Int)) fun y_2=>
 some y_2
def jJ.ce:Go.Ql.Callee:=⟨[(.st (.pair (.ar 8 (.st (.pair .bool (.sl (.int .i64))))) (.int .i64))),(.int .i64)],[(.st (.pair (.ar 8 (.st (.pair .bool (.sl (.int .i64))))) (.int .i64)))],fun x_=>jJ x_.1 x_.2⟩
def jJ.G:Env:=⟨45,tab,[(99,JE.ce)],[0,1,2,4,5,6,7,11,19,27],[4,5,14,8000002],[],[(100007,jJ.c100007r),(236872,jJ.c236872r),(208197,jJ.c208197r)],[],tab_eqs⟩
theorem jJ.eq (x_:dens jJ.ce.params):den jJ.G Try.f64 jJ.ce.params jJ.ce.res x_=jJ.ce.F x_:=by kernel_rfl
theorem jJ.p0:PcA jJ.G Try.f64 0:=
 join_ok (s:=jJ.c208197r) (by kernel_rfl) (by kernel_rfl) (sums_of (sh:=jJ.c208197s) (fun ρ x_ k_=>(nat_br nat_leaf nat_leaf)) (fun ρ x_ t k=>(by kernel_rfl)) (fun x_=>by kernel_rfl))
theorem jJ.p1:PcA jJ.G Try.f64 1:=
 loop_ok (s:=jJ.c100007r) (by kernel_rfl) (by kernel_rfl) (loops_of (sh:=jJ.c100007s) (I:=fun x_ s_=>(x_.1,x_.2.1,x_.2.2.1,s_.1,x_.2.2.2.2.1,s_.2,())) (fun x_=>rfl) (fun ρ x_ s_ k_=>(nat_br (nat_bnd fun _=>nat_leaf) nat_leaf)) (fun ρ x_ t k=>(by kernel_rfl)) (fun x_ s=>by kernel_rfl))
theorem jJ.p2:PcA jJ.G Try.f64 2:=
 join_ok (s:=jJ.c236872r) (by kernel_rfl) (by kernel_rfl) (sums_of (sh:=jJ.c236872s) (fun ρ x_ k_=>(nat_br (nat_bnd fun _=>(nat_bnd fun _=>(nat_bnd fun _=>(nat_bnd fun _=>(nat_bnd fun _=>nat_leaf))))) (nat_bnd fun _=>(nat_bnd fun _=>(nat_bnd fun _=>(nat_bnd fun _=>(nat_bnd fun _=>(nat_bnd fun _=>nat_leaf)))))))) (fun ρ x_ t k=>(by kernel_rfl)) (fun x_=>by kernel_rfl))
theorem jJ.ok:CalleeOk Try.prog 64 jJ.ce:=fn_ok (G:=jJ.G) tab_ok mixed Try.func64 ⟨(fns_cons JE.ok fns_nil),mfns_nil,tab_eqs_ok⟩ (m:=3) (by kernel_rfl) ⟨⟨⟨trivial,jJ.p0⟩,jJ.p1⟩,jJ.p2⟩ (by kernel_rfl) jJ.eq
def Ju.c100002 {ρ:Type} (i:Int) (a_1:List ((List ((Bool)×(List Int)))×Int)) (k_:(Int×(List ((List ((Bool)×(List Int)))×Int)))⊕(Int×(List ((List ((Bool)×(List Int)))×Int)))→Option ρ):Option ρ:=
 br (decide (i < (8:Int)))
 (bnd (inR (List.length a_1) (0:Int)) fun y=>
 bnd (okIf (decide ((0:Ty.den (Ty.int IntKind.i64))≤i) && decide (i < (↑(8:Nat):Int)))) fun y_1=>
 bnd (idx a_1 (0:Int)) fun y_2=>
 bnd (idx y_2.1 i) fun y_3=>
 bnd (W.JE y_3) fun y_4=>
 bnd (inR (List.length a_1) (0:Int)) fun y_5=>
 bnd (okIf (decide ((0:Ty.den (Ty.int IntKind.i64))≤i) && decide (i < (↑(8:Nat):Int)))) fun y_6=>
 bnd (idx a_1 (0:Int)) fun y_7=>
 bnd (idx y_7.1 i) fun y_8=>
 k_ (.inl ((IntKind.wrap IntKind.i64 (i+(1:Int))),(List.set a_1 (0:Nat) (List.set y_7.1 (Int.toNat i) y_4,y_7.2)))))
 (k_ (.inr (i,a_1)))
def Ju.c100002s:Shape:=⟨[(0,tb100),(1,tb107),(2,tb104),(3,tb5)],[(1,tb106),(2,tb106)]⟩
def Ju.c100002x0:Shape:=Ju.c100002s
def Ju.c100002r:Ck:=Ck.ofLoop (S:=Int×(List ((List ((Bool)×(List Int)))×Int))) (T:=Int×(List ((List ((Bool)×(List Int)))×Int))) Ju.c100002s (fun x_=>(x_.2.1,x_.2.2.1)) (fun ρ x_ s_ k_=>Ju.c100002 s_.1 s_.2 k_) (fun ρ x_ r_ k_=>k_ 2 (Shape.inj Ju.c100002x0 (x_.1,r_.1,r_.2,x_.2.2.2)))
def Ju (a:(List ((Bool)×(List Int)))×Int):Option ((List ((Bool)×(List Int)))×Int):=
 bnd (iter (fun s↦W.Ju.c100002 s.1 s.2 some) ((0:Int),[a])) fun y=>
 bnd (idx y.2 (0:Int)) fun y_1=>
 some y_1
def Ju.ce:Go.Ql.Callee:=⟨[(.st (.pair (.ar 8 (.st (.pair .bool (.sl (.int .i64))))) (.int .i64)))],[(.st (.pair (.ar 8 (.st (.pair .bool (.sl (.int .i64))))) (.int .i64)))],fun x_=>Ju x_⟩
def Ju.G:Env:=⟨17,tab,[(99,JE.ce)],[0,1,2,3,5],[1,2],[],[(100002,Ju.c100002r)],[],tab_eqs⟩
theorem Ju.eq (x_:dens Ju.ce.params):den Ju.G Try.f66 Ju.ce.params Ju.ce.res x_=Ju.ce.F x_:=by kernel_rfl
theorem Ju.p0:PcA Ju.G Try.f66 0:=
 loop_ok (s:=Ju.c100002r) (by kernel_rfl) (by kernel_rfl) (loops_of (sh:=Ju.c100002s) (I:=fun x_ s_=>(x_.1,s_.1,s_.2,x_.2.2.2)) (fun x_=>rfl) (fun ρ x_ s_ k_=>(nat_br (nat_bnd fun _=>(nat_bnd fun _=>(nat_bnd fun _=>(nat_bnd fun _=>(nat_bnd fun _=>(nat_bnd fun _=>(nat_bnd fun _=>(nat_bnd fun _=>(nat_bnd fun _=>nat_leaf))))))))) nat_leaf)) (fun ρ x_ t k=>(by kernel_rfl)) (fun x_ s=>by kernel_rfl))
theorem Ju.ok:CalleeOk Try.prog 66 Ju.ce:=fn_ok (G:=Ju.G) tab_ok mixed Try.func66 ⟨(fns_cons JE.ok fns_nil),mfns_nil,tab_eqs_ok⟩ (m:=1) (by kernel_rfl) ⟨trivial,Ju.p0⟩ (by kernel_rfl) Ju.eq
def Jz.c1 {ρ:Type} (a_1:(List ((Bool)×(List Int)))×Int) (b_1:(List ((Bool)×(List Int)))×Int) (t4:List ((List ((Bool)×(List Int)))×Int)) (k_:List ((List ((Bool)×(List Int)))×Int)→Option ρ):Option ρ:=
 bnd (W.Ju b_1) fun y=>
 bnd (W.Jb a_1 y) fun y_1=>
 bnd (idx t4 (0:Int)) fun y_2=>
 k_ (List.set t4 (0:Nat) y_1)
def Jz.c1s:Shape:=⟨[(0,tb100),(1,tb100),(2,tb101),(3,tb101),(4,tb105)],[(4,tb106)]⟩
def Jz.c1x0:Shape:=Jz.c1s
def Jz.c1r:Ck:=Ck.of (T:=List ((List ((Bool)×(List Int)))×Int)) Jz.c1s (fun ρ x_ k_=>Jz.c1 x_.2.2.1 x_.2.2.2.1 x_.2.2.2.2.1 k_) (fun ρ x_ r_ k_=>k_ 0 (Shape.inj Jz.c1x0 (x_.1,x_.2.1,x_.2.2.1,x_.2.2.2.1,r_,())))
def Jz (a:(List ((Bool)×(List Int)))×Int) (b:(List ((Bool)×(List Int)))×Int):Option ((List ((Bool)×(List Int)))×Int):=
 bnd (W.Jz.c1 a b [(List.replicate (8:Nat) (false,[]),(0:Int))] some) fun y=>
 bnd (idx y (0:Int)) fun y_1=>
 some y_1
def Jz.ce:Go.Ql.Callee:=⟨[(.st (.pair (.ar 8 (.st (.pair .bool (.sl (.int .i64))))) (.int .i64))),(.st (.pair (.ar 8 (.st (.pair .bool (.sl (.int .i64))))) (.int .i64)))],[(.st (.pair (.ar 8 (.st (.pair .bool (.sl (.int .i64))))) (.int .i64)))],fun x_=>Jz x_.1 x_.2⟩
def Jz.G:Env:=⟨9,tab,[(66,Ju.ce),(62,Jb.ce)],[0,1,2,3,4],[4,8000002,8000003],[(1,[⟨[],[],[6,7],[]⟩,⟨[],[],[5],[]⟩,⟨[1],[],[5],[]⟩,⟨[0,2,1],[],[],[]⟩,⟨[3,0,2,1],[4],[],[]⟩])],[(1,Jz.c1r)],[],tab_eqs⟩
theorem Jz.eq (x_:dens Jz.ce.params):den Jz.G Try.f100 Jz.ce.params Jz.ce.res x_=Jz.ce.F x_:=by kernel_rfl
theorem Jz.p0:PcA Jz.G Try.f100 0:=
 region_ok (s:=Jz.c1r) (by kernel_rfl) (by kernel_rfl) (sums_of (sh:=Jz.c1s) (fun ρ x_ k_=>(nat_bnd fun _=>(nat_bnd fun _=>(nat_bnd fun _=>nat_leaf)))) (fun ρ x_ t k=>(by kernel_rfl)) (fun x_=>by kernel_rfl))
theorem Jz.ok:CalleeOk Try.prog 100 Jz.ce:=fn_ok (G:=Jz.G) tab_ok mixed Try.func100 ⟨(fns_cons Ju.ok (fns_cons Jb.ok fns_nil)),mfns_nil,tab_eqs_ok⟩ (m:=1) (by kernel_rfl) ⟨trivial,Jz.p0⟩ (by kernel_rfl) Jz.eq
def Jv.c1 {ρ:Type} (a_1:(List ((Bool)×(List Int)))×Int) (k_:List ((List ((Bool)×(List Int)))×Int)→Option ρ):Option ρ:=
 bnd (W.jJ a_1 (2:Int)) fun y=>
 bnd (W.jJ a_1 (6:Int)) fun y_1=>
 bnd (W.Jz y y_1) fun y_2=>
 k_ [y_2]
def Jv.c1s:Shape:=⟨[(0,tb100),(1,tb101),(2,tb104)],[(2,tb106)]⟩
def Jv.c1x0:Shape:=⟨[(0,tb100),(1,tb101),(2,tb104),(3,tb108)],[(2,tb106),(3,tb106)]⟩
def Jv.c1r:Ck:=Ck.of (T:=List ((List ((Bool)×(List Int)))×Int)) Jv.c1s (fun ρ x_ k_=>Jv.c1 x_.2.1 k_) (fun ρ x_ r_ k_=>k_ 0 (Shape.inj Jv.c1x0 (x_.1,x_.2.1,x_.2.2.1,r_,())))
def Jv (a:(List ((Bool)×(List Int)))×Int):Option ((List ((Bool)×(List Int)))×Int):=
 bnd (W.Jv.c1 a some) fun y=>
 bnd (idx y (0:Int)) fun y_1=>
 bnd (W.Jc y_1) fun y_2=>
 br y_2
 (bnd (idx y (0:Int)) fun y_3=>
 some y_3)
 (bnd (inR (List.length y) (0:Int)) fun y_4=>
 bnd (idx y (0:Int)) fun y_5=>
 bnd (inR (List.length y) (0:Int)) fun y_6=>
 bnd (idx y (0:Int)) fun y_7=>
 bnd (idx (List.set y (0:Nat) (y_7.1,IntKind.wrap IntKind.i64 (y_5.2+(1:Int)))) (0:Int)) fun y_8=>
 bnd (W.jB y_8) fun y_9=>
 some y_9)
def Jv.ce:Go.Ql.Callee:=⟨[(.st (.pair (.ar 8 (.st (.pair .bool (.sl (.int .i64))))) (.int .i64)))],[(.st (.pair (.ar 8 (.st (.pair .bool (.sl (.int .i64))))) (.int .i64)))],fun x_=>Jv x_⟩
def Jv.G:Env:=⟨18,tab,[(64,jJ.ce),(100,Jz.ce),(48,Jc.ce),(98,jB.ce)],[0,1,2,3,10],[2,3,8000001],[(1,[⟨[],[],[6,3],[3]⟩,⟨[0],[],[6,3],[3]⟩,⟨[],[],[4,5,3],[3]⟩,⟨[2,1,0],[],[3],[3]⟩,⟨[1,0,3,2],[],[3],[3]⟩,⟨[],[3],[4,5,6,7,8],[]⟩,⟨[5,4,1,0,3,2],[3],[],[]⟩])],[(1,Jv.c1r)],[],tab_eqs⟩
theorem Jv.eq (x_:dens Jv.ce.params):den Jv.G Try.f65 Jv.ce.params Jv.ce.res x_=Jv.ce.F x_:=by kernel_rfl
theorem Jv.p0:PcA Jv.G Try.f65 0:=
 region_ok (s:=Jv.c1r) (by kernel_rfl) (by kernel_rfl) (sums_of (sh:=Jv.c1s) (fun ρ x_ k_=>(nat_bnd fun _=>(nat_bnd fun _=>(nat_bnd fun _=>nat_leaf)))) (fun ρ x_ t k=>(by kernel_rfl)) (fun x_=>by kernel_rfl))
theorem Jv.ok:CalleeOk Try.prog 65 Jv.ce:=fn_ok (G:=Jv.G) tab_ok mixed Try.func65 ⟨(fns_cons jJ.ok (fns_cons Jz.ok (fns_cons Jc.ok (fns_cons jB.ok fns_nil)))),mfns_nil,tab_eqs_ok⟩ (m:=1) (by kernel_rfl) ⟨trivial,Jv.p0⟩ (by kernel_rfl) Jv.eq
abbrev tb109:SD:=.one (.val (.sl (.st (.pair (.ar 8 (.st (.pair .bool (.sl (.int .i64))))) (.int .i64)))))
abbrev tb110:SD:=.one (.aptr 8 0)
def jp.c7 {ρ:Type} (v:List ((List ((Bool)×(List Int)))×Int)) (x:Int) (t11:List ((List ((Bool)×(List Int)))×Int)) (k_:List ((List ((Bool)×(List Int)))×Int)→Option ρ):Option ρ:=
 bnd (inR (List.length t11) x) fun y=>
 bnd (idx t11 x) fun y_1=>
 bnd (idx v x) fun y_2=>
 bnd (W.Jb y_1 y_2) fun y_3=>
 bnd (inR (List.length t11) x) fun y_4=>
 bnd (idx t11 x) fun y_5=>
 k_ (List.set t11 (Int.toNat x) y_3)
def jp.c7s:Shape:=⟨[(0,tb109),(1,tb25),(3,tb12),(4,tb109),(5,tb86),(6,tb5)],[(3,tb26),(11,tb106)]⟩
def jp.c7x0:Shape:=jp.c7s
def jp.c7r:Ck:=Ck.of (T:=List ((List ((Bool)×(List Int)))×Int)) jp.c7s (fun ρ x_ k_=>jp.c7 x_.1 x_.2.2.2.1 x_.2.2.2.2.2.2.2.2.2.2.1 k_) (fun ρ x_ r_ k_=>k_ 0 (Shape.inj jp.c7x0 (x_.1,x_.2.1,x_.2.2.1,x_.2.2.2.1,x_.2.2.2.2.1,x_.2.2.2.2.2.1,x_.2.2.2.2.2.2.1,x_.2.2.2.2.2.2.2.1,x_.2.2.2.2.2.2.2.2.1,x_.2.2.2.2.2.2.2.2.2.1,r_,())))
def jp.c9 {ρ:Type} (x:Int) (o0:Int) (o3:Int) (k_:Bool→Option ρ):Option ρ:=
 br (o0 == (1:Int))
 (k_ true)
 (br (o0 == (4:Int))
 (bnd (W.JA x o3) fun y=>
 k_ (y == (1:Int)))
 (k_ false))
def jp.c9s:Shape:=⟨[(0,tb109),(1,tb25),(3,tb12),(4,tb109),(5,tb86),(6,tb5),(7,tb5)],[(3,tb26),(11,tb106)]⟩
def jp.c9x0:Shape:=⟨[(0,tb109),(1,tb25),(3,tb12),(4,tb109),(5,tb86),(6,tb5),(7,tb5),(59,tb7)],[(3,tb26),(11,tb106)]⟩
def jp.c9r:Ck:=Ck.of (T:=Bool) jp.c9s (fun ρ x_ k_=>jp.c9 x_.2.2.2.1 x_.2.2.2.2.2.1 x_.2.2.2.2.2.2.2.2.1 k_) (fun ρ x_ r_ k_=>k_ 0 (Shape.inj jp.c9x0 (x_.1,x_.2.1,x_.2.2.1,x_.2.2.2.1,x_.2.2.2.2.1,r_,x_.2.2.2.2.2)))
def jp.c10 {ρ:Type} (v:List ((List ((Bool)×(List Int)))×Int)) (x:Int) (o1:Int) (t11:List ((List ((Bool)×(List Int)))×Int)) (k_:List ((List ((Bool)×(List Int)))×Int)→Option ρ):Option ρ:=
 bnd (idx v x) fun y=>
 bnd (W.jJ y o1) fun y_1=>
 bnd (inR (List.length t11) x) fun y_2=>
 bnd (idx t11 x) fun y_3=>
 k_ (List.set t11 (Int.toNat x) y_1)
def jp.c10s:Shape:=jp.c9s
def jp.c10x0:Shape:=jp.c9s
def jp.c10r:Ck:=Ck.of (T:=List ((List ((Bool)×(List Int)))×Int)) jp.c10s (fun ρ x_ k_=>jp.c10 x_.1 x_.2.2.2.1 x_.2.2.2.2.2.2.1 x_.2.2.2.2.2.2.2.2.2.2.2.1 k_) (fun ρ x_ r_ k_=>k_ 0 (Shape.inj jp.c10x0 (x_.1,x_.2.1,x_.2.2.1,x_.2.2.2.1,x_.2.2.2.2.1,x_.2.2.2.2.2.1,x_.2.2.2.2.2.2.1,x_.2.2.2.2.2.2.2.1,x_.2.2.2.2.2.2.2.2.1,x_.2.2.2.2.2.2.2.2.2.1,x_.2.2.2.2.2.2.2.2.2.2.1,r_,())))
def jp.c16 {ρ:Type} (other:Int) (half:List ((List ((Bool)×(List Int)))×Int)) (t11:List ((List ((Bool)×(List Int)))×Int)) (k_:List ((List ((Bool)×(List Int)))×Int)→Option ρ):Option ρ:=
 bnd (inR (List.length t11) other) fun y=>
 bnd (idx t11 other) fun y_1=>
 bnd (idx half (0:Int)) fun y_2=>
 bnd (W.Jb y_1 y_2) fun y_3=>
 bnd (inR (List.length t11) other) fun y_4=>
 bnd (idx t11 other) fun y_5=>
 k_ (List.set t11 (Int.toNat other) y_3)
def jp.c16s:Shape:=⟨[(0,tb109),(1,tb25),(3,tb12),(4,tb109),(5,tb86),(6,tb5),(7,tb5),(8,tb110)],[(3,tb26),(8,tb106),(11,tb106)]⟩
def jp.c16x0:Shape:=jp.c16s
def jp.c16r:Ck:=Ck.of (T:=List ((List ((Bool)×(List Int)))×Int)) jp.c16s (fun ρ x_ k_=>jp.c16 x_.2.2.2.2.1 x_.2.2.2.2.2.2.2.2.2.2.2.1 x_.2.2.2.2.2.2.2.2.2.2.2.2.1 k_) (fun ρ x_ r_ k_=>k_ 0 (Shape.inj jp.c16x0 (x_.1,x_.2.1,x_.2.2.1,x_.2.2.2.1,x_.2.2.2.2.1,x_.2.2.2.2.2.1,x_.2.2.2.2.2.2.1,x_.2.2.2.2.2.2.2.1,x_.2.2.2.2.2.2.2.2.1,x_.2.2.2.2.2.2.2.2.2.1,x_.2.2.2.2.2.2.2.2.2.2.1,x_.2.2.2.2.2.2.2.2.2.2.2.1,r_,())))
def jp.c269637 {ρ:Type} (x:Int) (o3:Int) (half:List ((List ((Bool)×(List Int)))×Int)) (k_:List ((List ((Bool)×(List Int)))×Int)→Option ρ):Option ρ:=
 bnd (W.JA x o3) fun y=>
 br (y == (1:Int))
 (bnd (idx half (0:Int)) fun y_1=>
 bnd (W.Ju y_1) fun y_2=>
 bnd (idx half (0:Int)) fun y_3=>
 k_ (List.set half (0:Nat) y_2))
 (k_ half)
def jp.c269637s:Shape:=jp.c16s
def jp.c269637x0:Shape:=jp.c16s
def jp.c269637r:Ck:=Ck.of (T:=List ((List ((Bool)×(List Int)))×Int)) jp.c269637s (fun ρ x_ k_=>jp.c269637 x_.2.2.2.1 x_.2.2.2.2.2.2.2.2.1 x_.2.2.2.2.2.2.2.2.2.2.2.1 k_) (fun ρ x_ r_ k_=>k_ 0 (Shape.inj jp.c269637x0 (x_.1,x_.2.1,x_.2.2.1,x_.2.2.2.1,x_.2.2.2.2.1,x_.2.2.2.2.2.1,x_.2.2.2.2.2.2.1,x_.2.2.2.2.2.2.2.1,x_.2.2.2.2.2.2.2.2.1,x_.2.2.2.2.2.2.2.2.2.1,x_.2.2.2.2.2.2.2.2.2.2.1,r_,x_.2.2.2.2.2.2.2.2.2.2.2.2)))
def jp.c19 {ρ:Type} (x:Int) (half:List ((List ((Bool)×(List Int)))×Int)) (t11:List ((List ((Bool)×(List Int)))×Int)) (k_:List ((List ((Bool)×(List Int)))×Int)→Option ρ):Option ρ:=
 bnd (inR (List.length t11) x) fun y=>
 bnd (idx t11 x) fun y_1=>
 bnd (idx half (0:Int)) fun y_2=>
 bnd (W.Jb y_1 y_2) fun y_3=>
 bnd (inR (List.length t11) x) fun y_4=>
 bnd (idx t11 x) fun y_5=>
 k_ (List.set t11 (Int.toNat x) y_3)
def jp.c19s:Shape:=jp.c16s
def jp.c19x0:Shape:=jp.c16s
def jp.c19r:Ck:=Ck.of (T:=List ((List ((Bool)×(List Int)))×Int)) jp.c19s (fun ρ x_ k_=>jp.c19 x_.2.2.2.1 x_.2.2.2.2.2.2.2.2.2.2.2.1 x_.2.2.2.2.2.2.2.2.2.2.2.2.1 k_) (fun ρ x_ r_ k_=>k_ 0 (Shape.inj jp.c19x0 (x_.1,x_.2.1,x_.2.2.1,x_.2.2.2.1,x_.2.2.2.2.1,x_.2.2.2.2.2.1,x_.2.2.2.2.2.2.1,x_.2.2.2.2.2.2.2.1,x_.2.2.2.2.2.2.2.2.1,x_.2.2.2.2.2.2.2.2.2.1,x_.2.2.2.2.2.2.2.2.2.2.1,x_.2.2.2.2.2.2.2.2.2.2.2.1,r_,())))
def jp.c220520 {ρ:Type} (v:List ((List ((Bool)×(List Int)))×Int)) (x:Int) (o0:Int) (o1:Int) (o2:List Int) (o3:Int) (t11:List ((List ((Bool)×(List Int)))×Int)) (k_:List ((List ((Bool)×(List Int)))×Int)→Option ρ):Option ρ:=
 bnd (idx v x) fun y=>
 bnd (W.Jc y) fun y_1=>
 br y_1
 (k_ t11)
 (bnd (W.Jk x o2) fun y_2=>
 br (!y_2)
 (bnd (W.jp.c7 v x t11 some) fun y_3=>
 k_ y_3)
 (bnd (okIf (decide ((0:Int)≤o3))) fun y_4=>
 bnd (W.jp.c9 x o0 o3 some) fun y_5=>
 br y_5
 (bnd (W.jp.c10 v x o1 t11 some) fun y_6=>
 k_ y_6)
 (br (o0 == (4:Int))
 (bnd (idx v x) fun y_7=>
 bnd (inR (List.length t11) x) fun y_8=>
 bnd (idx t11 x) fun y_9=>
 k_ (List.set t11 (Int.toNat x) y_7))
 (br (o0 == (2:Int))
 (bnd (idx v x) fun y_10=>
 bnd (inR (List.length t11) (ibits BinOp.xor IntKind.i64 x (IntKind.wrap IntKind.i64 ((1:Int)*(2:Int) ^ Min.min (Int.toNat o3) (64:Nat))))) fun y_11=>
 bnd (idx t11 (ibits BinOp.xor IntKind.i64 x (IntKind.wrap IntKind.i64 ((1:Int)*(2:Int) ^ Min.min (Int.toNat o3) (64:Nat))))) fun y_12=>
 k_ (List.set t11 (Int.toNat (ibits BinOp.xor IntKind.i64 x (IntKind.wrap IntKind.i64 ((1:Int)*(2:Int) ^ Min.min (Int.toNat o3) (64:Nat))))) y_10))
 (bnd (idx v x) fun y_13=>
 bnd (W.Jv y_13) fun y_14=>
 bnd (W.jp.c16 (ibits BinOp.xor IntKind.i64 x (IntKind.wrap IntKind.i64 ((1:Int)*(2:Int) ^ Min.min (Int.toNat o3) (64:Nat)))) [y_14] t11 some) fun y_15=>
 bnd (W.jp.c269637 x o3 [y_14] some) fun y_16=>
 bnd (W.jp.c19 x y_16 y_15 some) fun y_17=>
 k_ y_17)))))
def jp.c220520s:Shape:=jp.c7s
def jp.c220520x0:Shape:=jp.c7s
def jp.c220520r:Ck:=Ck.of (T:=List ((List ((Bool)×(List Int)))×Int)) jp.c220520s (fun ρ x_ k_=>jp.c220520 x_.1 x_.2.2.2.1 x_.2.2.2.2.1 x_.2.2.2.2.2.1 x_.2.2.2.2.2.2.1 x_.2.2.2.2.2.2.2.1 x_.2.2.2.2.2.2.2.2.2.2.1 k_) (fun ρ x_ r_ k_=>k_ 0 (Shape.inj jp.c220520x0 (x_.1,x_.2.1,x_.2.2.1,x_.2.2.2.1,x_.2.2.2.2.1,x_.2.2.2.2.2.1,x_.2.2.2.2.2.2.1,x_.2.2.2.2.2.2.2.1,x_.2.2.2.2.2.2.2.2.1,x_.2.2.2.2.2.2.2.2.2.1,r_,())))
def jp.c100003 {ρ:Type} (v:List ((List ((Bool)×(List Int)))×Int)) (x:Int) (o0:Int) (o1:Int) (o2:List Int) (o3:Int) (t11:List ((List ((Bool)×(List Int)))×Int)) (k_:(Int×(List ((List ((Bool)×(List Int)))×Int)))⊕(Int×(List ((List ((Bool)×(List Int)))×Int)))→Option ρ):Option ρ:=
 br (decide (x < (↑(List.length v):Int)))
 (bnd (W.jp.c220520 v x o0 o1 o2 o3 t11 some) fun y=>
 k_ (.inl ((IntKind.wrap IntKind.i64 (x+(1:Int))),y)))
 (k_ (.inr (x,t11)))
def jp.c100003s:Shape:=jp.c7s
def jp.c100003x0:Shape:=jp.c7s
def jp.c100003r:Ck:=Ck.ofLoop (S:=Int×(List ((List ((Bool)×(List Int)))×Int))) (T:=Int×(List ((List ((Bool)×(List Int)))×Int))) jp.c100003s (fun x_=>(x_.2.2.2.1,x_.2.2.2.2.2.2.2.2.2.2.1)) (fun ρ x_ s_ k_=>jp.c100003 x_.1 s_.1 x_.2.2.2.2.1 x_.2.2.2.2.2.1 x_.2.2.2.2.2.2.1 x_.2.2.2.2.2.2.2.1 s_.2 k_) (fun ρ x_ r_ k_=>k_ 2 (Shape.inj jp.c100003x0 (x_.1,x_.2.1,x_.2.2.1,r_.1,x_.2.2.2.2.1,x_.2.2.2.2.2.1,x_.2.2.2.2.2.2.1,x_.2.2.2.2.2.2.2.1,x_.2.2.2.2.2.2.2.2.1,x_.2.2.2.2.2.2.2.2.2.1,r_.2,())))
def jp (v:List ((List ((Bool)×(List Int)))×Int)) (o:Int×(Int×((List Int)×(Int×(Int×(List Int)))))):Option (List ((List ((Bool)×(List Int)))×Int)):=
 bnd (okIf (decide ((0:Int)≤(↑(List.length v):Int)) && decide ((↑(List.length v):Int)≤(↑(List.length v):Int)) && decide ((↑(List.length v):Int)*(↑(264:Nat):Int)≤(140737488355328:Int)) && decide ((↑(List.length v):Int)≤(140737488355328:Int)))) fun y=>
 bnd (iter (fun s↦W.jp.c100003 v s.1 o.1 o.2.1 o.2.2.1 o.2.2.2.1 s.2 some) ((0:Int),List.replicate (Int.toNat (↑(List.length v):Int)) (List.replicate (8:Nat) (false,[]),(0:Int)))) fun y_1=>
 some y_1.2
def jp.ce:Go.Ql.Callee:=⟨[(.sl (.st (.pair (.ar 8 (.st (.pair .bool (.sl (.int .i64))))) (.int .i64)))),(.st (.pair (.int .i64) (.pair (.int .i64) (.pair (.sl (.int .i64)) (.pair (.int .i64) (.pair (.int .i64) (.sl (.int .i64))))))))],[(.sl (.st (.pair (.ar 8 (.st (.pair .bool (.sl (.int .i64))))) (.int .i64))))],fun x_=>jp x_.1 x_.2⟩
def jp.G:Env:=⟨121,tab,[(48,Jc.ce),(61,Jk.ce),(62,Jb.ce),(63,JA.ce),(64,jJ.ce),(65,Jv.ce),(66,Ju.ce)],[0,1,3,4,5,6,7,8,15,22,27,59,72,82,108],[8,11],[(19,[⟨[],[],[112,113,114,115,116,117,118],[]⟩,⟨[],[],[111,113,114,115,116,117,118],[]⟩,⟨[],[],[111,112,114,117],[]⟩,⟨[],[],[111,112,113,117],[]⟩,⟨[2,3],[],[111,112,117],[]⟩,⟨[4,2,3],[],[111,112,117],[]⟩,⟨[],[],[111,112,113,114,115,116],[]⟩,⟨[5,4,2,3,6],[],[111,112],[]⟩,⟨[0,1,2,3,4,5,6,7],[],[],[]⟩,⟨[8,0,1,2,3,4,5,6,7],[11],[],[]⟩]),
 (16,[⟨[],[],[96,97,98,99,100,101,102],[]⟩,⟨[],[],[95,97,98,99,100,101,102],[]⟩,⟨[],[],[95,96,98,101],[]⟩,⟨[],[],[95,96,97,101],[]⟩,⟨[2,3],[],[95,96,101],[]⟩,⟨[4,2,3],[],[95,96,101],[]⟩,⟨[],[],[95,96,97,98,99,100],[]⟩,⟨[5,4,2,3,6],[],[95,96],[]⟩,⟨[0,1,2,3,4,5,6,7],[],[],[]⟩,⟨[8,0,1,2,3,4,5,6,7],[11],[],[]⟩]),
 (10,[⟨[],[],[61,62,63,64,65,66,67,68],[]⟩,⟨[],[],[60,62,63,64,65,66,67,68],[]⟩,⟨[],[],[60,61,63,66,67],[]⟩,⟨[],[],[60,61,62,66,67],[]⟩,⟨[2,3],[],[60,61,66,67],[]⟩,⟨[4,2,3],[],[60,61,66,67],[]⟩,⟨[],[],[60,61,62,63,64,65],[]⟩,⟨[6],[],[60,61,62,63,64,65],[]⟩,⟨[5,4,2,3,7,6],[],[60,61],[]⟩,⟨[0,1,2,3,4,5,6,7,8],[],[],[]⟩,⟨[9,0,1,2,3,4,5,6,7,8],[11],[],[]⟩]),
 (7,[⟨[],[],[29,30,31,32,33,34,35,36,37,38],[]⟩,⟨[],[],[28,30,31,32,33,34,35,36,37,38],[]⟩,⟨[],[],[28,29,31,34,35,36,37],[]⟩,⟨[],[],[28,29,30,34,35,36,37],[]⟩,⟨[2,3],[],[28,29,34,35,36,37],[]⟩,⟨[4,2,3],[],[28,29,34,35,36,37],[]⟩,⟨[],[],[28,29,30,31,32,33,35],[]⟩,⟨[],[],[28,29,30,31,32,33,34],[]⟩,⟨[6,7],[],[28,29,30,31,32,33],[]⟩,⟨[8,6,7],[],[28,29,30,31,32,33],[]⟩,⟨[5,4,2,3,9,8,6,7],[],[28,29],[]⟩,⟨[0,1,2,3,4,5,6,7,8,9,10],[],[],[]⟩,⟨[11,0,1,2,3,4,5,6,7,8,9,10],[11],[],[]⟩])],[(100003,jp.c100003r),(220520,jp.c220520r),(19,jp.c19r),(269637,jp.c269637r),(16,jp.c16r),(10,jp.c10r),(9,jp.c9r),(7,jp.c7r)],[],tab_eqs⟩
theorem jp.eq (x_:dens jp.ce.params):den jp.G Try.f24 jp.ce.params jp.ce.res x_=jp.ce.F x_:=by kernel_rfl
theorem jp.p0:PcA jp.G Try.f24 0:=
 loop_ok (s:=jp.c100003r) (by kernel_rfl) (by kernel_rfl) (loops_of (sh:=jp.c100003s) (I:=fun x_ s_=>(x_.1,x_.2.1,x_.2.2.1,s_.1,x_.2.2.2.2.1,x_.2.2.2.2.2.1,x_.2.2.2.2.2.2.1,x_.2.2.2.2.2.2.2.1,x_.2.2.2.2.2.2.2.2.1,x_.2.2.2.2.2.2.2.2.2.1,s_.2,())) (fun x_=>rfl) (fun ρ x_ s_ k_=>(nat_br (nat_bnd fun _=>nat_leaf) nat_leaf)) (fun ρ x_ t k=>(by kernel_rfl)) (fun x_ s=>by kernel_rfl))
theorem jp.p1:PcA jp.G Try.f24 1:=
 join_ok (s:=jp.c220520r) (by kernel_rfl) (by kernel_rfl) (sums_of (sh:=jp.c220520s) (fun ρ x_ k_=>(nat_bnd fun _=>(nat_bnd fun _=>(nat_br nat_leaf (nat_bnd fun _=>(nat_br (nat_bnd fun _=>nat_leaf) (nat_bnd fun _=>(nat_bnd fun _=>(nat_br (nat_bnd fun _=>nat_leaf) (nat_br (nat_bnd fun _=>(nat_bnd fun _=>(nat_bnd fun _=>nat_leaf))) (nat_br (nat_bnd fun _=>(nat_bnd fun _=>(nat_bnd fun _=>nat_leaf))) (nat_bnd fun _=>(nat_bnd fun _=>(nat_bnd fun _=>(nat_bnd fun _=>(nat_bnd fun _=>nat_leaf)))))))))))))))) (fun ρ x_ t k=>(by kernel_rfl)) (fun x_=>by kernel_rfl))
theorem jp.p2:PcA jp.G Try.f24 2:=
 region_ok (s:=jp.c7r) (by kernel_rfl) (by kernel_rfl) (sums_of (sh:=jp.c7s) (fun ρ x_ k_=>(nat_bnd fun _=>(nat_bnd fun _=>(nat_bnd fun _=>(nat_bnd fun _=>(nat_bnd fun _=>(nat_bnd fun _=>nat_leaf))))))) (fun ρ x_ t k=>(by kernel_rfl)) (fun x_=>by kernel_rfl))
theorem jp.p3:PcA jp.G Try.f24 3:=
 region_ok (s:=jp.c9r) (by kernel_rfl) (by kernel_rfl) (sums_of (sh:=jp.c9s) (fun ρ x_ k_=>(nat_br nat_leaf (nat_br (nat_bnd fun _=>nat_leaf) nat_leaf))) (fun ρ x_ t k=>(by kernel_rfl)) (fun x_=>by kernel_rfl))
theorem jp.p4:PcA jp.G Try.f24 4:=
 region_ok (s:=jp.c10r) (by kernel_rfl) (by kernel_rfl) (sums_of (sh:=jp.c10s) (fun ρ x_ k_=>(nat_bnd fun _=>(nat_bnd fun _=>(nat_bnd fun _=>(nat_bnd fun _=>nat_leaf))))) (fun ρ x_ t k=>(by kernel_rfl)) (fun x_=>by kernel_rfl))
theorem jp.p5:PcA jp.G Try.f24 5:=
 region_ok (s:=jp.c16r) (by kernel_rfl) (by kernel_rfl) (sums_of (sh:=jp.c16s) (fun ρ x_ k_=>(nat_bnd fun _=>(nat_bnd fun _=>(nat_bnd fun _=>(nat_bnd fun _=>(nat_bnd fun _=>(nat_bnd fun _=>nat_leaf))))))) (fun ρ x_ t k=>(by kernel_rfl)) (fun x_=>by kernel_rfl))
theorem jp.p6:PcA jp.G Try.f24 6:=
 join_ok (s:=jp.c269637r) (by kernel_rfl) (by kernel_rfl) (sums_of (sh:=jp.c269637s) (fun ρ x_ k_=>(nat_bnd fun _=>(nat_br (nat_bnd fun _=>(nat_bnd fun _=>(nat_bnd fun _=>nat_leaf))) nat_leaf))) (fun ρ x_ t k=>(by kernel_rfl)) (fun x_=>by kernel_rfl))
theorem jp.p7:PcA jp.G Try.f24 7:=
 region_ok (s:=jp.c19r) (by kernel_rfl) (by kernel_rfl) (sums_of (sh:=jp.c19s) (fun ρ x_ k_=>(nat_bnd fun _=>(nat_bnd fun _=>(nat_bnd fun _=>(nat_bnd fun _=>(nat_bnd fun _=>(nat_bnd fun _=>nat_leaf))))))) (fun ρ x_ t k=>(by kernel_rfl)) (fun x_=>by kernel_rfl))
theorem jp.ok:CalleeOk Try.prog 24 jp.ce:=fn_ok (G:=jp.G) tab_ok mixed Try.func24 ⟨(fns_cons Jc.ok (fns_cons Jk.ok (fns_cons Jb.ok (fns_cons JA.ok (fns_cons jJ.ok (fns_cons Jv.ok (fns_cons Ju.ok fns_nil))))))),mfns_nil,tab_eqs_ok⟩ (m:=8) (by kernel_rfl) ⟨⟨⟨⟨⟨⟨⟨⟨trivial,jp.p0⟩,jp.p1⟩,jp.p2⟩,jp.p3⟩,jp.p4⟩,jp.p5⟩,jp.p6⟩,jp.p7⟩ (by kernel_rfl) jp.eq
def ju.c216389 {ρ:Type} (text:List UInt8) (a0:Bool) (k_:List UInt8→Option ρ):Option ρ:=
 br a0
 (k_ (Array.toList (ByteArray.data (ByteArray.mk #[(45:UInt8)]))))
 (k_ text)
def ju.c216389s:Shape:=⟨[(0,tb102),(1,tb1),(2,tb4),(3,tb4)],[(1,tb98)]⟩
def ju.c216389x0:Shape:=ju.c216389s
def ju.c216389r:Ck:=Ck.of (T:=List UInt8) ju.c216389s (fun ρ x_ k_=>ju.c216389 x_.2.2.1 x_.2.2.2.1 k_) (fun ρ x_ r_ k_=>k_ 0 (Shape.inj ju.c216389x0 (x_.1,x_.2.1,r_,x_.2.2.2)))
def ju.c9 {ρ:Type} (i:Int) (a1:List Int) (k_:List Int→Option ρ):Option ρ:=
 bnd (idx a1 i) fun y=>
 bnd (idx a1 i) fun y_1=>
 bnd (idx a1 i) fun y_2=>
 bnd (idx a1 i) fun y_3=>
 k_ ([IntKind.wrap IntKind.u8 (IntKind.wrap IntKind.i64 ((48:Int)+IntKind.wrap IntKind.i64 (Int.tdiv y (1000:Int)))),IntKind.wrap IntKind.u8 (IntKind.wrap IntKind.i64 ((48:Int)+Int.tmod (IntKind.wrap IntKind.i64 (Int.tdiv y_1 (100:Int))) (10:Int))),IntKind.wrap IntKind.u8 (IntKind.wrap IntKind.i64 ((48:Int)+Int.tmod (IntKind.wrap IntKind.i64 (Int.tdiv y_2 (10:Int))) (10:Int))),IntKind.wrap IntKind.u8 (IntKind.wrap IntKind.i64 ((48:Int)+Int.tmod y_3 (10:Int)))])
def ju.c9s:Shape:=⟨[(0,tb102),(1,tb1),(2,tb4),(3,tb4),(4,tb5)],[(1,tb98)]⟩
def ju.c9x0:Shape:=⟨[(0,tb102),(1,tb1),(2,tb4),(3,tb4),(4,tb5),(5,tb68)],[(1,tb98)]⟩
def ju.c9r:Ck:=Ck.of (T:=List Int) ju.c9s (fun ρ x_ k_=>ju.c9 x_.2.2.2.1 x_.2.2.2.2.2.1 k_) (fun ρ x_ r_ k_=>k_ 0 (Shape.inj ju.c9x0 (x_.1,x_.2.1,x_.2.2.1,x_.2.2.2.1,r_,x_.2.2.2.2)))
def ju.c11 {ρ:Type} (i:Int) (four:List Int) (t6:Int) (a1:List Int) (k_:Bool→Option ρ):Option ρ:=
 br (i == IntKind.wrap IntKind.i64 ((↑(List.length a1):Int) - (1:Int)))
 (br (decide (t6 < (3:Int)))
 (bnd (idx four t6) fun y=>
 k_ (y == (48:Int)))
 (k_ false))
 (k_ false)
def ju.c11s:Shape:=⟨[(0,tb102),(1,tb1),(2,tb4),(3,tb4),(4,tb5),(5,tb68),(6,tb5)],[(1,tb98)]⟩
def ju.c11x0:Shape:=⟨[(0,tb102),(1,tb1),(2,tb4),(3,tb4),(4,tb5),(5,tb68),(6,tb5),(72,tb7)],[(1,tb98)]⟩
def ju.c11r:Ck:=Ck.of (T:=Bool) ju.c11s (fun ρ x_ k_=>ju.c11 x_.2.2.2.1 x_.2.2.2.2.1 x_.2.2.2.2.2.1 x_.2.2.2.2.2.2.2.1 k_) (fun ρ x_ r_ k_=>k_ 0 (Shape.inj ju.c11x0 (x_.1,x_.2.1,x_.2.2.1,x_.2.2.2.1,x_.2.2.2.2.1,x_.2.2.2.2.2.1,r_,x_.2.2.2.2.2.2)))
def ju.c100011 {ρ:Type} (i:Int) (four:List Int) (t6:Int) (a1:List Int) (k_:Int⊕Int→Option ρ):Option ρ:=
 bnd (W.ju.c11 i four t6 a1 some) fun y=>
 br y
 (k_ (.inl (IntKind.wrap IntKind.i64 (t6+(1:Int)))))
 (k_ (.inr t6))
def ju.c100011s:Shape:=ju.c11s
def ju.c100011x0:Shape:=ju.c11s
def ju.c100011r:Ck:=Ck.ofLoop (S:=Int) (T:=Int) ju.c100011s (fun x_=>x_.2.2.2.2.2.1) (fun ρ x_ s_ k_=>ju.c100011 x_.2.2.2.1 x_.2.2.2.2.1 s_ x_.2.2.2.2.2.2.2.1 k_) (fun ρ x_ r_ k_=>k_ 4 (Shape.inj ju.c100011x0 (x_.1,x_.2.1,x_.2.2.1,x_.2.2.2.1,x_.2.2.2.2.1,r_,x_.2.2.2.2.2.2)))
def ju.c100007 {ρ:Type} (text:List UInt8) (i:Int) (a1:List Int) (k_:((List UInt8)×Int)⊕((List UInt8)×Int)→Option ρ):Option ρ:=
 br (decide (i≥(0:Int)))
 (bnd (W.ju.c9 i a1 some) fun y=>
 bnd (iter (fun s↦W.ju.c100011 i y s a1 some) (0:Int)) fun y_1=>
 bnd (okIf (decide ((0:Int)≤y_1) && decide (y_1≤(↑(List.length y):Int)) && decide ((↑(List.length y):Int)≤(↑(List.length y):Int)))) fun y_2=>
 bnd (okIf (decide (List.length text+List.length (List.map (fun n↦UInt8.ofNat (Int.toNat n)) (List.drop (Int.toNat y_1) (List.take (Int.toNat (↑(List.length y):Int)) y)))≤(9223372036854775807:Nat)))) fun y_3=>
 k_ (.inl ((text++List.map (fun n↦UInt8.ofNat (Int.toNat n)) (List.drop (Int.toNat y_1) (List.take (Int.toNat (↑(List.length y):Int)) y))),(IntKind.wrap IntKind.i64 (i - (1:Int))))))
 (k_ (.inr (text,i)))
def ju.c100007s:Shape:=ju.c9s
def ju.c100007x0:Shape:=ju.c9s
def ju.c100007r:Ck:=Ck.ofLoop (S:=(List UInt8)×Int) (T:=(List UInt8)×Int) ju.c100007s (fun x_=>(x_.2.2.1,x_.2.2.2.1)) (fun ρ x_ s_ k_=>ju.c100007 s_.1 s_.2 x_.2.2.2.2.2.1 k_) (fun ρ x_ r_ k_=>k_ 2 (Shape.inj ju.c100007x0 (x_.1,x_.2.1,r_.1,r_.2,x_.2.2.2.2)))
def ju (a:(Bool)×(List Int)):Option (List UInt8):=
 br ((↑(List.length a.2):Int) == (0:Int))
 (some (Array.toList (ByteArray.data (ByteArray.mk #[(48:UInt8)]))))
 (bnd (W.ju.c216389 (Array.toList (ByteArray.data (ByteArray.mk #[]))) a.1 some) fun y=>
 bnd (iter (fun s↦W.ju.c100007 s.1 s.2 a.2 some) (y,IntKind.wrap IntKind.i64 ((↑(List.length a.2):Int) - (1:Int)))) fun y_1=>
 some y_1.1)
def ju.ce:Go.Ql.Callee:=⟨[(.st (.pair .bool (.sl (.int .i64))))],[.str],fun x_=>ju x_⟩
def ju.G:Env:=⟨82,tab,[],[0,1,2,3,4,5,6,10,12,18,72],[],[(9,[⟨[],[],[23,29,30,31,32,33,34,35,36,37,38,39,40,41,42,43,44,45,46,47,48,49,50,51,52,53,54],[]⟩,⟨[0],[],[23,29,30,31,32,33,34,35,36,37,38,39,40,41,42,43,44,45,46,47,48,49,50,51,52,53,54],[]⟩,⟨[],[],[21,22,29,30,31,32,33,34,35,36,37,38,39,40,41,42,43,44,45,46,47,48,49,50,51,52,53,54],[]⟩,⟨[1,0,2],[],[29,30,31,32,33,34,35,36,37,38,39,40,41,42,43,44,45,46,47,48,49,50,51,52,53,54],[]⟩,⟨[3,1,0,2],[],[29,30,31,32,33,34,35,36,37,38,39,40,41,42,43,44,45,46,47,48,49,50,51,52,53,54],[]⟩,⟨[4,3,1,0,2],[],[29,30,31,32,33,34,35,36,37,38,39,40,41,42,43,44,45,46,47,48,49,50,51,52,53,54],[]⟩,⟨[5,4,3,1,0,2],[],[29,30,31,32,33,34,35,36,37,38,39,40,41,42,43,44,45,46,47,48,49,50,51,52,53,54],[]⟩,⟨[6,5,4,3,1,0,2],[],[29,30,31,32,33,34,35,36,37,38,39,40,41,42,43,44,45,46,47,48,49,50,51,52,53,54],[]⟩,⟨[],[],[21,22,23,24,25,26,27,28,31,38,39,40,41,42,43,44,45,46,47,48,49,50,51,52,53,54],[]⟩,⟨[8],[],[21,22,23,24,25,26,27,28,31,38,39,40,41,42,43,44,45,46,47,48,49,50,51,52,53,54],[]⟩,⟨[],[],[21,22,23,24,25,26,27,28,29,30,38,39,40,41,42,43,44,45,46,47,48,49,50,51,52,53,54],[]⟩,⟨[9,8,10],[],[21,22,23,24,25,26,27,28,38,39,40,41,42,43,44,45,46,47,48,49,50,51,52,53,54],[]⟩,⟨[11,9,8,10],[],[21,22,23,24,25,26,27,28,38,39,40,41,42,43,44,45,46,47,48,49,50,51,52,53,54],[]⟩,⟨[12,11,9,8,10],[],[21,22,23,24,25,26,27,28,38,39,40,41,42,43,44,45,46,47,48,49,50,51,52,53,54],[]⟩,⟨[13,12,11,9,8,10],[],[21,22,23,24,25,26,27,28,38,39,40,41,42,43,44,45,46,47,48,49,50,51,52,53,54],[]⟩,⟨[14,13,12,11,9,8,10],[],[21,22,23,24,25,26,27,28,38,39,40,41,42,43,44,45,46,47,48,49,50,51,52,53,54],[]⟩,⟨[15,14,13,12,11,9,8,10],[],[21,22,23,24,25,26,27,28,38,39,40,41,42,43,44,45,46,47,48,49,50,51,52,53,54],[]⟩,⟨[],[],[21,22,23,24,25,26,27,28,29,30,31,32,33,34,35,36,37,40,47,48,49,50,51,52,53,54],[]⟩,⟨[17],[],[21,22,23,24,25,26,27,28,29,30,31,32,33,34,35,36,37,40,47,48,49,50,51,52,53,54],[]⟩,⟨[],[],[21,22,23,24,25,26,27,28,29,30,31,32,33,34,35,36,37,38,39,47,48,49,50,51,52,53,54],[]⟩,⟨[18,17,19],[],[21,22,23,24,25,26,27,28,29,30,31,32,33,34,35,36,37,47,48,49,50,51,52,53,54],[]⟩,⟨[20,18,17,19],[],[21,22,23,24,25,26,27,28,29,30,31,32,33,34,35,36,37,47,48,49,50,51,52,53,54],[]⟩,⟨[21,20,18,17,19],[],[21,22,23,24,25,26,27,28,29,30,31,32,33,34,35,36,37,47,48,49,50,51,52,53,54],[]⟩,⟨[22,21,20,18,17,19],[],[21,22,23,24,25,26,27,28,29,30,31,32,33,34,35,36,37,47,48,49,50,51,52,53,54],[]⟩,⟨[23,22,21,20,18,17,19],[],[21,22,23,24,25,26,27,28,29,30,31,32,33,34,35,36,37,47,48,49,50,51,52,53,54],[]⟩,⟨[24,23,22,21,20,18,17,19],[],[21,22,23,24,25,26,27,28,29,30,31,32,33,34,35,36,37,47,48,49,50,51,52,53,54],[]⟩,⟨[],[],[21,22,23,24,25,26,27,28,29,30,31,32,33,34,35,36,37,38,39,40,41,42,43,44,45,46,49],[]⟩,⟨[26],[],[21,22,23,24,25,26,27,28,29,30,31,32,33,34,35,36,37,38,39,40,41,42,43,44,45,46,49],[]⟩,⟨[],[],[21,22,23,24,25,26,27,28,29,30,31,32,33,34,35,36,37,38,39,40,41,42,43,44,45,46,47,48],[]⟩,⟨[27,26,28],[],[21,22,23,24,25,26,27,28,29,30,31,32,33,34,35,36,37,38,39,40,41,42,43,44,45,46],[]⟩,⟨[29,27,26,28],[],[21,22,23,24,25,26,27,28,29,30,31,32,33,34,35,36,37,38,39,40,41,42,43,44,45,46],[]⟩,⟨[30,29,27,26,28],[],[21,22,23,24,25,26,27,28,29,30,31,32,33,34,35,36,37,38,39,40,41,42,43,44,45,46],[]⟩,⟨[31,30,29,27,26,28],[],[21,22,23,24,25,26,27,28,29,30,31,32,33,34,35,36,37,38,39,40,41,42,43,44,45,46],[]⟩,⟨[32,31,30,29,27,26,28],[],[21,22,23,24,25,26,27,28,29,30,31,32,33,34,35,36,37,38,39,40,41,42,43,44,45,46],[]⟩,⟨[7,6,5,4,3,1,0,2,16,15,14,13,12,11,9,8,10,25,24,23,22,21,20,18,17,19,33,32,31,30,29,27,26,28],[55],[],[]⟩,⟨[34,7,6,5,4,3,1,0,2,16,15,14,13,12,11,9,8,10,25,24,23,22,21,20,18,17,19,33,32,31,30,29,27,26,28],[],[],[]⟩])],[(100007,ju.c100007r),(100011,ju.c100011r),(11,ju.c11r),(9,ju.c9r),(216389,ju.c216389r)],[],tab_eqs⟩
theorem ju.eq (x_:dens ju.ce.params):den ju.G Try.f91 ju.ce.params ju.ce.res x_=ju.ce.F x_:=by kernel_rfl
theorem ju.p0:PcA ju.G Try.f91 0:=
 join_ok (s:=ju.c216389r) (by kernel_rfl) (by kernel_rfl) (sums_of (sh:=ju.c216389s) (fun ρ x_ k_=>(nat_br nat_leaf nat_leaf)) (fun ρ x_ t k=>(by kernel_rfl)) (fun x_=>by kernel_rfl))
theorem ju.p1:PcA ju.G Try.f91 1:=
 loop_ok (s:=ju.c100007r) (by kernel_rfl) (by kernel_rfl) (loops_of (sh:=ju.c100007s) (I:=fun x_ s_=>(x_.1,x_.2.1,s_.1,s_.2,x_.2.2.2.2)) (fun x_=>rfl) (fun ρ x_ s_ k_=>(nat_br (nat_bnd fun _=>(nat_bnd fun _=>(nat_bnd fun _=>(nat_bnd fun _=>nat_leaf)))) nat_leaf)) (fun ρ x_ t k=>(by kernel_rfl)) (fun x_ s=>by kernel_rfl))
theorem ju.p2:PcA ju.G Try.f91 2:=
 region_ok (s:=ju.c9r) (by kernel_rfl) (by kernel_rfl) (sums_of (sh:=ju.c9s) (fun ρ x_ k_=>(nat_bnd fun _=>(nat_bnd fun _=>(nat_bnd fun _=>(nat_bnd fun _=>nat_leaf))))) (fun ρ x_ t k=>(by kernel_rfl)) (fun x_=>by kernel_rfl))
theorem ju.p3:PcA ju.G Try.f91 3:=
 loop_ok (s:=ju.c100011r) (by kernel_rfl) (by kernel_rfl) (loops_of (sh:=ju.c100011s) (I:=fun x_ s_=>(x_.1,x_.2.1,x_.2.2.1,x_.2.2.2.1,x_.2.2.2.2.1,s_,x_.2.2.2.2.2.2)) (fun x_=>rfl) (fun ρ x_ s_ k_=>(nat_bnd fun _=>(nat_br nat_leaf nat_leaf))) (fun ρ x_ t k=>(by kernel_rfl)) (fun x_ s=>by kernel_rfl))
theorem ju.p4:PcA ju.G Try.f91 4:=
 region_ok (s:=ju.c11r) (by kernel_rfl) (by kernel_rfl) (sums_of (sh:=ju.c11s) (fun ρ x_ k_=>(nat_br (nat_br (nat_bnd fun _=>nat_leaf) nat_leaf) nat_leaf)) (fun ρ x_ t k=>(by kernel_rfl)) (fun x_=>by kernel_rfl))
theorem ju.ok:CalleeOk Try.prog 91 ju.ce:=fn_ok (G:=ju.G) tab_ok mixed Try.func91 ⟨fns_nil,mfns_nil,tab_eqs_ok⟩ (m:=5) (by kernel_rfl) ⟨⟨⟨⟨⟨trivial,ju.p0⟩,ju.p1⟩,ju.p2⟩,ju.p3⟩,ju.p4⟩ (by kernel_rfl) ju.eq
def jG.c220486 {ρ:Type} (a_1:(List ((Bool)×(List Int)))×Int) (last:Int) (i:Int) (k_:Int→Option ρ):Option ρ:=
 bnd (idx a_1.1 i) fun y=>
 br (decide ((↑(List.length y.2):Int) > (0:Int)))
 (k_ i)
 (k_ last)
def jG.c220486s:Shape:=⟨[(0,tb100),(1,tb101),(2,tb4),(3,tb5),(4,tb5)],[]⟩
def jG.c220486x0:Shape:=jG.c220486s
def jG.c220486r:Ck:=Ck.of (T:=Int) jG.c220486s (fun ρ x_ k_=>jG.c220486 x_.2.1 x_.2.2.2.1 x_.2.2.2.2.1 k_) (fun ρ x_ r_ k_=>k_ 0 (Shape.inj jG.c220486x0 (x_.1,x_.2.1,x_.2.2.1,r_,x_.2.2.2.2)))
def jG.c100003 {ρ:Type} (a_1:(List ((Bool)×(List Int)))×Int) (last:Int) (i:Int) (k_:(Int×Int)⊕(Int×Int)→Option ρ):Option ρ:=
 br (decide (i < (8:Int)))
 (bnd (W.jG.c220486 a_1 last i some) fun y=>
 k_ (.inl (y,(IntKind.wrap IntKind.i64 (i+(1:Int))))))
 (k_ (.inr (last,i)))
def jG.c100003s:Shape:=jG.c220486s
def jG.c100003x0:Shape:=jG.c220486s
def jG.c100003r:Ck:=Ck.ofLoop (S:=Int×Int) (T:=Int×Int) jG.c100003s (fun x_=>(x_.2.2.2.1,x_.2.2.2.2.1)) (fun ρ x_ s_ k_=>jG.c100003 x_.2.1 s_.1 s_.2 k_) (fun ρ x_ r_ k_=>k_ 2 (Shape.inj jG.c100003x0 (x_.1,x_.2.1,x_.2.2.1,r_.1,r_.2,())))
def jG.c100009 {ρ:Type} (a_1:(List ((Bool)×(List Int)))×Int) (last:Int) (text:List UInt8) (i_1:Int) (k_:((List UInt8)×Int)⊕((List UInt8)×Int)→Option ρ):Option ρ:=
 br (decide (i_1≤last))
 (bnd (idx a_1.1 i_1) fun y=>
 bnd (W.ju y) fun y_1=>
 bnd (okIf (decide (List.length (Array.toList (ByteArray.data (ByteArray.mk #[(44:UInt8)])))+List.length y_1≤(9223372036854775807:Nat)))) fun y_2=>
 bnd (okIf (decide (List.length text+List.length (Array.toList (ByteArray.data (ByteArray.mk #[(44:UInt8)]))++y_1)≤(9223372036854775807:Nat)))) fun y_3=>
 k_ (.inl ((text++(Array.toList (ByteArray.data (ByteArray.mk #[(44:UInt8)]))++y_1)),(IntKind.wrap IntKind.i64 (i_1+(1:Int))))))
 (k_ (.inr (text,i_1)))
def jG.c100009s:Shape:=⟨[(0,tb100),(1,tb101),(2,tb4),(3,tb5),(4,tb5),(5,tb4),(6,tb5)],[]⟩
def jG.c100009x0:Shape:=jG.c100009s
def jG.c100009r:Ck:=Ck.ofLoop (S:=(List UInt8)×Int) (T:=(List UInt8)×Int) jG.c100009s (fun x_=>(x_.2.2.2.2.2.1,x_.2.2.2.2.2.2.1)) (fun ρ x_ s_ k_=>jG.c100009 x_.2.1 x_.2.2.2.1 s_.1 s_.2 k_) (fun ρ x_ r_ k_=>k_ 4 (Shape.inj jG.c100009x0 (x_.1,x_.2.1,x_.2.2.1,x_.2.2.2.1,x_.2.2.2.2.1,r_.1,r_.2,())))
def jG.c249157 {ρ:Type} (a_1:(List ((Bool)×(List Int)))×Int) (text:List UInt8) (k_:List UInt8→Option ρ):Option ρ:=
 br (decide (a_1.2 > (0:Int)))
 (bnd (W.Jm a_1.2) fun y=>
 bnd (W.ju y) fun y_1=>
 bnd (okIf (decide (List.length (Array.toList (ByteArray.data (ByteArray.mk #[(47:UInt8)])))+List.length y_1≤(9223372036854775807:Nat)))) fun y_2=>
 bnd (okIf (decide (List.length text+List.length (Array.toList (ByteArray.data (ByteArray.mk #[(47:UInt8)]))++y_1)≤(9223372036854775807:Nat)))) fun y_3=>
 k_ (text++(Array.toList (ByteArray.data (ByteArray.mk #[(47:UInt8)]))++y_1)))
 (k_ text)
def jG.c249157s:Shape:=jG.c100009s
def jG.c249157x0:Shape:=jG.c100009s
def jG.c249157r:Ck:=Ck.of (T:=List UInt8) jG.c249157s (fun ρ x_ k_=>jG.c249157 x_.2.1 x_.2.2.2.2.2.1 k_) (fun ρ x_ r_ k_=>k_ 0 (Shape.inj jG.c249157x0 (x_.1,x_.2.1,x_.2.2.1,x_.2.2.2.1,x_.2.2.2.2.1,r_,x_.2.2.2.2.2.2)))
def jG (a:(List ((Bool)×(List Int)))×Int):Option (List UInt8):=
 bnd (iter (fun s↦W.jG.c100003 a s.1 s.2 some) ((0:Int),(0:Int))) fun y=>
 bnd (idx a.1 (0:Int)) fun y_1=>
 bnd (W.ju y_1) fun y_2=>
 bnd (iter (fun s↦W.jG.c100009 a y.1 s.1 s.2 some) (y_2,(1:Int))) fun y_3=>
 bnd (W.jG.c249157 a y_3.1 some) fun y_4=>
 some y_4
def jG.ce:Go.Ql.Callee:=⟨[(.st (.pair (.ar 8 (.st (.pair .bool (.sl (.int .i64))))) (.int .i64)))],[.str],fun x_=>jG x_⟩
def jG.G:Env:=⟨47,tab,[(91,ju.ce),(60,Jm.ce)],[0,1,2,3,4,5,6,8,17,25,38],[8000001],[],[(249157,jG.c249157r),(100009,jG.c100009r),(100003,jG.c100003r),(220486,jG.c220486r)],[],tab_eqs⟩
theorem jG.eq (x_:dens jG.ce.params):den jG.G Try.f50 jG.ce.params jG.ce.res x_=jG.ce.F x_:=by kernel_rfl
theorem jG.p0:PcA jG.G Try.f50 0:=
 loop_ok (s:=jG.c100003r) (by kernel_rfl) (by kernel_rfl) (loops_of (sh:=jG.c100003s) (I:=fun x_ s_=>(x_.1,x_.2.1,x_.2.2.1,s_.1,s_.2,())) (fun x_=>rfl) (fun ρ x_ s_ k_=>(nat_br (nat_bnd fun _=>nat_leaf) nat_leaf)) (fun ρ x_ t k=>(by kernel_rfl)) (fun x_ s=>by kernel_rfl))
theorem jG.p1:PcA jG.G Try.f50 1:=
 join_ok (s:=jG.c220486r) (by kernel_rfl) (by kernel_rfl) (sums_of (sh:=jG.c220486s) (fun ρ x_ k_=>(nat_bnd fun _=>(nat_br nat_leaf nat_leaf))) (fun ρ x_ t k=>(by kernel_rfl)) (fun x_=>by kernel_rfl))
theorem jG.p2:PcA jG.G Try.f50 2:=
 loop_ok (s:=jG.c100009r) (by kernel_rfl) (by kernel_rfl) (loops_of (sh:=jG.c100009s) (I:=fun x_ s_=>(x_.1,x_.2.1,x_.2.2.1,x_.2.2.2.1,x_.2.2.2.2.1,s_.1,s_.2,())) (fun x_=>rfl) (fun ρ x_ s_ k_=>(nat_br (nat_bnd fun _=>(nat_bnd fun _=>(nat_bnd fun _=>(nat_bnd fun _=>nat_leaf)))) nat_leaf)) (fun ρ x_ t k=>(by kernel_rfl)) (fun x_ s=>by kernel_rfl))
theorem jG.p3:PcA jG.G Try.f50 3:=
 join_ok (s:=jG.c249157r) (by kernel_rfl) (by kernel_rfl) (sums_of (sh:=jG.c249157s) (fun ρ x_ k_=>(nat_br (nat_bnd fun _=>(nat_bnd fun _=>(nat_bnd fun _=>(nat_bnd fun _=>nat_leaf)))) nat_leaf)) (fun ρ x_ t k=>(by kernel_rfl)) (fun x_=>by kernel_rfl))
theorem jG.ok:CalleeOk Try.prog 50 jG.ce:=fn_ok (G:=jG.G) tab_ok mixed Try.func50 ⟨(fns_cons ju.ok (fns_cons Jm.ok fns_nil)),mfns_nil,tab_eqs_ok⟩ (m:=4) (by kernel_rfl) ⟨⟨⟨⟨trivial,jG.p0⟩,jG.p1⟩,jG.p2⟩,jG.p3⟩ (by kernel_rfl) jG.eq
def Jn.c100003 {ρ:Type} (v:List ((List ((Bool)×(List Int)))×Int)) (x:Int) (out:List (List UInt8)) (k_:(Int×(List (List UInt8)))⊕(Int×(List (List UInt8)))→Option ρ):Option ρ:=
 br (decide (x < (↑(List.length v):Int)))
 (bnd (idx v x) fun y=>
 bnd (W.jG y) fun y_1=>
 bnd (okIf (decide ((List.length out+(1:Nat))*(16:Nat)≤(140737488355328:Nat)) && decide (List.length out+(1:Nat)≤(140737488355328:Nat)))) fun y_2=>
 k_ (.inl ((IntKind.wrap IntKind.i64 (x+(1:Int))),(out++[y_1]))))
 (k_ (.inr (x,out)))
def Jn.c100003s:Shape:=⟨[(0,tb109),(2,tb21),(3,tb46),(4,tb5)],[(3,tb47)]⟩
def Jn.c100003x0:Shape:=Jn.c100003s
def Jn.c100003r:Ck:=Ck.ofLoop (S:=Int×(List (List UInt8))) (T:=Int×(List (List UInt8))) Jn.c100003s (fun x_=>(x_.2.2.1,x_.2.2.2.1)) (fun ρ x_ s_ k_=>Jn.c100003 x_.1 s_.1 s_.2 k_) (fun ρ x_ r_ k_=>k_ 2 (Shape.inj Jn.c100003x0 (x_.1,x_.2.1,r_.1,r_.2,())))
def Jn (v:List ((List ((Bool)×(List Int)))×Int)):Option (List (List UInt8)):=
 bnd (iter (fun s↦W.Jn.c100003 v s.1 s.2 some) ((0:Int),[])) fun y=>
 some y.2
def Jn.ce:Go.Ql.Callee:=⟨[(.sl (.st (.pair (.ar 8 (.st (.pair .bool (.sl (.int .i64))))) (.int .i64))))],[(.sl .str)],fun x_=>Jn x_⟩
def Jn.G:Env:=⟨20,tab,[(50,jG.ce)],[0,2,3,4,8],[3],[],[(100003,Jn.c100003r)],[],tab_eqs⟩
theorem Jn.eq (x_:dens Jn.ce.params):den Jn.G Try.f17 Jn.ce.params Jn.ce.res x_=Jn.ce.F x_:=by kernel_rfl
theorem Jn.p0:PcA Jn.G Try.f17 0:=
 loop_ok (s:=Jn.c100003r) (by kernel_rfl) (by kernel_rfl) (loops_of (sh:=Jn.c100003s) (I:=fun x_ s_=>(x_.1,x_.2.1,s_.1,s_.2,())) (fun x_=>rfl) (fun ρ x_ s_ k_=>(nat_br (nat_bnd fun _=>(nat_bnd fun _=>(nat_bnd fun _=>nat_leaf))) nat_leaf)) (fun ρ x_ t k=>(by kernel_rfl)) (fun x_ s=>by kernel_rfl))
theorem Jn.ok:CalleeOk Try.prog 17 Jn.ce:=fn_ok (G:=Jn.G) tab_ok mixed Try.func17 ⟨(fns_cons jG.ok fns_nil),mfns_nil,tab_eqs_ok⟩ (m:=1) (by kernel_rfl) ⟨trivial,Jn.p0⟩ (by kernel_rfl) Jn.eq
end
end W
end

section
set_option maxHeartbeats 4000000
set_option maxRecDepth 100000
set_option linter.unusedVariables false
namespace W
open Go Go.Ql Go.Proofs
noncomputable section
abbrev tb112:SD:=.one (.ref 10 0)
abbrev tb113:SD:=.one (.ref 23 0)
abbrev tb114:SO:=.box [.own 1023 0,.own 2023 0]
abbrev tb115:SO:=.box [.own 1023 0,.val (.sl (.st (.pair (.int .i64) (.pair (.int .i64) (.pair (.sl (.int .i64)) (.pair (.int .i64) (.pair (.int .i64) (.sl (.int .i64)))))))))]
def jf.c3 {ρ:Type}  (k_:Unit→Option ρ):Option ρ:=
 k_ ()
def jf.c3s:Shape:=⟨[(0,tb38),(1,tb1),(2,tb2),(3,tb12),(4,tb6)],[(1,tb34),(2,tb34),(3,tb19),(4,tb19)]⟩
def jf.c3x0:Shape:=jf.c3s
def jf.c3r:Ck:=Ck.of (T:=Unit) jf.c3s (fun ρ x_ k_=>jf.c3  k_) (fun ρ x_ r_ k_=>k_ 0 (Shape.inj jf.c3x0 (x_.1,x_.2.1,x_.2.2.1,x_.2.2.2.1,(0:Int),(0:Int),[],x_.2.2.2.2.2.2.2.2.2.1,x_.2.2.2.2.2.2.2.2.2.2.1,x_.2.2.2.2.2.2.2.2.2)))
def jf.c9 {ρ:Type} (q:Int) (t1023:List (Int×(Int×(Bool)))) (k_:Unit→Option ρ):Option ρ:=
 bnd (okIf (decide ((0:Int)≤q))) fun y=>
 bnd (okIf (decide ((0:Int)≤q))) fun y_1=>
 bnd (okIf (decide ((List.length t1023+(2:Nat))*(24:Nat)≤(140737488355328:Nat)) && decide (List.length t1023+(2:Nat)≤(140737488355328:Nat)))) fun y_2=>
 k_ ()
def jf.c9s:Shape:=⟨[(0,tb38),(1,tb1),(2,tb2),(3,tb12),(4,tb6),(5,tb5),(6,tb113),(7,tb5),(24,tb5),(25,tb5)],[(1,tb34),(2,tb34),(3,tb19),(4,tb19),(23,tb114),(1023,tb22),(2023,tb30)]⟩
def jf.c9x0:Shape:=jf.c9s
def jf.c9r:Ck:=Ck.of (T:=Unit) jf.c9s (fun ρ x_ k_=>jf.c9 x_.2.2.1 x_.2.2.2.2.2.2.2.2.2.2.2.2.2.2.2.1 k_) (fun ρ x_ r_ k_=>k_ 0 (Shape.inj jf.c9x0 (x_.1,x_.2.1,x_.2.2.1,x_.2.2.2.1,x_.2.2.2.2.1,x_.2.2.2.2.2.1,x_.2.2.2.2.2.2.1,x_.2.2.2.2.2.2.2.1,x_.2.2.2.2.2.2.2.2.1,x_.2.2.2.2.2.2.2.2.2.1,x_.2.2.2.2.2.2.2.2.2.2.1,x_.2.2.2.2.2.2.2.2.2.2.2.1,x_.2.2.2.2.2.2.2.2.2.2.2.2.1,x_.2.2.2.2.2.2.2.2.2.2.2.2.2.1,x_.2.2.2.2.2.2.2.2.2.2.2.2.2.2.1,(x_.2.2.2.2.2.2.2.2.2.2.2.2.2.2.2.1++[(IntKind.wrap IntKind.u64 ((1:Int)*(2:Int) ^ Min.min (Int.toNat x_.2.2.1) (64:Nat)),(0:Int),false),((0:Int),IntKind.wrap IntKind.u64 ((1:Int)*(2:Int) ^ Min.min (Int.toNat x_.2.2.1) (64:Nat)),false)]),x_.2.2.2.2.2.2.2.2.2.2.2.2.2.2.2.2)))
def jf.c100007 {ρ:Type} (t24:Int) (t25:Int) (t1023:List (Int×(Int×(Bool)))) (k_:(Int×(List (Int×(Int×(Bool)))))⊕(Int×(List (Int×(Int×(Bool)))))→Option ρ):Option ρ:=
 br (decide (t25 < t24))
 (bnd (W.jf.c9 t25 t1023 some) fun y=>
 k_ (.inl ((IntKind.wrap IntKind.i64 (t25+(1:Int))),(t1023++[(IntKind.wrap IntKind.u64 ((1:Int)*(2:Int) ^ Min.min (Int.toNat t25) (64:Nat)),(0:Int),false),((0:Int),IntKind.wrap IntKind.u64 ((1:Int)*(2:Int) ^ Min.min (Int.toNat t25) (64:Nat)),false)]))))
 (k_ (.inr (t25,t1023)))
def jf.c100007s:Shape:=⟨[(0,tb38),(1,tb1),(2,tb2),(3,tb12),(4,tb6),(5,tb5),(6,tb113),(24,tb5),(25,tb5)],[(1,tb34),(2,tb34),(3,tb19),(4,tb19),(23,tb114),(1023,tb22),(2023,tb30)]⟩
def jf.c100007x0:Shape:=jf.c100007s
def jf.c100007r:Ck:=Ck.ofLoop (S:=Int×(List (Int×(Int×(Bool))))) (T:=Int×(List (Int×(Int×(Bool))))) jf.c100007s (fun x_=>(x_.2.2.2.1,x_.2.2.2.2.2.2.2.2.2.2.2.2.2.2.1)) (fun ρ x_ s_ k_=>jf.c100007 x_.2.2.1 s_.1 s_.2 k_) (fun ρ x_ r_ k_=>k_ 2 (Shape.inj jf.c100007x0 (x_.1,x_.2.1,x_.2.2.1,r_.1,x_.2.2.2.2.1,x_.2.2.2.2.2.1,x_.2.2.2.2.2.2.1,x_.2.2.2.2.2.2.2.1,x_.2.2.2.2.2.2.2.2.1,x_.2.2.2.2.2.2.2.2.2.1,x_.2.2.2.2.2.2.2.2.2.2.1,x_.2.2.2.2.2.2.2.2.2.2.2.1,x_.2.2.2.2.2.2.2.2.2.2.2.2.1,x_.2.2.2.2.2.2.2.2.2.2.2.2.2.1,r_.2,x_.2.2.2.2.2.2.2.2.2.2.2.2.2.2.2)))
def jf.c100012 {ρ:Type} (t45:List (Int×(Int×((List Int)×(Int×(Int×(List Int))))))) (t46:Int) (t47:Int) (t1023:List (Int×(Int×(Bool)))) (t2023:List (Int×(Int×((List Int)×(Int×(Int×(List Int))))))) (k_:(Int×(List (Int×(Int×(Bool))))×(List (Int×(Int×((List Int)×(Int×(Int×(List Int))))))))⊕(Int×(List (Int×(Int×(Bool))))×(List (Int×(Int×((List Int)×(Int×(Int×(List Int))))))))→Option ρ):Option ρ:=
 br (decide (t47 < t46))
 (bnd (idx t45 t47) fun y=>
 bnd (W.jl (y.1,y.2.1,y.2.2.1,y.2.2.2.1,y.2.2.2.2.1,y.2.2.2.2.2) t1023 t2023) fun y_1=>
 k_ (.inl ((IntKind.wrap IntKind.i64 (t47+(1:Int))),y_1.1,y_1.2.1)))
 (k_ (.inr (t47,t1023,t2023)))
def jf.c100012s:Shape:=⟨[(0,tb38),(1,tb1),(2,tb2),(3,tb12),(4,tb6),(5,tb5),(6,tb113),(24,tb5),(25,tb5),(45,tb31),(46,tb5),(47,tb5)],[(1,tb34),(2,tb34),(3,tb19),(4,tb19),(23,tb114),(1023,tb22),(2023,tb30)]⟩
def jf.c100012x0:Shape:=jf.c100012s
def jf.c100012r:Ck:=Ck.ofLoop (S:=Int×(List (Int×(Int×(Bool))))×(List (Int×(Int×((List Int)×(Int×(Int×(List Int)))))))) (T:=Int×(List (Int×(Int×(Bool))))×(List (Int×(Int×((List Int)×(Int×(Int×(List Int)))))))) jf.c100012s (fun x_=>(x_.2.2.2.2.2.2.1,x_.2.2.2.2.2.2.2.2.2.2.2.2.2.2.2.2.2.1,x_.2.2.2.2.2.2.2.2.2.2.2.2.2.2.2.2.2.2.1)) (fun ρ x_ s_ k_=>jf.c100012 x_.2.2.2.2.1 x_.2.2.2.2.2.1 s_.1 s_.2.1 s_.2.2 k_) (fun ρ x_ r_ k_=>k_ 4 (Shape.inj jf.c100012x0 (x_.1,x_.2.1,x_.2.2.1,x_.2.2.2.1,x_.2.2.2.2.1,x_.2.2.2.2.2.1,r_.1,x_.2.2.2.2.2.2.2.1,x_.2.2.2.2.2.2.2.2.1,x_.2.2.2.2.2.2.2.2.2.1,x_.2.2.2.2.2.2.2.2.2.2.1,x_.2.2.2.2.2.2.2.2.2.2.2.1,x_.2.2.2.2.2.2.2.2.2.2.2.2.1,x_.2.2.2.2.2.2.2.2.2.2.2.2.2.1,x_.2.2.2.2.2.2.2.2.2.2.2.2.2.2.1,x_.2.2.2.2.2.2.2.2.2.2.2.2.2.2.2.1,x_.2.2.2.2.2.2.2.2.2.2.2.2.2.2.2.2.1,r_.2.1,r_.2.2,())))
def jf.c298309 {ρ:Type} (q:Int) (t1023:List (Int×(Int×(Bool)))) (t2023:List (Int×(Int×((List Int)×(Int×(Int×(List Int))))))) (k_:(List (Int×(Int×(Bool))))×(List (Int×(Int×((List Int)×(Int×(Int×(List Int)))))))→Option ρ):Option ρ:=
 bnd (inR (List.length t1023) (IntKind.wrap IntKind.i64 ((2:Int)*q))) fun y=>
 bnd (idx t1023 (IntKind.wrap IntKind.i64 ((2:Int)*q))) fun y_1=>
 br y_1.2.2
 (bnd (W.jl ((4:Int),(8:Int),[],q,(0:Int),[]) t1023 t2023) fun y_2=>
 k_ (y_2.1,y_2.2.1))
 (k_ (t1023,t2023))
def jf.c298309s:Shape:=⟨[(0,tb38),(1,tb1),(2,tb2),(3,tb12),(4,tb6),(5,tb5),(6,tb113),(10,tb5),(24,tb5),(25,tb5),(45,tb31),(46,tb5),(47,tb5),(58,tb5),(59,tb5)],[(1,tb34),(2,tb34),(3,tb19),(4,tb19),(23,tb114),(1023,tb22),(2023,tb30)]⟩
def jf.c298309x0:Shape:=jf.c298309s
def jf.c298309r:Ck:=Ck.of (T:=(List (Int×(Int×(Bool))))×(List (Int×(Int×((List Int)×(Int×(Int×(List Int)))))))) jf.c298309s (fun ρ x_ k_=>jf.c298309 x_.2.2.1 x_.2.2.2.2.2.2.2.2.2.2.2.2.2.2.2.2.2.2.2.2.1 x_.2.2.2.2.2.2.2.2.2.2.2.2.2.2.2.2.2.2.2.2.2.1 k_) (fun ρ x_ r_ k_=>k_ 0 (Shape.inj jf.c298309x0 (x_.1,x_.2.1,x_.2.2.1,x_.2.2.2.1,x_.2.2.2.2.1,x_.2.2.2.2.2.1,x_.2.2.2.2.2.2.1,x_.2.2.2.2.2.2.2.1,x_.2.2.2.2.2.2.2.2.1,x_.2.2.2.2.2.2.2.2.2.1,x_.2.2.2.2.2.2.2.2.2.2.1,x_.2.2.2.2.2.2.2.2.2.2.2.1,x_.2.2.2.2.2.2.2.2.2.2.2.2.1,x_.2.2.2.2.2.2.2.2.2.2.2.2.2.1,x_.2.2.2.2.2.2.2.2.2.2.2.2.2.2.1,x_.2.2.2.2.2.2.2.2.2.2.2.2.2.2.2.1,x_.2.2.2.2.2.2.2.2.2.2.2.2.2.2.2.2.1,x_.2.2.2.2.2.2.2.2.2.2.2.2.2.2.2.2.2.1,x_.2.2.2.2.2.2.2.2.2.2.2.2.2.2.2.2.2.2.1,x_.2.2.2.2.2.2.2.2.2.2.2.2.2.2.2.2.2.2.2.1,r_.1,r_.2,())))
def jf.c277846 {ρ:Type} (n:Int) (t59:Int) (t1023:List (Int×(Int×(Bool)))) (t2023:List (Int×(Int×((List Int)×(Int×(Int×(List Int))))))) (k_:(List (Int×(Int×(Bool))))×(List (Int×(Int×((List Int)×(Int×(Int×(List Int)))))))→Option ρ):Option ρ:=
 bnd (W.jc (IntKind.wrap IntKind.i64 ((2:Int)*t59)) t59 n t1023 t2023) fun y=>
 bnd (W.jl ((3:Int),(0:Int),[],t59,(0:Int),[]) y.1 y.2.1) fun y_1=>
 bnd (W.jc (IntKind.wrap IntKind.i64 (IntKind.wrap IntKind.i64 ((2:Int)*t59)+(1:Int))) t59 n y_1.1 y_1.2.1) fun y_2=>
 bnd (W.jl ((3:Int),(0:Int),[],t59,(0:Int),[]) y_2.1 y_2.2.1) fun y_3=>
 bnd (W.jf.c298309 t59 y_3.1 y_3.2.1 some) fun y_4=>
 bnd (inR (List.length y_4.1) (IntKind.wrap IntKind.i64 (IntKind.wrap IntKind.i64 ((2:Int)*t59)+(1:Int)))) fun y_5=>
 bnd (idx y_4.1 (IntKind.wrap IntKind.i64 (IntKind.wrap IntKind.i64 ((2:Int)*t59)+(1:Int)))) fun y_6=>
 br y_6.2.2
 (bnd (W.jl ((2:Int),(0:Int),[],t59,(0:Int),[]) y_4.1 y_4.2) fun y_7=>
 k_ (y_7.1,y_7.2.1))
 (k_ (y_4.1,y_4.2))
def jf.c277846s:Shape:=⟨[(0,tb38),(1,tb1),(2,tb2),(3,tb12),(4,tb6),(5,tb5),(6,tb113),(24,tb5),(25,tb5),(45,tb31),(46,tb5),(47,tb5),(58,tb5),(59,tb5)],[(1,tb34),(2,tb34),(3,tb19),(4,tb19),(23,tb114),(1023,tb22),(2023,tb30)]⟩
def jf.c277846x0:Shape:=jf.c277846s
def jf.c277846r:Ck:=Ck.of (T:=(List (Int×(Int×(Bool))))×(List (Int×(Int×((List Int)×(Int×(Int×(List Int)))))))) jf.c277846s (fun ρ x_ k_=>jf.c277846 x_.2.1 x_.2.2.2.2.2.2.2.2.1 x_.2.2.2.2.2.2.2.2.2.2.2.2.2.2.2.2.2.2.2.1 x_.2.2.2.2.2.2.2.2.2.2.2.2.2.2.2.2.2.2.2.2.1 k_) (fun ρ x_ r_ k_=>k_ 0 (Shape.inj jf.c277846x0 (x_.1,x_.2.1,x_.2.2.1,x_.2.2.2.1,x_.2.2.2.2.1,x_.2.2.2.2.2.1,x_.2.2.2.2.2.2.1,x_.2.2.2.2.2.2.2.1,x_.2.2.2.2.2.2.2.2.1,x_.2.2.2.2.2.2.2.2.2.1,x_.2.2.2.2.2.2.2.2.2.2.1,x_.2.2.2.2.2.2.2.2.2.2.2.1,x_.2.2.2.2.2.2.2.2.2.2.2.2.1,x_.2.2.2.2.2.2.2.2.2.2.2.2.2.1,x_.2.2.2.2.2.2.2.2.2.2.2.2.2.2.1,x_.2.2.2.2.2.2.2.2.2.2.2.2.2.2.2.1,x_.2.2.2.2.2.2.2.2.2.2.2.2.2.2.2.2.1,x_.2.2.2.2.2.2.2.2.2.2.2.2.2.2.2.2.2.1,x_.2.2.2.2.2.2.2.2.2.2.2.2.2.2.2.2.2.2.1,r_.1,r_.2,())))
def jf.c100018 {ρ:Type} (n:Int) (t58:Int) (t59:Int) (t1023:List (Int×(Int×(Bool)))) (t2023:List (Int×(Int×((List Int)×(Int×(Int×(List Int))))))) (k_:(Int×(List (Int×(Int×(Bool))))×(List (Int×(Int×((List Int)×(Int×(Int×(List Int))))))))⊕(Int×(List (Int×(Int×(Bool))))×(List (Int×(Int×((List Int)×(Int×(Int×(List Int))))))))→Option ρ):Option ρ:=
 br (decide (t59 < t58))
 (bnd (W.jf.c277846 n t59 t1023 t2023 some) fun y=>
 k_ (.inl ((IntKind.wrap IntKind.i64 (t59+(1:Int))),y.1,y.2)))
 (k_ (.inr (t59,t1023,t2023)))
def jf.c100018s:Shape:=jf.c277846s
def jf.c100018x0:Shape:=jf.c277846s
def jf.c100018r:Ck:=Ck.ofLoop (S:=Int×(List (Int×(Int×(Bool))))×(List (Int×(Int×((List Int)×(Int×(Int×(List Int)))))))) (T:=Int×(List (Int×(Int×(Bool))))×(List (Int×(Int×((List Int)×(Int×(Int×(List Int)))))))) jf.c100018s (fun x_=>(x_.2.2.2.2.2.2.2.2.1,x_.2.2.2.2.2.2.2.2.2.2.2.2.2.2.2.2.2.2.2.1,x_.2.2.2.2.2.2.2.2.2.2.2.2.2.2.2.2.2.2.2.2.1)) (fun ρ x_ s_ k_=>jf.c100018 x_.2.1 x_.2.2.2.2.2.2.2.1 s_.1 s_.2.1 s_.2.2 k_) (fun ρ x_ r_ k_=>k_ 6 (Shape.inj jf.c100018x0 (x_.1,x_.2.1,x_.2.2.1,x_.2.2.2.1,x_.2.2.2.2.1,x_.2.2.2.2.2.1,x_.2.2.2.2.2.2.1,x_.2.2.2.2.2.2.2.1,r_.1,x_.2.2.2.2.2.2.2.2.2.1,x_.2.2.2.2.2.2.2.2.2.2.1,x_.2.2.2.2.2.2.2.2.2.2.2.1,x_.2.2.2.2.2.2.2.2.2.2.2.2.1,x_.2.2.2.2.2.2.2.2.2.2.2.2.2.1,x_.2.2.2.2.2.2.2.2.2.2.2.2.2.2.1,x_.2.2.2.2.2.2.2.2.2.2.2.2.2.2.2.1,x_.2.2.2.2.2.2.2.2.2.2.2.2.2.2.2.2.1,x_.2.2.2.2.2.2.2.2.2.2.2.2.2.2.2.2.2.1,x_.2.2.2.2.2.2.2.2.2.2.2.2.2.2.2.2.2.2.1,r_.2.1,r_.2.2,())))
def jf.c29 {ρ:Type} (n:Int) (c1:Int) (t2023:List (Int×(Int×((List Int)×(Int×(Int×(List Int))))))) (k_:Int×Int×(List (Int×(Int×((List Int)×(Int×(Int×(List Int)))))))×Int×Int→Option ρ):Option ρ:=
 bnd (W.jU (n,c1,t2023)) fun y=>
 k_ (y.1.1,y.1.2.1,y.1.2.2,y.2.1,y.2.2)
def jf.c29s:Shape:=jf.c277846s
def jf.c29x0:Shape:=⟨[(0,tb38),(1,tb1),(2,tb2),(3,tb12),(4,tb6),(5,tb5),(6,tb113),(11,tb23),(24,tb5),(25,tb5),(45,tb31),(46,tb5),(47,tb5),(58,tb5),(59,tb5)],[(1,tb34),(2,tb34),(3,tb19),(4,tb19),(11,tb34),(12,tb19),(23,tb115),(1023,tb22)]⟩
def jf.c29r:Ck:=Ck.of (T:=Int×Int×(List (Int×(Int×((List Int)×(Int×(Int×(List Int)))))))×Int×Int) jf.c29s (fun ρ x_ k_=>jf.c29 x_.2.1 x_.2.2.2.2.2.2.2.2.2.2.1 x_.2.2.2.2.2.2.2.2.2.2.2.2.2.2.2.2.2.2.2.2.1 k_) (fun ρ x_ r_ k_=>uP x_ fun c x_=>uP x_ fun n x_=>uP x_ fun t24 x_=>uP x_ fun t25 x_=>uP x_ fun t45 x_=>uP x_ fun t46 x_=>uP x_ fun t47 x_=>uP x_ fun t58 x_=>uP x_ fun t59 x_=>uP x_ fun c0 x_=>uP x_ fun c1 x_=>uP x_ fun c2 x_=>uP x_ fun t20 x_=>uP x_ fun t21 x_=>uP x_ fun t22 x_=>uP x_ fun t30 x_=>uP x_ fun t31 x_=>uP x_ fun f0 x_=>uP x_ fun f1 x_=>uP x_ fun t1023 x_=>uP x_ fun t2023 x_=>k_ 0 (Shape.inj jf.c29x0 (c,n,t24,t25,t45,t46,t47,t58,t59,c0,c1,c2,t20,t21,t22,t30,t31,f0,f1,r_.1,r_.2.1,r_.2.2.1,r_.2.2.2.1,r_.2.2.2.2,t2023,t1023,())))
def jf (c:Int×(Int×(List (Int×(Int×((List Int)×(Int×(Int×(List Int))))))))):Option ((Int×(Int×(List (Int×(Int×((List Int)×(Int×(Int×(List Int)))))))))×(Int×Int)):=
 bnd (W.Jw (c.1,c.2.1,c.2.2)) fun y=>
 br (y.1 != (0:Int))
 (bnd (W.jf.c3 some) fun y_1=>
 some (((0:Int),(0:Int),[]),y.1,y.2))
 (bnd (iter (fun s↦W.jf.c100007 c.1 s.1 s.2 some) ((0:Int),[])) fun y_2=>
 bnd (iter (fun s↦W.jf.c100012 c.2.2 (↑(List.length c.2.2):Int) s.1 s.2.1 s.2.2 some) ((0:Int),y_2.2,[])) fun y_3=>
 bnd (iter (fun s↦W.jf.c100018 c.1 c.1 s.1 s.2.1 s.2.2 some) ((0:Int),y_3.2.1,[])) fun y_4=>
 bnd (W.jf.c29 c.1 c.2.1 y_4.2.2 some) fun y_5=>
 some ((y_5.1,y_5.2.1,y_5.2.2.1),(0:Int),(0:Int)))
def jf.ce:Go.Ql.Callee:=⟨[(.st (.pair (.int .i64) (.pair (.int .i64) (.sl (.st (.pair (.int .i64) (.pair (.int .i64) (.pair (.sl (.int .i64)) (.pair (.int .i64) (.pair (.int .i64) (.sl (.int .i64))))))))))))],[(.st (.pair (.int .i64) (.pair (.int .i64) (.sl (.st (.pair (.int .i64) (.pair (.int .i64) (.pair (.sl (.int .i64)) (.pair (.int .i64) (.pair (.int .i64) (.sl (.int .i64)))))))))))),(.st (.pair (.int .i64) (.int .i64)))],fun x_=>jf x_⟩
def jf.G:Env:=⟨125,tab,[(55,Jw.ce),(69,jU.ce)],[0,1,2,3,4,5,6,7,9,10,11,17,24,25,26,45,46,47,48,58,59,60,91,105],[22,23,1023,2023],[(29,[⟨[],[],[113,114,115,116,117,118,11,12],[11,12]⟩,⟨[],[],[112,115,116,117,118,11,12],[11,12]⟩,⟨[1],[],[112,115,116,117,118,11,12],[11,12]⟩,⟨[],[],[112,113,114,11,12],[11,12]⟩,⟨[3],[],[112,113,114,11,12],[11,12]⟩,⟨[4,3],[],[112,113,114,11,12],[11,12]⟩,⟨[5,4,3],[],[112,113,114,11,12],[11,12]⟩,⟨[0,2,1,6,5,4,3],[],[11,12],[11,12]⟩,⟨[7,0,2,1,6,5,4,3],[2023],[11,12],[11,12]⟩,⟨[8,7,0,2,1,6,5,4,3],[],[11,12],[11,12]⟩,⟨[9,8,7,0,2,1,6,5,4,3],[],[122,11,12],[11,12]⟩,⟨[9,8,7,0,2,1,6,5,4,3],[],[121,11,12],[11,12]⟩,⟨[],[11],[112,113,114,115,116,117,118,119,120,111,121,122,12],[2023,12]⟩,⟨[],[12],[112,113,114,115,116,117,118,119,120,111,121,122,11],[2023,11]⟩,⟨[12,10,9,8,7,0,2,1,6,5,4,3,13],[11],[122],[]⟩,⟨[13,11,9,8,7,0,2,1,6,5,4,3,14,12,10],[12],[],[]⟩]),
 (9,[⟨[],[],[29,30,31,32,33,34,35,36,37,38,39,40],[39,1023]⟩,⟨[],[],[28,33,34,35,36,37,38,39],[39]⟩,⟨[1],[],[28,33,34,35,36,37,38,39],[39]⟩,⟨[2,1],[],[28,33,34,35,36,37,38,39],[39]⟩,⟨[3,2,1],[],[28,33,34,35,36,37,38,39],[39]⟩,⟨[],[],[28,29,30,31,32,36,37,38],[]⟩,⟨[5],[],[28,29,30,31,32,36,37,38],[]⟩,⟨[6,5],[],[28,29,30,31,32,36,37,38],[]⟩,⟨[],[],[28,29,30,31,32,33,34,35],[]⟩,⟨[8],[],[28,29,30,31,32,33,34,35],[]⟩,⟨[9,8],[],[28,29,30,31,32,33,34,35],[]⟩,⟨[7,6,5,10,9,8],[39],[28,29,30,31,32],[]⟩,⟨[4,3,2,1,11,7,6,5,10,9,8],[1023],[28],[]⟩,⟨[0,1,2,3,4,5,6,7,8,9,10,11,12],[],[],[]⟩,⟨[13,0,1,2,3,4,5,6,7,8,9,10,11,12],[],[],[]⟩,⟨[14,13,0,1,2,3,4,5,6,7,8,9,10,11,12],[23],[],[]⟩]),
 (3,[⟨[],[],[19],[]⟩,⟨[],[],[18],[2]⟩,⟨[0],[2],[19],[]⟩,⟨[1,2,0],[3],[],[]⟩])],[(29,jf.c29r),(100018,jf.c100018r),(277846,jf.c277846r),(298309,jf.c298309r),(100012,jf.c100012r),(100007,jf.c100007r),(9,jf.c9r),(3,jf.c3r)],[(67,jl.mc),(68,jc.mc)],tab_eqs⟩
theorem jf.eq (x_:dens jf.ce.params):den jf.G Try.f25 jf.ce.params jf.ce.res x_=jf.ce.F x_:=by kernel_rfl
theorem jf.p0:PcA jf.G Try.f25 0:=
 region_ok (s:=jf.c3r) (by kernel_rfl) (by kernel_rfl) (sums_of (sh:=jf.c3s) (fun ρ x_ k_=>nat_leaf) (fun ρ x_ t k=>(by kernel_rfl)) (fun x_=>by kernel_rfl))
theorem jf.p1:PcA jf.G Try.f25 1:=
 loop_ok (s:=jf.c100007r) (by kernel_rfl) (by kernel_rfl) (loops_of (sh:=jf.c100007s) (I:=fun x_ s_=>(x_.1,x_.2.1,x_.2.2.1,s_.1,x_.2.2.2.2.1,x_.2.2.2.2.2.1,x_.2.2.2.2.2.2.1,x_.2.2.2.2.2.2.2.1,x_.2.2.2.2.2.2.2.2.1,x_.2.2.2.2.2.2.2.2.2.1,x_.2.2.2.2.2.2.2.2.2.2.1,x_.2.2.2.2.2.2.2.2.2.2.2.1,x_.2.2.2.2.2.2.2.2.2.2.2.2.1,x_.2.2.2.2.2.2.2.2.2.2.2.2.2.1,s_.2,x_.2.2.2.2.2.2.2.2.2.2.2.2.2.2.2)) (fun x_=>rfl) (fun ρ x_ s_ k_=>(nat_br (nat_bnd fun _=>nat_leaf) nat_leaf)) (fun ρ x_ t k=>(by kernel_rfl)) (fun x_ s=>by kernel_rfl))
theorem jf.p2:PcA jf.G Try.f25 2:=
 region_ok (s:=jf.c9r) (by kernel_rfl) (by kernel_rfl) (sums_of (sh:=jf.c9s) (fun ρ x_ k_=>(nat_bnd fun _=>(nat_bnd fun _=>(nat_bnd fun _=>nat_leaf)))) (fun ρ x_ t k=>(by kernel_rfl)) (fun x_=>by kernel_rfl))
theorem jf.p3:PcA jf.G Try.f25 3:=
 loop_ok (s:=jf.c100012r) (by kernel_rfl) (by kernel_rfl) (loops_of (sh:=jf.c100012s) (I:=fun x_ s_=>(x_.1,x_.2.1,x_.2.2.1,x_.2.2.2.1,x_.2.2.2.2.1,x_.2.2.2.2.2.1,s_.1,x_.2.2.2.2.2.2.2.1,x_.2.2.2.2.2.2.2.2.1,x_.2.2.2.2.2.2.2.2.2.1,x_.2.2.2.2.2.2.2.2.2.2.1,x_.2.2.2.2.2.2.2.2.2.2.2.1,x_.2.2.2.2.2.2.2.2.2.2.2.2.1,x_.2.2.2.2.2.2.2.2.2.2.2.2.2.1,x_.2.2.2.2.2.2.2.2.2.2.2.2.2.2.1,x_.2.2.2.2.2.2.2.2.2.2.2.2.2.2.2.1,x_.2.2.2.2.2.2.2.2.2.2.2.2.2.2.2.2.1,s_.2.1,s_.2.2,())) (fun x_=>rfl) (fun ρ x_ s_ k_=>(nat_br (nat_bnd fun _=>(nat_bnd fun _=>nat_leaf)) nat_leaf)) (fun ρ x_ t k=>(by kernel_rfl)) (fun x_ s=>by kernel_rfl))
theorem jf.p4:PcA jf.G Try.f25 4:=
 loop_ok (s:=jf.c100018r) (by kernel_rfl) (by kernel_rfl) (loops_of (sh:=jf.c100018s) (I:=fun x_ s_=>(x_.1,x_.2.1,x_.2.2.1,x_.2.2.2.1,x_.2.2.2.2.1,x_.2.2.2.2.2.1,x_.2.2.2.2.2.2.1,x_.2.2.2.2.2.2.2.1,s_.1,x_.2.2.2.2.2.2.2.2.2.1,x_.2.2.2.2.2.2.2.2.2.2.1,x_.2.2.2.2.2.2.2.2.2.2.2.1,x_.2.2.2.2.2.2.2.2.2.2.2.2.1,x_.2.2.2.2.2.2.2.2.2.2.2.2.2.1,x_.2.2.2.2.2.2.2.2.2.2.2.2.2.2.1,x_.2.2.2.2.2.2.2.2.2.2.2.2.2.2.2.1,x_.2.2.2.2.2.2.2.2.2.2.2.2.2.2.2.2.1,x_.2.2.2.2.2.2.2.2.2.2.2.2.2.2.2.2.2.1,x_.2.2.2.2.2.2.2.2.2.2.2.2.2.2.2.2.2.2.1,s_.2.1,s_.2.2,())) (fun x_=>rfl) (fun ρ x_ s_ k_=>(nat_br (nat_bnd fun _=>nat_leaf) nat_leaf)) (fun ρ x_ t k=>(by kernel_rfl)) (fun x_ s=>by kernel_rfl))
theorem jf.p5:PcA jf.G Try.f25 5:=
 join_ok (s:=jf.c277846r) (by kernel_rfl) (by kernel_rfl) (sums_of (sh:=jf.c277846s) (fun ρ x_ k_=>(nat_bnd fun _=>(nat_bnd fun _=>(nat_bnd fun _=>(nat_bnd fun _=>(nat_bnd fun _=>(nat_bnd fun _=>(nat_bnd fun _=>(nat_br (nat_bnd fun _=>nat_leaf) nat_leaf))))))))) (fun ρ x_ t k=>(by kernel_rfl)) (fun x_=>by kernel_rfl))
theorem jf.p6:PcA jf.G Try.f25 6:=
 join_ok (s:=jf.c298309r) (by kernel_rfl) (by kernel_rfl) (sums_of (sh:=jf.c298309s) (fun ρ x_ k_=>(nat_bnd fun _=>(nat_bnd fun _=>(nat_br (nat_bnd fun _=>nat_leaf) nat_leaf)))) (fun ρ x_ t k=>(by kernel_rfl)) (fun x_=>by kernel_rfl))
theorem jf.p7:PcA jf.G Try.f25 7:=
 region_ok (s:=jf.c29r) (by kernel_rfl) (by kernel_rfl) (sums_of (sh:=jf.c29s) (fun ρ x_ k_=>(nat_bnd fun _=>nat_leaf)) (fun ρ x_ t k=>(by kernel_rfl)) (fun x_=>by kernel_rfl))
theorem jf.ok:CalleeOk Try.prog 25 jf.ce:=fn_ok (G:=jf.G) tab_ok mixed Try.func25 ⟨(fns_cons Jw.ok (fns_cons jU.ok fns_nil)),(mfns_cons jl.ok (mfns_cons jc.ok mfns_nil)),tab_eqs_ok⟩ (m:=8) (by kernel_rfl) ⟨⟨⟨⟨⟨⟨⟨⟨trivial,jf.p0⟩,jf.p1⟩,jf.p2⟩,jf.p3⟩,jf.p4⟩,jf.p5⟩,jf.p6⟩,jf.p7⟩ (by kernel_rfl) jf.eq
def jt.c4 {ρ:Type} (bits:List Int) (i:Int) (o5:List Int) (k_:Bool→Option ρ):Option ρ:=
 bnd (idx o5 i) fun y=>
 br (decide (y > (0:Int)))
 (bnd (idx o5 i) fun y_1=>
 bnd (idx bits (IntKind.wrap IntKind.i64 (y_1 - (1:Int)))) fun y_2=>
 k_ (y_2 != (1:Int)))
 (k_ false)
def jt.c4s:Shape:=⟨[(0,tb25),(1,tb36),(2,tb2),(4,tb7),(5,tb5)],[(2,tb26)]⟩
def jt.c4x0:Shape:=⟨[(0,tb25),(1,tb36),(2,tb2),(4,tb7),(5,tb5),(30,tb7)],[(2,tb26)]⟩
def jt.c4r:Ck:=Ck.of (T:=Bool) jt.c4s (fun ρ x_ k_=>jt.c4 x_.2.1 x_.2.2.2.1 x_.2.2.2.2.2.2.2.2.2.1 k_) (fun ρ x_ r_ k_=>k_ 0 (Shape.inj jt.c4x0 (x_.1,x_.2.1,x_.2.2.1,x_.2.2.2.1,r_,x_.2.2.2.2)))
def jt.c6 {ρ:Type} (bits:List Int) (i:Int) (o5:List Int) (k_:Bool→Option ρ):Option ρ:=
 bnd (idx o5 i) fun y=>
 br (decide (y < (0:Int)))
 (bnd (idx o5 i) fun y_1=>
 bnd (idx bits (IntKind.wrap IntKind.i64 (IntKind.wrap IntKind.i64 ((0:Int) - y_1) - (1:Int)))) fun y_2=>
 k_ (y_2 != (0:Int)))
 (k_ false)
def jt.c6s:Shape:=jt.c4s
def jt.c6x0:Shape:=⟨[(0,tb25),(1,tb36),(2,tb2),(4,tb7),(5,tb5),(49,tb7)],[(2,tb26)]⟩
def jt.c6r:Ck:=Ck.of (T:=Bool) jt.c6s (fun ρ x_ k_=>jt.c6 x_.2.1 x_.2.2.2.1 x_.2.2.2.2.2.2.2.2.2.1 k_) (fun ρ x_ r_ k_=>k_ 0 (Shape.inj jt.c6x0 (x_.1,x_.2.1,x_.2.2.1,x_.2.2.2.1,r_,x_.2.2.2.2)))
def jt.c100002 {ρ:Type} (bits:List Int) (i:Int) (o5:List Int) (k_:Int⊕(Int⊕Int)→Option ρ):Option ρ:=
 br (decide (i < (↑(List.length o5):Int)))
 (bnd (W.jt.c4 bits i o5 some) fun y=>
 br y
 (k_ (.inr (.inl i)))
 (bnd (W.jt.c6 bits i o5 some) fun y_1=>
 br y_1
 (k_ (.inr (.inl i)))
 (k_ (.inl (IntKind.wrap IntKind.i64 (i+(1:Int)))))))
 (k_ (.inr (.inr i)))
def jt.c100002s:Shape:=jt.c4s
def jt.c100002x0:Shape:=jt.c4s
def jt.c100002x1:Shape:=jt.c4s
def jt.c100002r:Ck:=Ck.ofLoop (S:=Int) (T:=Int⊕Int) jt.c100002s (fun x_=>x_.2.2.2.1) (fun ρ x_ s_ k_=>jt.c100002 x_.2.1 s_ x_.2.2.2.2.2.2.2.2.2.1 k_) (fun ρ x_ r_ k_=>sel r_ (fun r_=>k_ 1 (Shape.inj jt.c100002x0 (x_.1,x_.2.1,false,r_,x_.2.2.2.2))) (fun r_=>k_ 2 (Shape.inj jt.c100002x1 (x_.1,x_.2.1,x_.2.2.1,r_,x_.2.2.2.2))))
def jt (o:Int×(Int×((List Int)×(Int×(Int×(List Int)))))) (bits:List Int):Option (Bool):=
 bnd (iter (fun s↦W.jt.c100002 bits s o.2.2.2.2.2 some) (0:Int)) fun y=>
 sel y
 (fun u=>some false)
 (fun v=>some true)
def jt.ce:Go.Ql.Callee:=⟨[(.st (.pair (.int .i64) (.pair (.int .i64) (.pair (.sl (.int .i64)) (.pair (.int .i64) (.pair (.int .i64) (.sl (.int .i64)))))))),(.sl (.int .i64))],[.bool],fun x_=>jt x_.1 x_.2⟩
def jt.G:Env:=⟨50,tab,[],[0,1,2,4,5,10,30,49],[],[],[(100002,jt.c100002r),(6,jt.c6r),(4,jt.c4r)],[],tab_eqs⟩
theorem jt.eq (x_:dens jt.ce.params):den jt.G Try.f46 jt.ce.params jt.ce.res x_=jt.ce.F x_:=by kernel_rfl
theorem jt.p0:PcA jt.G Try.f46 0:=
 loop_ok (s:=jt.c100002r) (by kernel_rfl) (by kernel_rfl) (loops_of (sh:=jt.c100002s) (I:=fun x_ s_=>(x_.1,x_.2.1,x_.2.2.1,s_,x_.2.2.2.2)) (fun x_=>rfl) (fun ρ x_ s_ k_=>(nat_br (nat_bnd fun _=>(nat_br nat_leaf (nat_bnd fun _=>(nat_br nat_leaf nat_leaf)))) nat_leaf)) (fun ρ x_ t k=>(nat_sel (fun _=>(by kernel_rfl)) (fun _=>(by kernel_rfl)))) (fun x_ s=>by kernel_rfl))
theorem jt.p1:PcA jt.G Try.f46 1:=
 region_ok (s:=jt.c4r) (by kernel_rfl) (by kernel_rfl) (sums_of (sh:=jt.c4s) (fun ρ x_ k_=>(nat_bnd fun _=>(nat_br (nat_bnd fun _=>(nat_bnd fun _=>nat_leaf)) nat_leaf))) (fun ρ x_ t k=>(by kernel_rfl)) (fun x_=>by kernel_rfl))
theorem jt.p2:PcA jt.G Try.f46 2:=
 region_ok (s:=jt.c6r) (by kernel_rfl) (by kernel_rfl) (sums_of (sh:=jt.c6s) (fun ρ x_ k_=>(nat_bnd fun _=>(nat_br (nat_bnd fun _=>(nat_bnd fun _=>nat_leaf)) nat_leaf))) (fun ρ x_ t k=>(by kernel_rfl)) (fun x_=>by kernel_rfl))
theorem jt.ok:CalleeOk Try.prog 46 jt.ce:=fn_ok (G:=jt.G) tab_ok mixed Try.func46 ⟨fns_nil,mfns_nil,tab_eqs_ok⟩ (m:=3) (by kernel_rfl) ⟨⟨⟨trivial,jt.p0⟩,jt.p1⟩,jt.p2⟩ (by kernel_rfl) jt.eq
def jP.c220486 {ρ:Type} (v:List ((List ((Bool)×(List Int)))×Int)) (q:Int) (b:Int) (x:Int) (t11:List ((List ((Bool)×(List Int)))×Int)) (k_:List ((List ((Bool)×(List Int)))×Int)→Option ρ):Option ρ:=
 bnd (W.JA x q) fun y=>
 br (y == b)
 (bnd (idx v x) fun y_1=>
 bnd (inR (List.length t11) x) fun y_2=>
 bnd (idx t11 x) fun y_3=>
 k_ (List.set t11 (Int.toNat x) y_1))
 (k_ t11)
def jP.c220486s:Shape:=⟨[(0,tb109),(1,tb5),(2,tb5),(6,tb109),(7,tb86),(8,tb5)],[(11,tb106)]⟩
def jP.c220486x0:Shape:=jP.c220486s
def jP.c220486r:Ck:=Ck.of (T:=List ((List ((Bool)×(List Int)))×Int)) jP.c220486s (fun ρ x_ k_=>jP.c220486 x_.1 x_.2.1 x_.2.2.1 x_.2.2.2.2.1 x_.2.2.2.2.2.1 k_) (fun ρ x_ r_ k_=>k_ 0 (Shape.inj jP.c220486x0 (x_.1,x_.2.1,x_.2.2.1,x_.2.2.2.1,x_.2.2.2.2.1,r_,())))
def jP.c100003 {ρ:Type} (v:List ((List ((Bool)×(List Int)))×Int)) (q:Int) (b:Int) (x:Int) (t11:List ((List ((Bool)×(List Int)))×Int)) (k_:(Int×(List ((List ((Bool)×(List Int)))×Int)))⊕(Int×(List ((List ((Bool)×(List Int)))×Int)))→Option ρ):Option ρ:=
 br (decide (x < (↑(List.length v):Int)))
 (bnd (W.jP.c220486 v q b x t11 some) fun y=>
 k_ (.inl ((IntKind.wrap IntKind.i64 (x+(1:Int))),y)))
 (k_ (.inr (x,t11)))
def jP.c100003s:Shape:=jP.c220486s
def jP.c100003x0:Shape:=jP.c220486s
def jP.c100003r:Ck:=Ck.ofLoop (S:=Int×(List ((List ((Bool)×(List Int)))×Int))) (T:=Int×(List ((List ((Bool)×(List Int)))×Int))) jP.c100003s (fun x_=>(x_.2.2.2.2.1,x_.2.2.2.2.2.1)) (fun ρ x_ s_ k_=>jP.c100003 x_.1 x_.2.1 x_.2.2.1 s_.1 s_.2 k_) (fun ρ x_ r_ k_=>k_ 2 (Shape.inj jP.c100003x0 (x_.1,x_.2.1,x_.2.2.1,x_.2.2.2.1,r_.1,r_.2,())))
def jP (v:List ((List ((Bool)×(List Int)))×Int)) (q:Int) (b:Int):Option (List ((List ((Bool)×(List Int)))×Int)):=
 bnd (okIf (decide ((0:Int)≤(↑(List.length v):Int)) && decide ((↑(List.length v):Int)≤(↑(List.length v):Int)) && decide ((↑(List.length v):Int)*(↑(264:Nat):Int)≤(140737488355328:Int)) && decide ((↑(List.length v):Int)≤(140737488355328:Int)))) fun y=>
 bnd (iter (fun s↦W.jP.c100003 v q b s.1 s.2 some) ((0:Int),List.replicate (Int.toNat (↑(List.length v):Int)) (List.replicate (8:Nat) (false,[]),(0:Int)))) fun y_1=>
 some y_1.2
def jP.ce:Go.Ql.Callee:=⟨[(.sl (.st (.pair (.ar 8 (.st (.pair .bool (.sl (.int .i64))))) (.int .i64)))),(.int .i64),(.int .i64)],[(.sl (.st (.pair (.ar 8 (.st (.pair .bool (.sl (.int .i64))))) (.int .i64))))],fun x_=>jP x_.1 x_.2.1 x_.2.2⟩
def jP.G:Env:=⟨31,tab,[(63,JA.ce)],[0,1,2,6,7,8,15,22],[11],[],[(100003,jP.c100003r),(220486,jP.c220486r)],[],tab_eqs⟩
theorem jP.eq (x_:dens jP.ce.params):den jP.G Try.f47 jP.ce.params jP.ce.res x_=jP.ce.F x_:=by kernel_rfl
theorem jP.p0:PcA jP.G Try.f47 0:=
 loop_ok (s:=jP.c100003r) (by kernel_rfl) (by kernel_rfl) (loops_of (sh:=jP.c100003s) (I:=fun x_ s_=>(x_.1,x_.2.1,x_.2.2.1,x_.2.2.2.1,s_.1,s_.2,())) (fun x_=>rfl) (fun ρ x_ s_ k_=>(nat_br (nat_bnd fun _=>nat_leaf) nat_leaf)) (fun ρ x_ t k=>(by kernel_rfl)) (fun x_ s=>by kernel_rfl))
theorem jP.p1:PcA jP.G Try.f47 1:=
 join_ok (s:=jP.c220486r) (by kernel_rfl) (by kernel_rfl) (sums_of (sh:=jP.c220486s) (fun ρ x_ k_=>(nat_bnd fun _=>(nat_br (nat_bnd fun _=>(nat_bnd fun _=>(nat_bnd fun _=>nat_leaf))) nat_leaf))) (fun ρ x_ t k=>(by kernel_rfl)) (fun x_=>by kernel_rfl))
theorem jP.ok:CalleeOk Try.prog 47 jP.ce:=fn_ok (G:=jP.G) tab_ok mixed Try.func47 ⟨(fns_cons JA.ok fns_nil),mfns_nil,tab_eqs_ok⟩ (m:=2) (by kernel_rfl) ⟨⟨trivial,jP.p0⟩,jP.p1⟩ (by kernel_rfl) jP.eq
abbrev tb116:SD:=.one (.own 39 0)
abbrev tb117:SD:=.one (.ref 15 0)
def jE.c3 {ρ:Type}  (k_:Unit→Option ρ):Option ρ:=
 k_ ()
def jE.c3s:Shape:=⟨[(0,tb38),(1,tb5),(2,tb36),(3,tb12),(6,tb109),(7,tb36),(8,tb5),(9,tb79),(10,tb112)],[(3,tb34),(9,tb19),(10,tb19)]⟩
def jE.c3x0:Shape:=jE.c3s
def jE.c3r:Ck:=Ck.of (T:=Unit) jE.c3s (fun ρ x_ k_=>jE.c3  k_) (fun ρ x_ r_ k_=>k_ 0 (Shape.inj jE.c3x0 (x_.1,x_.2.1,x_.2.2.1,[],[],(0:Int),x_.2.2.2.2.2.2.1,x_.2.2.2.2.2.2.2.1,x_.2.2.2.2.2.2.2.2.1,x_.2.2.2.2.2.2.2.2.2.2.2.1,x_.2.2.2.2.2.2.2.2.2.2.2.2.1,x_.2.2.2.2.2.2.2.2.2.2.2)))
def jE.c4 {ρ:Type} (t1:Int) (c0:Int) (k_:Bool→Option ρ):Option ρ:=
 br (decide (t1 < (0:Int)))
 (k_ true)
 (bnd (okIf (decide ((0:Int)≤c0))) fun y=>
 k_ (decide (t1≥IntKind.wrap IntKind.i64 ((1:Int)*(2:Int) ^ Min.min (Int.toNat c0) (64:Nat)))))
def jE.c4s:Shape:=jE.c3s
def jE.c4x0:Shape:=⟨[(0,tb38),(1,tb5),(2,tb36),(3,tb12),(6,tb109),(7,tb36),(8,tb5),(9,tb79),(10,tb112),(31,tb7)],[(3,tb34),(9,tb19),(10,tb19)]⟩
def jE.c4r:Ck:=Ck.of (T:=Bool) jE.c4s (fun ρ x_ k_=>jE.c4 x_.2.1 x_.2.2.2.2.2.2.1 k_) (fun ρ x_ r_ k_=>k_ 0 (Shape.inj jE.c4x0 (x_.1,x_.2.1,x_.2.2.1,x_.2.2.2.1,x_.2.2.2.2.1,x_.2.2.2.2.2.1,r_,x_.2.2.2.2.2.2)))
def jE.c19 {ρ:Type} (b:Int) (k_:Bool→Option ρ):Option ρ:=
 br (b != (0:Int))
 (k_ (b != (1:Int)))
 (k_ false)
def jE.c19s:Shape:=⟨[(0,tb38),(1,tb5),(2,tb36),(3,tb12),(6,tb109),(7,tb36),(8,tb5),(9,tb79),(10,tb112),(11,tb109),(12,tb116),(13,tb5),(14,tb5),(15,tb117),(16,tb5)],[(3,tb34),(9,tb19),(10,tb19),(15,tb26),(39,tb50)]⟩
def jE.c19x0:Shape:=⟨[(0,tb38),(1,tb5),(2,tb36),(3,tb12),(6,tb109),(7,tb36),(8,tb5),(9,tb79),(10,tb112),(11,tb109),(12,tb116),(13,tb5),(14,tb5),(15,tb117),(16,tb5),(77,tb7)],[(3,tb34),(9,tb19),(10,tb19),(15,tb26),(39,tb50)]⟩
def jE.c19r:Ck:=Ck.of (T:=Bool) jE.c19s (fun ρ x_ k_=>jE.c19 x_.2.2.2.2.2.2.2.2.2.1 k_) (fun ρ x_ r_ k_=>k_ 0 (Shape.inj jE.c19x0 (x_.1,x_.2.1,x_.2.2.1,x_.2.2.2.1,x_.2.2.2.2.1,x_.2.2.2.2.2.1,x_.2.2.2.2.2.2.1,x_.2.2.2.2.2.2.2.1,x_.2.2.2.2.2.2.2.2.1,x_.2.2.2.2.2.2.2.2.2.1,r_,x_.2.2.2.2.2.2.2.2.2.2)))
def jE.c249200 {ρ:Type} (tape:List Int) (v:List ((List ((Bool)×(List Int)))×Int)) (used:Int) (i:Int) (c2:List (Int×(Int×((List Int)×(Int×(Int×(List Int))))))) (t39:List Int) (k_:((List ((List ((Bool)×(List Int)))×Int))×Int×(List Int))⊕(Int×Int)→Option ρ):Option ρ:=
 bnd (idx c2 i) fun y=>
 bnd (W.jt (y.1,y.2.1,y.2.2.1,y.2.2.2.1,y.2.2.2.2.1,y.2.2.2.2.2) t39) fun y_1=>
 br (!y_1)
 (k_ (.inl (v,used,t39)))
 (br (decide (y.1 < (5:Int)))
 (bnd (W.jp v (y.1,y.2.1,y.2.2.1,y.2.2.2.1,y.2.2.2.2.1,y.2.2.2.2.2)) fun y_2=>
 k_ (.inl (y_2,used,t39)))
 (br (used == (↑(List.length tape):Int))
 (bnd (W.Jo (19:Int) i) fun y_3=>
 k_ (.inr (y_3.1,y_3.2)))
 (bnd (idx tape used) fun y_4=>
 bnd (W.jE.c19 y_4 some) fun y_5=>
 br y_5
 (bnd (W.Jo (20:Int) i) fun y_6=>
 k_ (.inr (y_6.1,y_6.2)))
 (bnd (W.jP v y.2.2.2.1 y_4) fun y_7=>
 br (y.1 == (5:Int))
 (bnd (inR (List.length t39) y.2.2.2.2.1) fun y_8=>
 bnd (idx t39 y.2.2.2.2.1) fun y_9=>
 k_ (.inl (y_7,(IntKind.wrap IntKind.i64 (used+(1:Int))),(List.set t39 (Int.toNat y.2.2.2.2.1) y_4))))
 (br (y_4 == (1:Int))
 (bnd (W.jp y_7 ((2:Int),(0:Int),[],y.2.2.2.1,(0:Int),[])) fun y_10=>
 k_ (.inl (y_10,(IntKind.wrap IntKind.i64 (used+(1:Int))),t39)))
 (k_ (.inl (y_7,(IntKind.wrap IntKind.i64 (used+(1:Int))),t39))))))))
def jE.c249200s:Shape:=⟨[(0,tb38),(1,tb5),(2,tb36),(3,tb12),(6,tb109),(7,tb36),(8,tb5),(9,tb79),(10,tb112),(11,tb109),(12,tb116),(13,tb5),(14,tb5)],[(3,tb34),(9,tb19),(10,tb19),(39,tb50)]⟩
def jE.c249200x0:Shape:=jE.c249200s
def jE.c249200x1:Shape:=jE.c249200s
def jE.c249200r:Ck:=Ck.of (T:=((List ((List ((Bool)×(List Int)))×Int))×Int×(List Int))⊕(Int×Int)) jE.c249200s (fun ρ x_ k_=>jE.c249200 x_.2.2.1 x_.2.2.2.2.2.2.1 x_.2.2.2.2.2.2.2.1 x_.2.2.2.2.2.2.2.2.1 x_.2.2.2.2.2.2.2.2.2.2.2.1 x_.2.2.2.2.2.2.2.2.2.2.2.2.2.2.2.2.1 k_) (fun ρ x_ r_ k_=>uP x_ fun c x_=>uP x_ fun t1 x_=>uP x_ fun tape x_=>uP x_ fun t6 x_=>uP x_ fun t7 x_=>uP x_ fun t8 x_=>uP x_ fun v x_=>uP x_ fun used x_=>uP x_ fun i x_=>uP x_ fun c0 x_=>uP x_ fun c1 x_=>uP x_ fun c2 x_=>uP x_ fun t90 x_=>uP x_ fun t91 x_=>uP x_ fun f0 x_=>uP x_ fun f1 x_=>uP x_ fun t39 x_=>sel r_ (fun r_=>k_ 0 (Shape.inj jE.c249200x0 (c,t1,tape,t6,t7,t8,r_.1,r_.2.1,i,c0,c1,c2,t90,t91,f0,f1,r_.2.2,()))) (fun r_=>k_ 1 (Shape.inj jE.c249200x1 (c,t1,tape,[],[],(0:Int),v,used,i,c0,c1,c2,r_.1,r_.2,f0,f1,t39,()))))
def jE.c100010 {ρ:Type} (tape:List Int) (v:List ((List ((Bool)×(List Int)))×Int)) (used:Int) (i:Int) (c2:List (Int×(Int×((List Int)×(Int×(Int×(List Int))))))) (t39:List Int) (k_:((List ((List ((Bool)×(List Int)))×Int))×Int×Int×(List Int))⊕(((List ((List ((Bool)×(List Int)))×Int))×Int×Int×Int×Int×(List Int))⊕((List ((List ((Bool)×(List Int)))×Int))×Int×Int×(List Int)))→Option ρ):Option ρ:=
 br (decide (i < (↑(List.length c2):Int)))
 (bnd (W.jE.c249200 tape v used i c2 t39 some) fun y=>
 sel y
 (fun u=>k_ (.inl (u.1,u.2.1,(IntKind.wrap IntKind.i64 (i+(1:Int))),u.2.2)))
 (fun v_1=>k_ (.inr (.inl (v,used,i,v_1.1,v_1.2,t39)))))
 (k_ (.inr (.inr (v,used,i,t39))))
def jE.c100010s:Shape:=jE.c249200s
def jE.c100010x0:Shape:=jE.c249200s
def jE.c100010x1:Shape:=jE.c249200s
def jE.c100010r:Ck:=Ck.ofLoop (S:=(List ((List ((Bool)×(List Int)))×Int))×Int×Int×(List Int)) (T:=((List ((List ((Bool)×(List Int)))×Int))×Int×Int×Int×Int×(List Int))⊕((List ((List ((Bool)×(List Int)))×Int))×Int×Int×(List Int))) jE.c100010s (fun x_=>(x_.2.2.2.2.2.2.1,x_.2.2.2.2.2.2.2.1,x_.2.2.2.2.2.2.2.2.1,x_.2.2.2.2.2.2.2.2.2.2.2.2.2.2.2.2.1)) (fun ρ x_ s_ k_=>jE.c100010 x_.2.2.1 s_.1 s_.2.1 s_.2.2.1 x_.2.2.2.2.2.2.2.2.2.2.2.1 s_.2.2.2 k_) (fun ρ x_ r_ k_=>uP x_ fun c x_=>uP x_ fun t1 x_=>uP x_ fun tape x_=>uP x_ fun t6 x_=>uP x_ fun t7 x_=>uP x_ fun t8 x_=>uP x_ fun v x_=>uP x_ fun used x_=>uP x_ fun i x_=>uP x_ fun c0 x_=>uP x_ fun c1 x_=>uP x_ fun c2 x_=>uP x_ fun t90 x_=>uP x_ fun t91 x_=>uP x_ fun f0 x_=>uP x_ fun f1 x_=>uP x_ fun t39 x_=>sel r_ (fun r_=>k_ 1 (Shape.inj jE.c100010x0 (c,t1,tape,[],[],(0:Int),r_.1,r_.2.1,r_.2.2.1,c0,c1,c2,r_.2.2.2.1,r_.2.2.2.2.1,f0,f1,r_.2.2.2.2.2,()))) (fun r_=>k_ 2 (Shape.inj jE.c100010x1 (c,t1,tape,t6,t7,t8,r_.1,r_.2.1,r_.2.2.1,c0,c1,c2,t90,t91,f0,f1,r_.2.2.2,()))))
def jE (c:Int×(Int×(List (Int×(Int×((List Int)×(Int×(Int×(List Int))))))))) (t1:Int) (tape:List Int):Option ((List ((List ((Bool)×(List Int)))×Int))×(List Int)×Int×(Int×Int)):=
 bnd (W.jF (c.1,c.2.1,c.2.2)) fun y=>
 br (y.1 != (0:Int))
 (bnd (W.jE.c3 some) fun y_1=>
 some ([],[],(0:Int),y.1,y.2))
 (bnd (W.jE.c4 t1 c.1 some) fun y_2=>
 br y_2
 (bnd (W.Jo (18:Int) (0:Int)) fun y_3=>
 some ([],[],(0:Int),y_3.1,y_3.2))
 (bnd (W.JD c.1 t1) fun y_4=>
 bnd (okIf (decide ((0:Int)≤c.2.1) && decide (c.2.1≤c.2.1) && decide (c.2.1*(↑(8:Nat):Int)≤(140737488355328:Int)) && decide (c.2.1≤(140737488355328:Int)))) fun y_5=>
 bnd (iter (fun s↦W.jE.c100010 tape s.1 s.2.1 s.2.2.1 c.2.2 s.2.2.2 some) (y_4,(0:Int),(0:Int),List.replicate (Int.toNat c.2.1) (0:Int))) fun y_6=>
 sel y_6
 (fun u=>some ([],[],(0:Int),u.2.2.2.1,u.2.2.2.2.1))
 (fun v=>some (v.1,v.2.2.2,v.2.1,(0:Int),(0:Int)))))
def jE.ce:Go.Ql.Callee:=⟨[(.st (.pair (.int .i64) (.pair (.int .i64) (.sl (.st (.pair (.int .i64) (.pair (.int .i64) (.pair (.sl (.int .i64)) (.pair (.int .i64) (.pair (.int .i64) (.sl (.int .i64)))))))))))),(.int .i64),(.sl (.int .i64))],[(.sl (.st (.pair (.ar 8 (.st (.pair .bool (.sl (.int .i64))))) (.int .i64)))),(.sl (.int .i64)),(.int .i64),(.st (.pair (.int .i64) (.int .i64)))],fun x_=>jE x_.1 x_.2.1 x_.2.2⟩
def jE.G:Env:=⟨106,tab,[(13,jF.ce),(44,Jo.ce),(23,JD.ce),(46,jt.ce),(24,jp.ce),(47,jP.ce)],[0,1,2,3,6,7,8,9,10,11,12,13,14,15,16,21,31,44,55,58,65,77,89,96],[39],[(3,[⟨[],[],[6,7,8],[6,7]⟩,⟨[],[6],[22],[]⟩,⟨[1],[7],[22],[]⟩,⟨[2,1],[],[22],[]⟩,⟨[0,3,2,1],[9],[],[]⟩])],[(100010,jE.c100010r),(249200,jE.c249200r),(19,jE.c19r),(4,jE.c4r),(3,jE.c3r)],[],tab_eqs⟩
theorem jE.eq (x_:dens jE.ce.params):den jE.G Try.f26 jE.ce.params jE.ce.res x_=jE.ce.F x_:=by kernel_rfl
theorem jE.p0:PcA jE.G Try.f26 0:=
 region_ok (s:=jE.c3r) (by kernel_rfl) (by kernel_rfl) (sums_of (sh:=jE.c3s) (fun ρ x_ k_=>nat_leaf) (fun ρ x_ t k=>(by kernel_rfl)) (fun x_=>by kernel_rfl))
theorem jE.p1:PcA jE.G Try.f26 1:=
 region_ok (s:=jE.c4r) (by kernel_rfl) (by kernel_rfl) (sums_of (sh:=jE.c4s) (fun ρ x_ k_=>(nat_br nat_leaf (nat_bnd fun _=>nat_leaf))) (fun ρ x_ t k=>(by kernel_rfl)) (fun x_=>by kernel_rfl))
theorem jE.p2:PcA jE.G Try.f26 2:=
 loop_ok (s:=jE.c100010r) (by kernel_rfl) (by kernel_rfl) (loops_of (sh:=jE.c100010s) (I:=fun x_ s_=>(x_.1,x_.2.1,x_.2.2.1,x_.2.2.2.1,x_.2.2.2.2.1,x_.2.2.2.2.2.1,s_.1,s_.2.1,s_.2.2.1,x_.2.2.2.2.2.2.2.2.2.1,x_.2.2.2.2.2.2.2.2.2.2.1,x_.2.2.2.2.2.2.2.2.2.2.2.1,x_.2.2.2.2.2.2.2.2.2.2.2.2.1,x_.2.2.2.2.2.2.2.2.2.2.2.2.2.1,x_.2.2.2.2.2.2.2.2.2.2.2.2.2.2.1,x_.2.2.2.2.2.2.2.2.2.2.2.2.2.2.2.1,s_.2.2.2,())) (fun x_=>rfl) (fun ρ x_ s_ k_=>(nat_br (nat_bnd fun _=>(nat_sel (fun _=>nat_leaf) (fun _=>nat_leaf))) nat_leaf)) (fun ρ x_ t k=>(nat_sel (fun _=>(by kernel_rfl)) (fun _=>(by kernel_rfl)))) (fun x_ s=>by kernel_rfl))
theorem jE.p3:PcA jE.G Try.f26 3:=
 join_ok (s:=jE.c249200r) (by kernel_rfl) (by kernel_rfl) (sums_of (sh:=jE.c249200s) (fun ρ x_ k_=>(nat_bnd fun _=>(nat_bnd fun _=>(nat_br nat_leaf (nat_br (nat_bnd fun _=>nat_leaf) (nat_br (nat_bnd fun _=>nat_leaf) (nat_bnd fun _=>(nat_bnd fun _=>(nat_br (nat_bnd fun _=>nat_leaf) (nat_bnd fun _=>(nat_br (nat_bnd fun _=>(nat_bnd fun _=>nat_leaf)) (nat_br (nat_bnd fun _=>nat_leaf) nat_leaf)))))))))))) (fun ρ x_ t k=>(nat_sel (fun _=>(by kernel_rfl)) (fun _=>(by kernel_rfl)))) (fun x_=>by kernel_rfl))
theorem jE.p4:PcA jE.G Try.f26 4:=
 region_ok (s:=jE.c19r) (by kernel_rfl) (by kernel_rfl) (sums_of (sh:=jE.c19s) (fun ρ x_ k_=>(nat_br nat_leaf nat_leaf)) (fun ρ x_ t k=>(by kernel_rfl)) (fun x_=>by kernel_rfl))
theorem jE.ok:CalleeOk Try.prog 26 jE.ce:=fn_ok (G:=jE.G) tab_ok mixed Try.func26 ⟨(fns_cons jF.ok (fns_cons Jo.ok (fns_cons JD.ok (fns_cons jt.ok (fns_cons jp.ok (fns_cons jP.ok fns_nil)))))),mfns_nil,tab_eqs_ok⟩ (m:=5) (by kernel_rfl) ⟨⟨⟨⟨⟨trivial,jE.p0⟩,jE.p1⟩,jE.p2⟩,jE.p3⟩,jE.p4⟩ (by kernel_rfl) jE.eq
def jd.c216389 {ρ:Type} (c0:Int) (c1:Int) (c2:List (Int×(Int×((List Int)×(Int×(Int×(List Int))))))) (g0:Int) (g1:Int) (k_:Int×Int→Option ρ):Option ρ:=
 br (g0 == (0:Int))
 (bnd (W.jM (c0,c1,c2)) fun y=>
 k_ (y.1,y.2))
 (k_ (g0,g1))
def jd.c216389s:Shape:=⟨[(0,tb38),(1,tb1),(2,tb7),(3,tb12),(4,tb6),(5,tb39),(6,tb8)],[(1,tb34),(3,tb34),(4,tb34),(5,tb19),(6,tb19)]⟩
def jd.c216389x0:Shape:=jd.c216389s
def jd.c216389r:Ck:=Ck.of (T:=Int×Int) jd.c216389s (fun ρ x_ k_=>jd.c216389 x_.2.2.1 x_.2.2.2.1 x_.2.2.2.2.1 x_.2.2.2.2.2.2.2.2.2.2.2.2.2.1 x_.2.2.2.2.2.2.2.2.2.2.2.2.2.2.1 k_) (fun ρ x_ r_ k_=>k_ 0 (Shape.inj jd.c216389x0 (x_.1,x_.2.1,x_.2.2.1,x_.2.2.2.1,x_.2.2.2.2.1,x_.2.2.2.2.2.1,x_.2.2.2.2.2.2.1,x_.2.2.2.2.2.2.2.1,x_.2.2.2.2.2.2.2.2.1,x_.2.2.2.2.2.2.2.2.2.1,x_.2.2.2.2.2.2.2.2.2.2.1,x_.2.2.2.2.2.2.2.2.2.2.2.1,x_.2.2.2.2.2.2.2.2.2.2.2.2.1,r_.1,r_.2,())))
def jd.c6 {ρ:Type} (c0:Int) (c1:Int) (c2:List (Int×(Int×((List Int)×(Int×(Int×(List Int))))))) (given0:Int) (given1:Int) (given2:List (Int×(Int×((List Int)×(Int×(Int×(List Int))))))) (f0:Int) (f1:Int) (g0:Int) (g1:Int) (k_:Bool→Option ρ):Option ρ:=
 bnd W.jI fun y=>
 br (!y)
 (k_ true)
 (br (!Ty.eqT (Ty.pair (Ty.int IntKind.i64) (Ty.int IntKind.i64)) (f0,f1) (g0,g1))
 (k_ true)
 (bnd (W.jq (given0,given1,given2) (c0,c1,c2)) fun y_1=>
 k_ (!y_1)))
def jd.c6s:Shape:=jd.c216389s
def jd.c6x0:Shape:=⟨[(0,tb38),(1,tb1),(2,tb7),(3,tb12),(4,tb6),(5,tb39),(6,tb8),(46,tb7)],[(1,tb34),(3,tb34),(4,tb34),(5,tb19),(6,tb19)]⟩
def jd.c6r:Ck:=Ck.of (T:=Bool) jd.c6s (fun ρ x_ k_=>jd.c6 x_.2.2.1 x_.2.2.2.1 x_.2.2.2.2.1 x_.2.2.2.2.2.1 x_.2.2.2.2.2.2.1 x_.2.2.2.2.2.2.2.1 x_.2.2.2.2.2.2.2.2.2.2.2.1 x_.2.2.2.2.2.2.2.2.2.2.2.2.1 x_.2.2.2.2.2.2.2.2.2.2.2.2.2.1 x_.2.2.2.2.2.2.2.2.2.2.2.2.2.2.1 k_) (fun ρ x_ r_ k_=>k_ 0 (Shape.inj jd.c6x0 (x_.1,x_.2.1,r_,x_.2.2)))
def jd.c12 {ρ:Type} (c0:Int) (c1:Int) (d0:Int) (d1:Int) (d2:List (Int×(Int×((List Int)×(Int×(Int×(List Int))))))) (h0:Int) (t80:Int) (k_:Bool→Option ρ):Option ρ:=
 br (h0 != (0:Int))
 (k_ true)
 (br (t80 != (0:Int))
 (k_ true)
 (br (d0 != c0)
 (k_ true)
 (br (d1 != c1)
 (k_ true)
 (k_ (decide ((↑(List.length d2):Int) > IntKind.wrap IntKind.i64 (IntKind.wrap IntKind.i64 ((8:Int)*c0)*IntKind.wrap IntKind.i64 (c0+(1:Int)))))))))
def jd.c12s:Shape:=⟨[(0,tb38),(1,tb1),(2,tb7),(3,tb12),(4,tb6),(5,tb39),(6,tb8),(7,tb42),(8,tb27)],[(1,tb34),(3,tb34),(4,tb34),(5,tb19),(6,tb19),(7,tb19),(8,tb19)]⟩
def jd.c12x0:Shape:=⟨[(0,tb38),(1,tb1),(2,tb7),(3,tb12),(4,tb6),(5,tb39),(6,tb8),(7,tb42),(8,tb27),(91,tb7)],[(1,tb34),(3,tb34),(4,tb34),(5,tb19),(6,tb19),(7,tb19),(8,tb19)]⟩
def jd.c12r:Ck:=Ck.of (T:=Bool) jd.c12s (fun ρ x_ k_=>jd.c12 x_.2.2.1 x_.2.2.2.1 x_.2.2.2.2.2.2.2.2.1 x_.2.2.2.2.2.2.2.2.2.1 x_.2.2.2.2.2.2.2.2.2.2.1 x_.2.2.2.2.2.2.2.2.2.2.2.2.2.2.2.1 x_.2.2.2.2.2.2.2.2.2.2.2.2.2.2.2.2.2.1 k_) (fun ρ x_ r_ k_=>k_ 0 (Shape.inj jd.c12x0 (x_.1,x_.2.1,r_,x_.2.2)))
def jd.c23 {ρ:Type} (turn:Int) (t:Int) (k_:Bool→Option ρ):Option ρ:=
 br (decide (t < (16:Int)))
 (k_ (decide (turn < (0:Int))))
 (k_ false)
def jd.c23s:Shape:=⟨[(0,tb38),(1,tb1),(2,tb7),(3,tb12),(4,tb6),(5,tb39),(6,tb8),(7,tb42),(8,tb27),(9,tb5),(10,tb5),(11,tb109),(15,tb109),(19,tb5)],[(1,tb34),(3,tb34),(4,tb34),(5,tb19),(6,tb19),(7,tb19),(8,tb19),(14,tb19),(18,tb19)]⟩
def jd.c23x0:Shape:=⟨[(0,tb38),(1,tb1),(2,tb7),(3,tb12),(4,tb6),(5,tb39),(6,tb8),(7,tb42),(8,tb27),(9,tb5),(10,tb5),(11,tb109),(15,tb109),(19,tb5),(123,tb7)],[(1,tb34),(3,tb34),(4,tb34),(5,tb19),(6,tb19),(7,tb19),(8,tb19),(14,tb19),(18,tb19)]⟩
def jd.c23r:Ck:=Ck.of (T:=Bool) jd.c23s (fun ρ x_ k_=>jd.c23 x_.2.2.1 x_.2.2.2.2.2.2.1 k_) (fun ρ x_ r_ k_=>k_ 0 (Shape.inj jd.c23x0 (x_.1,x_.2.1,x_.2.2.1,x_.2.2.2.1,x_.2.2.2.2.1,x_.2.2.2.2.2.1,x_.2.2.2.2.2.2.1,r_,x_.2.2.2.2.2.2.2)))
def jd.c302406 {ρ:Type} (turn:Int) (a:List ((List ((Bool)×(List Int)))×Int)) (b:List ((List ((Bool)×(List Int)))×Int)) (t:Int) (k_:Int→Option ρ):Option ρ:=
 bnd (W.Jn a) fun y=>
 bnd (W.jp b ((1:Int),t,[],(0:Int),(0:Int),[])) fun y_1=>
 bnd (W.Jn y_1) fun y_2=>
 bnd (W.jw y y_2) fun y_3=>
 br y_3
 (k_ t)
 (k_ turn)
def jd.c302406s:Shape:=jd.c23s
def jd.c302406x0:Shape:=jd.c23s
def jd.c302406r:Ck:=Ck.of (T:=Int) jd.c302406s (fun ρ x_ k_=>jd.c302406 x_.2.2.1 x_.2.2.2.2.1 x_.2.2.2.2.2.1 x_.2.2.2.2.2.2.1 k_) (fun ρ x_ r_ k_=>k_ 0 (Shape.inj jd.c302406x0 (x_.1,x_.2.1,r_,x_.2.2.2)))
def jd.c100023 {ρ:Type} (turn:Int) (a:List ((List ((Bool)×(List Int)))×Int)) (b:List ((List ((Bool)×(List Int)))×Int)) (t:Int) (k_:(Int×Int)⊕(Int×Int)→Option ρ):Option ρ:=
 bnd (W.jd.c23 turn t some) fun y=>
 br y
 (bnd (W.jd.c302406 turn a b t some) fun y_1=>
 k_ (.inl (y_1,(IntKind.wrap IntKind.i64 (t+(1:Int))))))
 (k_ (.inr (turn,t)))
def jd.c100023s:Shape:=jd.c23s
def jd.c100023x0:Shape:=jd.c23s
def jd.c100023r:Ck:=Ck.ofLoop (S:=Int×Int) (T:=Int×Int) jd.c100023s (fun x_=>(x_.2.2.1,x_.2.2.2.2.2.2.1)) (fun ρ x_ s_ k_=>jd.c100023 s_.1 x_.2.2.2.2.1 x_.2.2.2.2.2.1 s_.2 k_) (fun ρ x_ r_ k_=>k_ 4 (Shape.inj jd.c100023x0 (x_.1,x_.2.1,r_.1,x_.2.2.2.1,x_.2.2.2.2.1,x_.2.2.2.2.2.1,r_.2,x_.2.2.2.2.2.2.2)))
def jd.c27 {ρ:Type} (turn:Int) (a:List ((List ((Bool)×(List Int)))×Int)) (b:List ((List ((Bool)×(List Int)))×Int)) (k_:Bool→Option ρ):Option ρ:=
 br (decide (turn < (0:Int)))
 (k_ true)
 (bnd (W.Jn a) fun y=>
 bnd (W.jp b ((1:Int),turn,[],(0:Int),(0:Int),[])) fun y_1=>
 bnd (W.Jn y_1) fun y_2=>
 bnd (W.jw y y_2) fun y_3=>
 k_ (!y_3))
def jd.c27s:Shape:=jd.c23s
def jd.c27x0:Shape:=⟨[(0,tb38),(1,tb1),(2,tb7),(3,tb12),(4,tb6),(5,tb39),(6,tb8),(7,tb42),(8,tb27),(9,tb5),(10,tb5),(11,tb109),(15,tb109),(19,tb5),(147,tb7)],[(1,tb34),(3,tb34),(4,tb34),(5,tb19),(6,tb19),(7,tb19),(8,tb19),(14,tb19),(18,tb19)]⟩
def jd.c27r:Ck:=Ck.of (T:=Bool) jd.c27s (fun ρ x_ k_=>jd.c27 x_.2.2.1 x_.2.2.2.2.1 x_.2.2.2.2.2.1 k_) (fun ρ x_ r_ k_=>k_ 0 (Shape.inj jd.c27x0 (x_.1,x_.2.1,x_.2.2.1,x_.2.2.2.1,x_.2.2.2.2.1,x_.2.2.2.2.2.1,x_.2.2.2.2.2.2.1,r_,x_.2.2.2.2.2.2.2)))
def jd.c100018 {ρ:Type} (turn:Int) (x:Int) (c0:Int) (c1:Int) (c2:List (Int×(Int×((List Int)×(Int×(Int×(List Int))))))) (d0:Int) (d1:Int) (d2:List (Int×(Int×((List Int)×(Int×(Int×(List Int))))))) (k_:(Int×Int)⊕((Int×Int)⊕(Int×Int))→Option ρ):Option ρ:=
 bnd (okIf (decide ((0:Int)≤c0))) fun y=>
 br (decide (x < IntKind.wrap IntKind.i64 ((1:Int)*(2:Int) ^ Min.min (Int.toNat c0) (64:Nat))))
 (bnd (W.jE (c0,c1,c2) x []) fun y_1=>
 bnd (W.jE (d0,d1,d2) x []) fun y_2=>
 bnd (iter (fun s↦W.jd.c100023 s.1 y_1.1 y_2.1 s.2 some) (turn,(0:Int))) fun y_3=>
 bnd (W.jd.c27 y_3.1 y_1.1 y_2.1 some) fun y_4=>
 br y_4
 (k_ (.inr (.inl (y_3.1,x))))
 (k_ (.inl (y_3.1,(IntKind.wrap IntKind.i64 (x+(1:Int)))))))
 (k_ (.inr (.inr (turn,x))))
def jd.c100018s:Shape:=⟨[(0,tb38),(1,tb1),(2,tb7),(3,tb12),(4,tb6),(5,tb39),(6,tb8),(7,tb42),(8,tb27),(9,tb5),(10,tb5)],[(1,tb34),(3,tb34),(4,tb34),(5,tb19),(6,tb19),(7,tb19),(8,tb19)]⟩
def jd.c100018x0:Shape:=jd.c100018s
def jd.c100018x1:Shape:=jd.c100018s
def jd.c100018r:Ck:=Ck.ofLoop (S:=Int×Int) (T:=(Int×Int)⊕(Int×Int)) jd.c100018s (fun x_=>(x_.2.2.1,x_.2.2.2.1)) (fun ρ x_ s_ k_=>jd.c100018 s_.1 s_.2 x_.2.2.2.2.1 x_.2.2.2.2.2.1 x_.2.2.2.2.2.2.1 x_.2.2.2.2.2.2.2.2.2.2.1 x_.2.2.2.2.2.2.2.2.2.2.2.1 x_.2.2.2.2.2.2.2.2.2.2.2.2.1 k_) (fun ρ x_ r_ k_=>sel r_ (fun r_=>k_ 1 (Shape.inj jd.c100018x0 (x_.1,false,r_.1,r_.2,x_.2.2.2.2))) (fun r_=>k_ 2 (Shape.inj jd.c100018x1 (x_.1,x_.2.1,r_.1,r_.2,x_.2.2.2.2))))
def jd (c:Int×(Int×(List (Int×(Int×((List Int)×(Int×(Int×(List Int))))))))):Option (Bool):=
 bnd (W.jy (c.1,c.2.1,c.2.2)) fun y=>
 bnd (W.jf (y.1,y.2.1,y.2.2)) fun y_1=>
 bnd (W.Jg (c.1,c.2.1,c.2.2)) fun y_2=>
 bnd (W.jd.c216389 c.1 c.2.1 c.2.2 y_2.1 y_2.2 some) fun y_3=>
 bnd (W.jd.c6 c.1 c.2.1 c.2.2 y.1 y.2.1 y.2.2 y_1.2.1 y_1.2.2 y_3.1 y_3.2 some) fun y_4=>
 br y_4
 (some false)
 (br (y_3.1 != (0:Int))
 (bnd (W.jq (y_1.1.1,y_1.1.2.1,y_1.1.2.2) ((0:Int),(0:Int),[])) fun y_5=>
 some y_5)
 (bnd (W.Jg (y_1.1.1,y_1.1.2.1,y_1.1.2.2)) fun y_6=>
 bnd (W.jM (y_1.1.1,y_1.1.2.1,y_1.1.2.2)) fun y_7=>
 bnd (W.jd.c12 c.1 c.2.1 y_1.1.1 y_1.1.2.1 y_1.1.2.2 y_6.1 y_7.1 some) fun y_8=>
 br y_8
 (some false)
 (br (decide (c.1 > (5:Int)))
 (some true)
 (bnd (iter (fun s↦W.jd.c100018 s.1 s.2 c.1 c.2.1 c.2.2 y_1.1.1 y_1.1.2.1 y_1.1.2.2 some) ((-1:Int),(0:Int))) fun y_9=>
 sel y_9
 (fun u=>some false)
 (fun v=>some true)))))
def jd.ce:Go.Ql.Callee:=⟨[(.st (.pair (.int .i64) (.pair (.int .i64) (.sl (.st (.pair (.int .i64) (.pair (.int .i64) (.pair (.sl (.int .i64)) (.pair (.int .i64) (.pair (.int .i64) (.sl (.int .i64))))))))))))],[.bool],fun x_=>jd x_⟩
def jd.G:Env:=⟨148,tab,[(8,jy.ce),(25,jf.ce),(21,Jg.ce),(22,jM.ce),(10,jI.ce),(11,jq.ce),(26,jE.ce),(17,Jn.ce),(24,jp.ce),(16,jw.ce)],[0,1,2,3,4,5,6,7,8,9,10,11,15,19,31,46,49,91,94,99,123,133,147],[],[],[(100018,jd.c100018r),(27,jd.c27r),(100023,jd.c100023r),(302406,jd.c302406r),(23,jd.c23r),(12,jd.c12r),(6,jd.c6r),(216389,jd.c216389r)],[],tab_eqs⟩
theorem jd.eq (x_:dens jd.ce.params):den jd.G Try.f5 jd.ce.params jd.ce.res x_=jd.ce.F x_:=by kernel_rfl
theorem jd.p0:PcA jd.G Try.f5 0:=
 join_ok (s:=jd.c216389r) (by kernel_rfl) (by kernel_rfl) (sums_of (sh:=jd.c216389s) (fun ρ x_ k_=>(nat_br (nat_bnd fun _=>nat_leaf) nat_leaf)) (fun ρ x_ t k=>(by kernel_rfl)) (fun x_=>by kernel_rfl))
theorem jd.p1:PcA jd.G Try.f5 1:=
 region_ok (s:=jd.c6r) (by kernel_rfl) (by kernel_rfl) (sums_of (sh:=jd.c6s) (fun ρ x_ k_=>(nat_bnd fun _=>(nat_br nat_leaf (nat_br nat_leaf (nat_bnd fun _=>nat_leaf))))) (fun ρ x_ t k=>(by kernel_rfl)) (fun x_=>by kernel_rfl))
theorem jd.p2:PcA jd.G Try.f5 2:=
 region_ok (s:=jd.c12r) (by kernel_rfl) (by kernel_rfl) (sums_of (sh:=jd.c12s) (fun ρ x_ k_=>(nat_br nat_leaf (nat_br nat_leaf (nat_br nat_leaf (nat_br nat_leaf nat_leaf))))) (fun ρ x_ t k=>(by kernel_rfl)) (fun x_=>by kernel_rfl))
theorem jd.p3:PcA jd.G Try.f5 3:=
 loop_ok (s:=jd.c100018r) (by kernel_rfl) (by kernel_rfl) (loops_of (sh:=jd.c100018s) (I:=fun x_ s_=>(x_.1,x_.2.1,s_.1,s_.2,x_.2.2.2.2)) (fun x_=>rfl) (fun ρ x_ s_ k_=>(nat_bnd fun _=>(nat_br (nat_bnd fun _=>(nat_bnd fun _=>(nat_bnd fun _=>(nat_bnd fun _=>(nat_br nat_leaf nat_leaf))))) nat_leaf))) (fun ρ x_ t k=>(nat_sel (fun _=>(by kernel_rfl)) (fun _=>(by kernel_rfl)))) (fun x_ s=>by kernel_rfl))
theorem jd.p4:PcA jd.G Try.f5 4:=
 loop_ok (s:=jd.c100023r) (by kernel_rfl) (by kernel_rfl) (loops_of (sh:=jd.c100023s) (I:=fun x_ s_=>(x_.1,x_.2.1,s_.1,x_.2.2.2.1,x_.2.2.2.2.1,x_.2.2.2.2.2.1,s_.2,x_.2.2.2.2.2.2.2)) (fun x_=>rfl) (fun ρ x_ s_ k_=>(nat_bnd fun _=>(nat_br (nat_bnd fun _=>nat_leaf) nat_leaf))) (fun ρ x_ t k=>(by kernel_rfl)) (fun x_ s=>by kernel_rfl))
theorem jd.p5:PcA jd.G Try.f5 5:=
 region_ok (s:=jd.c23r) (by kernel_rfl) (by kernel_rfl) (sums_of (sh:=jd.c23s) (fun ρ x_ k_=>(nat_br nat_leaf nat_leaf)) (fun ρ x_ t k=>(by kernel_rfl)) (fun x_=>by kernel_rfl))
theorem jd.p6:PcA jd.G Try.f5 6:=
 join_ok (s:=jd.c302406r) (by kernel_rfl) (by kernel_rfl) (sums_of (sh:=jd.c302406s) (fun ρ x_ k_=>(nat_bnd fun _=>(nat_bnd fun _=>(nat_bnd fun _=>(nat_bnd fun _=>(nat_br nat_leaf nat_leaf)))))) (fun ρ x_ t k=>(by kernel_rfl)) (fun x_=>by kernel_rfl))
theorem jd.p7:PcA jd.G Try.f5 7:=
 region_ok (s:=jd.c27r) (by kernel_rfl) (by kernel_rfl) (sums_of (sh:=jd.c27s) (fun ρ x_ k_=>(nat_br nat_leaf (nat_bnd fun _=>(nat_bnd fun _=>(nat_bnd fun _=>(nat_bnd fun _=>nat_leaf)))))) (fun ρ x_ t k=>(by kernel_rfl)) (fun x_=>by kernel_rfl))
theorem jd.ok:CalleeOk Try.prog 5 jd.ce:=fn_ok (G:=jd.G) tab_ok mixed Try.func5 ⟨(fns_cons jy.ok (fns_cons jf.ok (fns_cons Jg.ok (fns_cons jM.ok (fns_cons jI.ok (fns_cons jq.ok (fns_cons jE.ok (fns_cons Jn.ok (fns_cons jp.ok (fns_cons jw.ok fns_nil)))))))))),mfns_nil,tab_eqs_ok⟩ (m:=8) (by kernel_rfl) ⟨⟨⟨⟨⟨⟨⟨⟨trivial,jd.p0⟩,jd.p1⟩,jd.p2⟩,jd.p3⟩,jd.p4⟩,jd.p5⟩,jd.p6⟩,jd.p7⟩ (by kernel_rfl) jd.eq
end
end W
end
