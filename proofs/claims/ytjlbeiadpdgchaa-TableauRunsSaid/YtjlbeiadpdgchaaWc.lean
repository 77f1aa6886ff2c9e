/- Lifted functions, part 3: each with its contract. -/
import Derived.Test.YtjlbeiadpdgchaaWb
import Derived.Test.YtjlbeiadpdgchaaProg
set_option linter.all false
section
set_option maxHeartbeats 4000000
set_option maxRecDepth 100000
set_option linter.unusedVariables false
namespace W
open Go Go.Ql Go.Proofs
noncomputable section
abbrev tb84:SD:=.one (.own 1000702 0)
abbrev tb85:SO:=.clo 84 [] [.ref 7 0]
def jb.pre:Shape:=⟨[(0,tb28),(1,tb5),(2,tb5)],[(1000700,tb81),(1000701,tb22),(1000702,tb22)]⟩
def jb.post:Shape:=⟨[(0,tb7)],[(1000701,tb22),(1000702,tb22),(1000700,tb81)]⟩
def jb.c9 {ρ:Type} (i:Int) (sum0:Int) (sum1:Int) (sum2:Bool) (t1000701:List YP) (k_:Int×Int×Bool→Option ρ):Option ρ:=
 bnd (inR (List.length t1000701) i) fun y=>
 bnd (idx t1000701 i) fun y_1=>
 bnd (W.jJ (sum0,sum1,sum2) y_1) fun y_2=>
 k_ (y_2.1,y_2.2.1,y_2.2.2)
def jb.c9s:Shape:=⟨[(0,tb28),(1,tb5),(2,tb5),(6,tb7),(7,tb42),(8,tb5),(9,tb79),(10,tb5),(11,tb23),(29,tb84),(30,tb5),(31,tb5)],[(7,tb9),(9,tb9),(11,tb9),(21,tb85),(1000700,tb81),(1000701,tb22),(1000702,tb22)]⟩
def jb.c9x0:Shape:=jb.c9s
def jb.c9r:Ck:=Ck.of (T:=Int×Int×Bool) jb.c9s (fun ρ x_ k_=>jb.c9 x_.2.2.2.2.1 x_.2.2.2.2.2.2.2.2.2.2.1 x_.2.2.2.2.2.2.2.2.2.2.2.1 x_.2.2.2.2.2.2.2.2.2.2.2.2.1 x_.2.2.2.2.2.2.2.2.2.2.2.2.2.2.2.2.2.1 k_) (fun ρ x_ r_ k_=>k_ 0 (Shape.inj jb.c9x0 (x_.1,x_.2.1,x_.2.2.1,x_.2.2.2.1,x_.2.2.2.2.1,x_.2.2.2.2.2.1,x_.2.2.2.2.2.2.1,x_.2.2.2.2.2.2.2.1,x_.2.2.2.2.2.2.2.2.1,x_.2.2.2.2.2.2.2.2.2.1,r_.1,r_.2.1,r_.2.2,x_.2.2.2.2.2.2.2.2.2.2.2.2.2)))
def jb.c228680 {ρ:Type} (t31:Int) (z0:Int) (z1:Int) (z2:Bool) (sum0:Int) (sum1:Int) (sum2:Bool) (t1000701:List YP) (t1000702:List YP) (k_:Int×Int×Bool→Option ρ):Option ρ:=
 bnd (inR (List.length t1000702) t31) fun y=>
 bnd (idx t1000702 t31) fun y_1=>
 bnd (W.jH (y_1.1,y_1.2.1,y_1.2.2) (z0,z1,z2)) fun y_2=>
 br y_2
 (bnd (W.jb.c9 t31 sum0 sum1 sum2 t1000701 some) fun y_3=>
 k_ (y_3.1,y_3.2.1,y_3.2.2))
 (k_ (sum0,sum1,sum2))
def jb.c228680s:Shape:=⟨[(0,tb28),(1,tb5),(2,tb5),(6,tb7),(7,tb42),(8,tb5),(9,tb79),(29,tb84),(30,tb5),(31,tb5)],[(7,tb9),(9,tb9),(21,tb85),(1000700,tb81),(1000701,tb22),(1000702,tb22)]⟩
def jb.c228680x0:Shape:=jb.c228680s
def jb.c228680r:Ck:=Ck.of (T:=Int×Int×Bool) jb.c228680s (fun ρ x_ k_=>jb.c228680 x_.2.2.2.2.2.1 x_.2.2.2.2.2.2.1 x_.2.2.2.2.2.2.2.1 x_.2.2.2.2.2.2.2.2.1 x_.2.2.2.2.2.2.2.2.2.1 x_.2.2.2.2.2.2.2.2.2.2.1 x_.2.2.2.2.2.2.2.2.2.2.2.1 x_.2.2.2.2.2.2.2.2.2.2.2.2.2.1 x_.2.2.2.2.2.2.2.2.2.2.2.2.2.2.1 k_) (fun ρ x_ r_ k_=>k_ 0 (Shape.inj jb.c228680x0 (x_.1,x_.2.1,x_.2.2.1,x_.2.2.2.1,x_.2.2.2.2.1,x_.2.2.2.2.2.1,x_.2.2.2.2.2.2.1,x_.2.2.2.2.2.2.2.1,x_.2.2.2.2.2.2.2.2.1,r_.1,r_.2.1,r_.2.2,x_.2.2.2.2.2.2.2.2.2.2.2.2)))
def jb.c100006 {ρ:Type} (t30:Int) (t31:Int) (z0:Int) (z1:Int) (z2:Bool) (sum0:Int) (sum1:Int) (sum2:Bool) (t1000701:List YP) (t1000702:List YP) (k_:(Int×Int×Int×Bool)⊕(Int×Int×Int×Bool)→Option ρ):Option ρ:=
 br (decide (t31 < t30))
 (bnd (W.jb.c228680 t31 z0 z1 z2 sum0 sum1 sum2 t1000701 t1000702 some) fun y=>
 k_ (.inl ((IntKind.i64.wrap (t31+(1:Int))),y.1,y.2.1,y.2.2)))
 (k_ (.inr (t31,sum0,sum1,sum2)))
def jb.c100006s:Shape:=jb.c228680s
def jb.c100006x0:Shape:=jb.c228680s
def jb.c100006r:Ck:=Ck.ofLoop (S:=Int×Int×Int×Bool) (T:=Int×Int×Int×Bool) jb.c100006s (fun x_=>(x_.2.2.2.2.2.1,x_.2.2.2.2.2.2.2.2.2.1,x_.2.2.2.2.2.2.2.2.2.2.1,x_.2.2.2.2.2.2.2.2.2.2.2.1)) (fun ρ x_ s_ k_=>jb.c100006 x_.2.2.2.2.1 s_.1 x_.2.2.2.2.2.2.1 x_.2.2.2.2.2.2.2.1 x_.2.2.2.2.2.2.2.2.1 s_.2.1 s_.2.2.1 s_.2.2.2 x_.2.2.2.2.2.2.2.2.2.2.2.2.2.1 x_.2.2.2.2.2.2.2.2.2.2.2.2.2.2.1 k_) (fun ρ x_ r_ k_=>k_ 2 (Shape.inj jb.c100006x0 (x_.1,x_.2.1,x_.2.2.1,x_.2.2.2.1,x_.2.2.2.2.1,r_.1,x_.2.2.2.2.2.2.1,x_.2.2.2.2.2.2.2.1,x_.2.2.2.2.2.2.2.2.1,r_.2.1,r_.2.2.1,r_.2.2.2,x_.2.2.2.2.2.2.2.2.2.2.2.2)))
def jb.c16 {ρ:Type} (t8:Int) (i:Int) (z0:Int) (z1:Int) (z2:Bool) (t1000701:List YP) (k_:Bool→Option ρ):Option ρ:=
 br (i != t8)
 (bnd (inR (List.length t1000701) i) fun y=>
 bnd (idx t1000701 i) fun y_1=>
 bnd (W.jH y_1 (z0,z1,z2)) fun y_2=>
 k_ y_2)
 (k_ false)
def jb.c16s:Shape:=⟨[(0,tb28),(1,tb5),(2,tb5),(6,tb7),(7,tb42),(8,tb5),(12,tb74),(13,tb5),(64,tb5),(65,tb5)],[(7,tb9),(12,tb9),(21,tb85),(1000700,tb81),(1000701,tb22),(1000702,tb22)]⟩
def jb.c16x0:Shape:=⟨[(0,tb28),(1,tb5),(2,tb5),(6,tb7),(7,tb42),(8,tb5),(12,tb74),(13,tb5),(64,tb5),(65,tb5),(81,tb7)],[(7,tb9),(12,tb9),(21,tb85),(1000700,tb81),(1000701,tb22),(1000702,tb22)]⟩
def jb.c16r:Ck:=Ck.of (T:=Bool) jb.c16s (fun ρ x_ k_=>jb.c16 x_.2.2.2.1 x_.2.2.2.2.1 x_.2.2.2.2.2.2.2.1 x_.2.2.2.2.2.2.2.2.1 x_.2.2.2.2.2.2.2.2.2.1 x_.2.2.2.2.2.2.2.2.2.2.2.2.2.2.1 k_) (fun ρ x_ r_ k_=>k_ 0 (Shape.inj jb.c16x0 (x_.1,x_.2.1,x_.2.2.1,x_.2.2.2.1,x_.2.2.2.2.1,x_.2.2.2.2.2.1,x_.2.2.2.2.2.2.1,r_,x_.2.2.2.2.2.2.2)))
def jb.c17 {ρ:Type} (i:Int) (old0:Int) (old1:Int) (old2:Bool) (t1000701:List YP) (k_:List YP→Option ρ):Option ρ:=
 bnd (inR (List.length t1000701) i) fun y=>
 bnd (idx t1000701 i) fun y_1=>
 bnd (W.jJ y_1 (old0,old1,old2)) fun y_2=>
 bnd (inR (List.length t1000701) i) fun y_3=>
 bnd (idx t1000701 i) fun y_4=>
 k_ (List.set t1000701 (Int.toNat i) y_2)
def jb.c17s:Shape:=jb.c16s
def jb.c17x0:Shape:=jb.c16s
def jb.c17r:Ck:=Ck.of (T:=List YP) jb.c17s (fun ρ x_ k_=>jb.c17 x_.2.2.2.2.1 x_.2.2.2.2.2.2.2.2.2.2.1 x_.2.2.2.2.2.2.2.2.2.2.2.1 x_.2.2.2.2.2.2.2.2.2.2.2.2.1 x_.2.2.2.2.2.2.2.2.2.2.2.2.2.2.1 k_) (fun ρ x_ r_ k_=>k_ 0 (Shape.inj jb.c17x0 (x_.1,x_.2.1,x_.2.2.1,x_.2.2.2.1,x_.2.2.2.2.1,x_.2.2.2.2.2.1,x_.2.2.2.2.2.2.1,x_.2.2.2.2.2.2.2.1,x_.2.2.2.2.2.2.2.2.1,x_.2.2.2.2.2.2.2.2.2.1,x_.2.2.2.2.2.2.2.2.2.2.1,x_.2.2.2.2.2.2.2.2.2.2.2.1,x_.2.2.2.2.2.2.2.2.2.2.2.2.1,x_.2.2.2.2.2.2.2.2.2.2.2.2.2.1,r_,x_.2.2.2.2.2.2.2.2.2.2.2.2.2.2.2)))
def jb.c265541 {ρ:Type} (t8:Int) (i:Int) (z0:Int) (z1:Int) (z2:Bool) (old0:Int) (old1:Int) (old2:Bool) (t1000701:List YP) (k_:List YP→Option ρ):Option ρ:=
 bnd (W.jb.c16 t8 i z0 z1 z2 t1000701 some) fun y=>
 br y
 (bnd (W.jb.c17 i old0 old1 old2 t1000701 some) fun y_1=>
 k_ y_1)
 (k_ t1000701)
def jb.c265541s:Shape:=jb.c16s
def jb.c265541x0:Shape:=jb.c16s
def jb.c265541r:Ck:=Ck.of (T:=List YP) jb.c265541s (fun ρ x_ k_=>jb.c265541 x_.2.2.2.1 x_.2.2.2.2.1 x_.2.2.2.2.2.2.2.1 x_.2.2.2.2.2.2.2.2.1 x_.2.2.2.2.2.2.2.2.2.1 x_.2.2.2.2.2.2.2.2.2.2.1 x_.2.2.2.2.2.2.2.2.2.2.2.1 x_.2.2.2.2.2.2.2.2.2.2.2.2.1 x_.2.2.2.2.2.2.2.2.2.2.2.2.2.2.1 k_) (fun ρ x_ r_ k_=>k_ 0 (Shape.inj jb.c265541x0 (x_.1,x_.2.1,x_.2.2.1,x_.2.2.2.1,x_.2.2.2.2.1,x_.2.2.2.2.2.1,x_.2.2.2.2.2.2.1,x_.2.2.2.2.2.2.2.1,x_.2.2.2.2.2.2.2.2.1,x_.2.2.2.2.2.2.2.2.2.1,x_.2.2.2.2.2.2.2.2.2.2.1,x_.2.2.2.2.2.2.2.2.2.2.2.1,x_.2.2.2.2.2.2.2.2.2.2.2.2.1,x_.2.2.2.2.2.2.2.2.2.2.2.2.2.1,r_,x_.2.2.2.2.2.2.2.2.2.2.2.2.2.2.2)))
def jb.c18 {ρ:Type} (t8:Int) (i:Int) (z0:Int) (z1:Int) (z2:Bool) (t1000702:List YP) (k_:Bool→Option ρ):Option ρ:=
 br (i != t8)
 (bnd (inR (List.length t1000702) i) fun y=>
 bnd (idx t1000702 i) fun y_1=>
 bnd (W.jH y_1 (z0,z1,z2)) fun y_2=>
 k_ y_2)
 (k_ false)
def jb.c18s:Shape:=jb.c16s
def jb.c18x0:Shape:=⟨[(0,tb28),(1,tb5),(2,tb5),(6,tb7),(7,tb42),(8,tb5),(12,tb74),(13,tb5),(64,tb5),(65,tb5),(110,tb7)],[(7,tb9),(12,tb9),(21,tb85),(1000700,tb81),(1000701,tb22),(1000702,tb22)]⟩
def jb.c18r:Ck:=Ck.of (T:=Bool) jb.c18s (fun ρ x_ k_=>jb.c18 x_.2.2.2.1 x_.2.2.2.2.1 x_.2.2.2.2.2.2.2.1 x_.2.2.2.2.2.2.2.2.1 x_.2.2.2.2.2.2.2.2.2.1 x_.2.2.2.2.2.2.2.2.2.2.2.2.2.2.2.1 k_) (fun ρ x_ r_ k_=>k_ 0 (Shape.inj jb.c18x0 (x_.1,x_.2.1,x_.2.2.1,x_.2.2.2.1,x_.2.2.2.2.1,x_.2.2.2.2.2.1,x_.2.2.2.2.2.2.1,r_,x_.2.2.2.2.2.2.2)))
def jb.c19 {ρ:Type} (i:Int) (old0:Int) (old1:Int) (old2:Bool) (t1000702:List YP) (k_:List YP→Option ρ):Option ρ:=
 bnd (inR (List.length t1000702) i) fun y=>
 bnd (idx t1000702 i) fun y_1=>
 bnd (W.JT y_1 (old0,old1,old2)) fun y_2=>
 bnd (inR (List.length t1000702) i) fun y_3=>
 bnd (idx t1000702 i) fun y_4=>
 k_ (List.set t1000702 (Int.toNat i) y_2)
def jb.c19s:Shape:=jb.c16s
def jb.c19x0:Shape:=jb.c16s
def jb.c19r:Ck:=Ck.of (T:=List YP) jb.c19s (fun ρ x_ k_=>jb.c19 x_.2.2.2.2.1 x_.2.2.2.2.2.2.2.2.2.2.1 x_.2.2.2.2.2.2.2.2.2.2.2.1 x_.2.2.2.2.2.2.2.2.2.2.2.2.1 x_.2.2.2.2.2.2.2.2.2.2.2.2.2.2.2.1 k_) (fun ρ x_ r_ k_=>k_ 0 (Shape.inj jb.c19x0 (x_.1,x_.2.1,x_.2.2.1,x_.2.2.2.1,x_.2.2.2.2.1,x_.2.2.2.2.2.1,x_.2.2.2.2.2.2.1,x_.2.2.2.2.2.2.2.1,x_.2.2.2.2.2.2.2.2.1,x_.2.2.2.2.2.2.2.2.2.1,x_.2.2.2.2.2.2.2.2.2.2.1,x_.2.2.2.2.2.2.2.2.2.2.2.1,x_.2.2.2.2.2.2.2.2.2.2.2.2.1,x_.2.2.2.2.2.2.2.2.2.2.2.2.2.1,x_.2.2.2.2.2.2.2.2.2.2.2.2.2.2.1,r_,())))
def jb.c261454 {ρ:Type} (t8:Int) (t65:Int) (z0:Int) (z1:Int) (z2:Bool) (old0:Int) (old1:Int) (old2:Bool) (t1000701:List YP) (t1000702:List YP) (k_:(List YP)×(List YP)→Option ρ):Option ρ:=
 bnd (W.jb.c265541 t8 t65 z0 z1 z2 old0 old1 old2 t1000701 some) fun y=>
 bnd (W.jb.c18 t8 t65 z0 z1 z2 t1000702 some) fun y_1=>
 br y_1
 (bnd (W.jb.c19 t65 old0 old1 old2 t1000702 some) fun y_2=>
 k_ (y,y_2))
 (k_ (y,t1000702))
def jb.c261454s:Shape:=⟨[(0,tb28),(1,tb5),(2,tb5),(6,tb7),(7,tb42),(8,tb5),(12,tb74),(64,tb5),(65,tb5)],[(7,tb9),(12,tb9),(21,tb85),(1000700,tb81),(1000701,tb22),(1000702,tb22)]⟩
def jb.c261454x0:Shape:=jb.c261454s
def jb.c261454r:Ck:=Ck.of (T:=(List YP)×(List YP)) jb.c261454s (fun ρ x_ k_=>jb.c261454 x_.2.2.2.1 x_.2.2.2.2.2.1 x_.2.2.2.2.2.2.1 x_.2.2.2.2.2.2.2.1 x_.2.2.2.2.2.2.2.2.1 x_.2.2.2.2.2.2.2.2.2.1 x_.2.2.2.2.2.2.2.2.2.2.1 x_.2.2.2.2.2.2.2.2.2.2.2.1 x_.2.2.2.2.2.2.2.2.2.2.2.2.2.1 x_.2.2.2.2.2.2.2.2.2.2.2.2.2.2.1 k_) (fun ρ x_ r_ k_=>k_ 0 (Shape.inj jb.c261454x0 (x_.1,x_.2.1,x_.2.2.1,x_.2.2.2.1,x_.2.2.2.2.1,x_.2.2.2.2.2.1,x_.2.2.2.2.2.2.1,x_.2.2.2.2.2.2.2.1,x_.2.2.2.2.2.2.2.2.1,x_.2.2.2.2.2.2.2.2.2.1,x_.2.2.2.2.2.2.2.2.2.2.1,x_.2.2.2.2.2.2.2.2.2.2.2.1,x_.2.2.2.2.2.2.2.2.2.2.2.2.1,r_.1,r_.2,())))
def jb.c100014 {ρ:Type} (t8:Int) (t64:Int) (t65:Int) (z0:Int) (z1:Int) (z2:Bool) (old0:Int) (old1:Int) (old2:Bool) (t1000701:List YP) (t1000702:List YP) (k_:(Int×(List YP)×(List YP))⊕(Int×(List YP)×(List YP))→Option ρ):Option ρ:=
 br (decide (t65 < t64))
 (bnd (W.jb.c261454 t8 t65 z0 z1 z2 old0 old1 old2 t1000701 t1000702 some) fun y=>
 k_ (.inl ((IntKind.i64.wrap (t65+(1:Int))),y.1,y.2)))
 (k_ (.inr (t65,t1000701,t1000702)))
def jb.c100014s:Shape:=jb.c261454s
def jb.c100014x0:Shape:=jb.c261454s
def jb.c100014r:Ck:=Ck.ofLoop (S:=Int×(List YP)×(List YP)) (T:=Int×(List YP)×(List YP)) jb.c100014s (fun x_=>(x_.2.2.2.2.2.1,x_.2.2.2.2.2.2.2.2.2.2.2.2.2.1,x_.2.2.2.2.2.2.2.2.2.2.2.2.2.2.1)) (fun ρ x_ s_ k_=>jb.c100014 x_.2.2.2.1 x_.2.2.2.2.1 s_.1 x_.2.2.2.2.2.2.1 x_.2.2.2.2.2.2.2.1 x_.2.2.2.2.2.2.2.2.1 x_.2.2.2.2.2.2.2.2.2.1 x_.2.2.2.2.2.2.2.2.2.2.1 x_.2.2.2.2.2.2.2.2.2.2.2.1 s_.2.1 s_.2.2 k_) (fun ρ x_ r_ k_=>k_ 4 (Shape.inj jb.c100014x0 (x_.1,x_.2.1,x_.2.2.1,x_.2.2.2.1,x_.2.2.2.2.1,r_.1,x_.2.2.2.2.2.2.1,x_.2.2.2.2.2.2.2.1,x_.2.2.2.2.2.2.2.2.1,x_.2.2.2.2.2.2.2.2.2.1,x_.2.2.2.2.2.2.2.2.2.2.1,x_.2.2.2.2.2.2.2.2.2.2.2.1,x_.2.2.2.2.2.2.2.2.2.2.2.2.1,r_.2.1,r_.2.2,())))
def jb.c21 {ρ:Type} (t8:Int) (t1000702:List YP) (k_:Unit→Option ρ):Option ρ:=
 bnd (inR (List.length t1000702) t8) fun y=>
 bnd (idx t1000702 t8) fun y_1=>
 k_ ()
def jb.c21s:Shape:=jb.c261454s
def jb.c21x0:Shape:=jb.c261454s
def jb.c21r:Ck:=Ck.of (T:=Unit) jb.c21s (fun ρ x_ k_=>jb.c21 x_.2.2.2.1 x_.2.2.2.2.2.2.2.2.2.2.2.2.2.2.1 k_) (fun ρ x_ r_ k_=>k_ 0 (Shape.inj jb.c21x0 (x_.1,x_.2.1,x_.2.2.1,x_.2.2.2.1,x_.2.2.2.2.1,x_.2.2.2.2.2.1,x_.2.2.2.2.2.2.1,x_.2.2.2.2.2.2.2.1,x_.2.2.2.2.2.2.2.2.1,x_.2.2.2.2.2.2.2.2.2.1,x_.2.2.2.2.2.2.2.2.2.2.1,x_.2.2.2.2.2.2.2.2.2.2.2.1,x_.2.2.2.2.2.2.2.2.2.2.2.2.1,x_.2.2.2.2.2.2.2.2.2.2.2.2.2.1,(List.set x_.2.2.2.2.2.2.2.2.2.2.2.2.2.2.1 (Int.toNat x_.2.2.2.1) (x_.2.2.2.2.2.2.2.2.2.1,x_.2.2.2.2.2.2.2.2.2.2.1,x_.2.2.2.2.2.2.2.2.2.2.2.1)),())))
def jb.c23 {ρ:Type} (t8:Int) (t1000701:List YP) (k_:Unit→Option ρ):Option ρ:=
 bnd (inR (List.length t1000701) t8) fun y=>
 bnd (idx t1000701 t8) fun y_1=>
 k_ ()
def jb.c23s:Shape:=jb.c261454s
def jb.c23x0:Shape:=jb.c261454s
def jb.c23r:Ck:=Ck.of (T:=Unit) jb.c23s (fun ρ x_ k_=>jb.c23 x_.2.2.2.1 x_.2.2.2.2.2.2.2.2.2.2.2.2.2.1 k_) (fun ρ x_ r_ k_=>k_ 0 (Shape.inj jb.c23x0 (x_.1,x_.2.1,x_.2.2.1,x_.2.2.2.1,x_.2.2.2.2.1,x_.2.2.2.2.2.1,x_.2.2.2.2.2.2.1,x_.2.2.2.2.2.2.2.1,x_.2.2.2.2.2.2.2.2.1,x_.2.2.2.2.2.2.2.2.2.1,x_.2.2.2.2.2.2.2.2.2.2.1,x_.2.2.2.2.2.2.2.2.2.2.2.1,x_.2.2.2.2.2.2.2.2.2.2.2.2.1,(List.set x_.2.2.2.2.2.2.2.2.2.2.2.2.2.1 (Int.toNat x_.2.2.2.1) (x_.2.2.2.2.2.2.1,x_.2.2.2.2.2.2.2.1,x_.2.2.2.2.2.2.2.2.1)),x_.2.2.2.2.2.2.2.2.2.2.2.2.2.2)))
def jb (q:Int) (b:Int) (t10007000:Int) (t1000701:List YP) (t1000702:List YP):Option (Bool×(List YP)×(List YP)×Int×Unit):=
 bnd (okIf (decide ((0:Int)≤q))) fun y=>
 bnd (W.jk (0:Int) (↑(List.length t1000701):Int) (0:Int) (IntKind.u64.wrap ((1:Int)*(2:Int) ^ Min.min (Int.toNat q) (64:Nat))) false t1000701) fun y_1=>
 br (decide (y_1.1 < (0:Int)))
 (bnd (iter (fun s↦W.jb.c100006 (↑(List.length t1000702):Int) s.1 y_1.2.1 y_1.2.2.1 y_1.2.2.2.1 s.2.1 s.2.2.1 s.2.2.2 y_1.2.2.2.2.1 t1000702 some) ((0:Int),(0:Int),(0:Int),false)) fun y_2=>
 some (y_2.2.2.2 == (b == (1:Int)),y_1.2.2.2.2.1,t1000702,t10007000,()))
 (bnd (inR (List.length y_1.2.2.2.2.1) y_1.1) fun y_3=>
 bnd (idx y_1.2.2.2.2.1 y_1.1) fun y_4=>
 bnd (iter (fun s↦W.jb.c100014 y_1.1 t10007000 s.1 y_1.2.1 y_1.2.2.1 y_1.2.2.2.1 y_4.1 y_4.2.1 y_4.2.2 s.2.1 s.2.2 some) ((0:Int),y_1.2.2.2.2.1,t1000702)) fun y_5=>
 bnd (W.jb.c21 y_1.1 y_5.2.2 some) fun y_6=>
 bnd (W.jb.c23 y_1.1 y_5.2.1 some) fun y_7=>
 some (true,List.set y_5.2.1 (Int.toNat y_1.1) (y_1.2.1,y_1.2.2.1,b == (1:Int)),List.set y_5.2.2 (Int.toNat y_1.1) (y_4.1,y_4.2.1,y_4.2.2),t10007000,()))
def jb.mc:MCallee:=⟨41,jb.pre,jb.post,fun x_=>jb x_.1 x_.2.1 x_.2.2.1 x_.2.2.2.1 x_.2.2.2.2.1⟩
def jb.G:Env:=⟨144,tab,[(85,jH.ce),(86,jJ.ce),(87,JT.ce)],[0,1,2,6,7,8,9,10,11,12,13,24,29,30,31,32,38,64,65,66,81,110],[1000700,1000701,1000702],[(23,[⟨[],[],[141,142],[]⟩,⟨[0],[],[141,142],[]⟩,⟨[1,0],[],[141,142],[]⟩,⟨[2,1,0],[],[141,142],[]⟩,⟨[],[],[137,138,139,140,142],[]⟩,⟨[],[],[137,138,139,140,141],[]⟩,⟨[3,2,1,0,4,5],[],[],[]⟩,⟨[6,3,2,1,0,4,5],[1000701],[],[]⟩]),
 (21,[⟨[],[],[131,132],[]⟩,⟨[0],[],[131,132],[]⟩,⟨[1,0],[],[131,132],[]⟩,⟨[2,1,0],[],[131,132],[]⟩,⟨[],[],[127,128,129,130,132],[]⟩,⟨[],[],[127,128,129,130,131],[]⟩,⟨[3,2,1,0,4,5],[],[],[]⟩,⟨[6,3,2,1,0,4,5],[1000702],[],[]⟩]),
 (19,[⟨[],[],[115,116,117,118,119,120,121,122,123,124],[]⟩,⟨[0],[],[115,116,117,118,119,120,121,122,123,124],[]⟩,⟨[1,0],[],[115,116,117,118,119,120,121,122,123,124],[]⟩,⟨[2,1,0],[],[115,116,117,118,119,120,121,122,123,124],[]⟩,⟨[],[],[111,112,113,114,116,117,118,119,120,121,122,123,124],[]⟩,⟨[],[],[111,112,113,114,115,120,123],[]⟩,⟨[5],[],[111,112,113,114,115,120,123],[]⟩,⟨[6,5],[],[111,112,113,114,115,120,123],[]⟩,⟨[7,6,5],[],[111,112,113,114,115,120,123],[]⟩,⟨[],[],[111,112,113,114,115,116,117,118,119,123],[]⟩,⟨[8,7,6,5,9],[],[111,112,113,114,115,123],[]⟩,⟨[10,8,7,6,5,9],[],[111,112,113,114,115,123],[]⟩,⟨[],[],[111,112,113,114,115,116,117,118,119,120,121,122],[]⟩,⟨[11,10,8,7,6,5,9,12],[],[111,112,113,114,115],[]⟩,⟨[3,2,1,0,4,5,6,7,8,9,10,11,12,13],[],[],[]⟩,⟨[14,3,2,1,0,4,5,6,7,8,9,10,11,12,13],[1000702],[],[]⟩]),
 (18,[⟨[],[],[98],[]⟩,⟨[],[],[97],[]⟩,⟨[0,1],[],[],[]⟩,⟨[2,0,1],[],[],[]⟩,⟨[3,2,0,1],[],[105,108],[]⟩,⟨[4,3,2,0,1],[],[105,108],[]⟩,⟨[5,4,3,2,0,1],[],[105,108],[]⟩,⟨[6,5,4,3,2,0,1],[],[105,108],[]⟩,⟨[3,2,0,1],[],[101,102,103,104,108],[]⟩,⟨[7,6,5,4,3,2,0,1,8],[],[108],[]⟩,⟨[9,7,6,5,4,3,2,0,1,8],[],[108],[]⟩,⟨[3,2,0,1],[],[101,102,103,104,105,106,107],[]⟩,⟨[10,9,7,6,5,4,3,2,0,1,8,11],[],[],[]⟩,⟨[3,2,0,1,12,10,9,7,6,5,4,8,11],[],[],[]⟩]),
 (17,[⟨[],[],[86,87,88,89,90,91,92,93,94,95],[]⟩,⟨[0],[],[86,87,88,89,90,91,92,93,94,95],[]⟩,⟨[1,0],[],[86,87,88,89,90,91,92,93,94,95],[]⟩,⟨[2,1,0],[],[86,87,88,89,90,91,92,93,94,95],[]⟩,⟨[],[],[82,83,84,85,87,88,89,90,91,92,93,94,95],[]⟩,⟨[],[],[82,83,84,85,86,91,94],[]⟩,⟨[5],[],[82,83,84,85,86,91,94],[]⟩,⟨[6,5],[],[82,83,84,85,86,91,94],[]⟩,⟨[7,6,5],[],[82,83,84,85,86,91,94],[]⟩,⟨[],[],[82,83,84,85,86,87,88,89,90,94],[]⟩,⟨[8,7,6,5,9],[],[82,83,84,85,86,94],[]⟩,⟨[10,8,7,6,5,9],[],[82,83,84,85,86,94],[]⟩,⟨[],[],[82,83,84,85,86,87,88,89,90,91,92,93],[]⟩,⟨[11,10,8,7,6,5,9,12],[],[82,83,84,85,86],[]⟩,⟨[3,2,1,0,4,5,6,7,8,9,10,11,12,13],[],[],[]⟩,⟨[14,3,2,1,0,4,5,6,7,8,9,10,11,12,13],[1000701],[],[]⟩]),
 (16,[⟨[],[],[69],[]⟩,⟨[],[],[68],[]⟩,⟨[0,1],[],[],[]⟩,⟨[2,0,1],[],[],[]⟩,⟨[3,2,0,1],[],[76,79],[]⟩,⟨[4,3,2,0,1],[],[76,79],[]⟩,⟨[5,4,3,2,0,1],[],[76,79],[]⟩,⟨[6,5,4,3,2,0,1],[],[76,79],[]⟩,⟨[3,2,0,1],[],[72,73,74,75,79],[]⟩,⟨[7,6,5,4,3,2,0,1,8],[],[79],[]⟩,⟨[9,7,6,5,4,3,2,0,1,8],[],[79],[]⟩,⟨[3,2,0,1],[],[72,73,74,75,76,77,78],[]⟩,⟨[10,9,7,6,5,4,3,2,0,1,8,11],[],[],[]⟩,⟨[3,2,0,1,12,10,9,7,6,5,4,8,11],[],[],[]⟩]),
 (9,[⟨[],[],[40,41,42,43,44,45,46],[]⟩,⟨[],[],[39,44],[]⟩,⟨[1],[],[39,44],[]⟩,⟨[2,1],[],[39,44],[]⟩,⟨[3,2,1],[],[39,44],[]⟩,⟨[],[],[39,40,41,42,43],[]⟩,⟨[4,3,2,1,5],[],[39],[]⟩,⟨[6,4,3,2,1,5],[],[39],[]⟩,⟨[0,7,6,4,3,2,1,5],[],[],[]⟩,⟨[8,0,7,6,4,3,2,1,5],[9],[],[]⟩])],[(23,jb.c23r),(21,jb.c21r),(100014,jb.c100014r),(261454,jb.c261454r),(19,jb.c19r),(18,jb.c18r),(265541,jb.c265541r),(17,jb.c17r),(16,jb.c16r),(100006,jb.c100006r),(228680,jb.c228680r),(9,jb.c9r)],[(83,jk.mc)],jZ⟩
theorem jb.eq (x_:densU jb.mc.pre.tys):denM jb.G Try.f41 jb.mc.pre jb.mc.post x_=jb.mc.F x_:=by kernel_rfl
theorem jb.p0:PcA jb.G Try.f41 0:=
 Jk (s:=jb.c100006r) (by kernel_rfl) (by kernel_rfl) (Jc (sh:=jb.c100006s) (I:=fun x_ s_=>(x_.1,x_.2.1,x_.2.2.1,x_.2.2.2.1,x_.2.2.2.2.1,s_.1,x_.2.2.2.2.2.2.1,x_.2.2.2.2.2.2.2.1,x_.2.2.2.2.2.2.2.2.1,s_.2.1,s_.2.2.1,s_.2.2.2,x_.2.2.2.2.2.2.2.2.2.2.2.2)) (fun x_=>rfl) (fun ρ x_ s_ k_=>(jm (jc fun _=>jd) jd)) (fun ρ x_ t k=>(by kernel_rfl)) (fun x_ s=>by kernel_rfl))
theorem jb.p1:PcA jb.G Try.f41 1:=
 JV (s:=jb.c228680r) (by kernel_rfl) (by kernel_rfl) (jt (sh:=jb.c228680s) (fun ρ x_ k_=>(jc fun _=>(jc fun _=>(jc fun _=>(jm (jc fun _=>jd) jd))))) (fun ρ x_ t k=>(by kernel_rfl)) (fun x_=>by kernel_rfl))
theorem jb.p2:PcA jb.G Try.f41 2:=
 ju (s:=jb.c9r) (by kernel_rfl) (by kernel_rfl) (jt (sh:=jb.c9s) (fun ρ x_ k_=>(jc fun _=>(jc fun _=>(jc fun _=>jd)))) (fun ρ x_ t k=>(by kernel_rfl)) (fun x_=>by kernel_rfl))
theorem jb.p3:PcA jb.G Try.f41 3:=
 Jk (s:=jb.c100014r) (by kernel_rfl) (by kernel_rfl) (Jc (sh:=jb.c100014s) (I:=fun x_ s_=>(x_.1,x_.2.1,x_.2.2.1,x_.2.2.2.1,x_.2.2.2.2.1,s_.1,x_.2.2.2.2.2.2.1,x_.2.2.2.2.2.2.2.1,x_.2.2.2.2.2.2.2.2.1,x_.2.2.2.2.2.2.2.2.2.1,x_.2.2.2.2.2.2.2.2.2.2.1,x_.2.2.2.2.2.2.2.2.2.2.2.1,x_.2.2.2.2.2.2.2.2.2.2.2.2.1,s_.2.1,s_.2.2,())) (fun x_=>rfl) (fun ρ x_ s_ k_=>(jm (jc fun _=>jd) jd)) (fun ρ x_ t k=>(by kernel_rfl)) (fun x_ s=>by kernel_rfl))
theorem jb.p4:PcA jb.G Try.f41 4:=
 JV (s:=jb.c261454r) (by kernel_rfl) (by kernel_rfl) (jt (sh:=jb.c261454s) (fun ρ x_ k_=>(jc fun _=>(jc fun _=>(jm (jc fun _=>jd) jd)))) (fun ρ x_ t k=>(by kernel_rfl)) (fun x_=>by kernel_rfl))
theorem jb.p5:PcA jb.G Try.f41 5:=
 JV (s:=jb.c265541r) (by kernel_rfl) (by kernel_rfl) (jt (sh:=jb.c265541s) (fun ρ x_ k_=>(jc fun _=>(jm (jc fun _=>jd) jd))) (fun ρ x_ t k=>(by kernel_rfl)) (fun x_=>by kernel_rfl))
theorem jb.p6:PcA jb.G Try.f41 6:=
 ju (s:=jb.c16r) (by kernel_rfl) (by kernel_rfl) (jt (sh:=jb.c16s) (fun ρ x_ k_=>(jm (jc fun _=>(jc fun _=>(jc fun _=>jd))) jd)) (fun ρ x_ t k=>(by kernel_rfl)) (fun x_=>by kernel_rfl))
theorem jb.p7:PcA jb.G Try.f41 7:=
 ju (s:=jb.c17r) (by kernel_rfl) (by kernel_rfl) (jt (sh:=jb.c17s) (fun ρ x_ k_=>(jc fun _=>(jc fun _=>(jc fun _=>(jc fun _=>(jc fun _=>jd)))))) (fun ρ x_ t k=>(by kernel_rfl)) (fun x_=>by kernel_rfl))
theorem jb.p8:PcA jb.G Try.f41 8:=
 ju (s:=jb.c18r) (by kernel_rfl) (by kernel_rfl) (jt (sh:=jb.c18s) (fun ρ x_ k_=>(jm (jc fun _=>(jc fun _=>(jc fun _=>jd))) jd)) (fun ρ x_ t k=>(by kernel_rfl)) (fun x_=>by kernel_rfl))
theorem jb.p9:PcA jb.G Try.f41 9:=
 ju (s:=jb.c19r) (by kernel_rfl) (by kernel_rfl) (jt (sh:=jb.c19s) (fun ρ x_ k_=>(jc fun _=>(jc fun _=>(jc fun _=>(jc fun _=>(jc fun _=>jd)))))) (fun ρ x_ t k=>(by kernel_rfl)) (fun x_=>by kernel_rfl))
theorem jb.p10:PcA jb.G Try.f41 10:=
 ju (s:=jb.c21r) (by kernel_rfl) (by kernel_rfl) (jt (sh:=jb.c21s) (fun ρ x_ k_=>(jc fun _=>(jc fun _=>jd))) (fun ρ x_ t k=>(by kernel_rfl)) (fun x_=>by kernel_rfl))
theorem jb.p11:PcA jb.G Try.f41 11:=
 ju (s:=jb.c23r) (by kernel_rfl) (by kernel_rfl) (jt (sh:=jb.c23s) (fun ρ x_ k_=>(jc fun _=>(jc fun _=>jd))) (fun ρ x_ t k=>(by kernel_rfl)) (fun x_=>by kernel_rfl))
theorem jb.ok:MOk Try.prog 41 jb.mc:=UI (G:=jb.G) Jj mixed Try.func41 ⟨(jx jH.ok (jx jJ.ok (jx JT.ok Ja))),(YT jk.ok jR),jA⟩ (m:=12) (by kernel_rfl) ⟨⟨⟨⟨⟨⟨⟨⟨⟨⟨⟨⟨trivial,jb.p0⟩,jb.p1⟩,jb.p2⟩,jb.p3⟩,jb.p4⟩,jb.p5⟩,jb.p6⟩,jb.p7⟩,jb.p8⟩,jb.p9⟩,jb.p10⟩,jb.p11⟩ (by kernel_rfl) jb.eq
def Jv.pre:Shape:=⟨[(0,tb11),(1,tb33),(2,tb51)],[(1000100,tb60),(1000200,tb60)]⟩
def Jv.post:Shape:=⟨[(0,tb7)],[(1000100,tb60),(1000200,tb60)]⟩
def Jv (p:YP) (t10001000:Int) (t10002000:Int):Option (Bool×Int×Int×Unit):=
 br (decide (t10001000 < t10002000))
 (bnd (okIf (decide ((0:Int)≤t10001000))) fun y=>
 some (ibits BinOp.and IntKind.u64 (Int.fdiv p.1 ((2:Int) ^ Min.min (Int.toNat t10001000) (64:Nat))) (1:Int) == (1:Int),t10001000,t10002000,()))
 (bnd (okIf (decide ((0:Int)≤IntKind.i64.wrap (t10001000 - t10002000)))) fun y_1=>
 some (ibits BinOp.and IntKind.u64 (Int.fdiv p.2.1 ((2:Int) ^ Min.min (Int.toNat (IntKind.i64.wrap (t10001000 - t10002000))) (64:Nat))) (1:Int) == (1:Int),t10001000,t10002000,()))
def Jv.mc:MCallee:=⟨88,Jv.pre,Jv.post,fun x_=>Jv x_.1 x_.2.1 x_.2.2.1⟩
def Jv.G:Env:=⟨22,tab,[],[0,1,2,3,4,7],[1000100,1000200],[],[],[],jZ⟩
theorem Jv.eq (x_:densU Jv.mc.pre.tys):denM Jv.G Try.f88 Jv.mc.pre Jv.mc.post x_=Jv.mc.F x_:=by kernel_rfl
theorem Jv.ok:MOk Try.prog 88 Jv.mc:=UI (G:=Jv.G) Jj mixed Try.func88 ⟨Ja,jR,jA⟩ (m:=0) (by kernel_rfl) trivial (by kernel_rfl) Jv.eq
abbrev tb86:SD:=.one (.own 11 0)
abbrev tb87:SD:=.one (.clo 17)
abbrev tb88:SO:=.clo 88 [] [.ref 6 0,.ref 3 0]
def jg.c8 {ρ:Type} (t8:Int) (n0:Int) (col0:Int) (t11:List YP) (k_:Bool×Int×Int→Option ρ):Option ρ:=
 br (decide (t8 < (↑(List.length t11):Int)))
 (bnd (inR (List.length t11) t8) fun y=>
 bnd (idx t11 t8) fun y_1=>
 bnd (W.Jv y_1 col0 n0) fun y_2=>
 k_ ((!y_2.1),y_2.2.2.1,y_2.2.1))
 (k_ (false,n0,col0))
def jg.c8s:Shape:=⟨[(0,tb86),(1,tb5),(3,tb12),(4,tb17),(5,tb5),(6,tb8),(7,tb87),(8,tb5),(13,tb5),(14,tb5)],[(3,tb60),(6,tb60),(11,tb22),(17,tb88)]⟩
def jg.c8x0:Shape:=⟨[(0,tb86),(1,tb5),(3,tb12),(4,tb17),(5,tb5),(6,tb8),(7,tb87),(8,tb5),(13,tb5),(14,tb5),(31,tb7)],[(3,tb60),(6,tb60),(11,tb22),(17,tb88)]⟩
def jg.c8r:Ck:=Ck.of (T:=Bool×Int×Int) jg.c8s (fun ρ x_ k_=>jg.c8 x_.2.2.2.1 x_.2.2.2.2.2.2.1 x_.2.2.2.2.2.2.2.1 x_.2.2.2.2.2.2.2.2.1 k_) (fun ρ x_ r_ k_=>k_ 0 (Shape.inj jg.c8x0 (x_.1,x_.2.1,x_.2.2.1,x_.2.2.2.1,x_.2.2.2.2.1,x_.2.2.2.2.2.1,r_.1,r_.2.1,r_.2.2,x_.2.2.2.2.2.2.2.2)))
def jg.c100008 {ρ:Type} (t8:Int) (n0:Int) (col0:Int) (t11:List YP) (k_:(Int×Int×Int)⊕(Int×Int×Int)→Option ρ):Option ρ:=
 bnd (W.jg.c8 t8 n0 col0 t11 some) fun y=>
 br y.1
 (k_ (.inl ((IntKind.i64.wrap (t8+(1:Int))),y.2.1,y.2.2)))
 (k_ (.inr (t8,y.2.1,y.2.2)))
def jg.c100008s:Shape:=jg.c8s
def jg.c100008x0:Shape:=jg.c8s
def jg.c100008r:Ck:=Ck.ofLoop (S:=Int×Int×Int) (T:=Int×Int×Int) jg.c100008s (fun x_=>(x_.2.2.2.1,x_.2.2.2.2.2.2.1,x_.2.2.2.2.2.2.2.1)) (fun ρ x_ s_ k_=>jg.c100008 s_.1 s_.2.1 s_.2.2 x_.2.2.2.2.2.2.2.2.1 k_) (fun ρ x_ r_ k_=>k_ 4 (Shape.inj jg.c100008x0 (x_.1,x_.2.1,x_.2.2.1,r_.1,x_.2.2.2.2.1,x_.2.2.2.2.2.1,r_.2.1,r_.2.2,x_.2.2.2.2.2.2.2.2)))
def jg.c11 {ρ:Type} (done:Int) (t8:Int) (t11:List YP) (k_:List YP→Option ρ):Option ρ:=
 bnd (inR (List.length t11) t8) fun y=>
 bnd (idx t11 t8) fun y_1=>
 bnd (inR (List.length t11) done) fun y_2=>
 bnd (idx t11 done) fun y_3=>
 bnd (inR (List.length t11) done) fun y_4=>
 bnd (idx t11 done) fun y_5=>
 bnd (inR (List.length (List.set t11 (Int.toNat done) y_1)) t8) fun y_6=>
 bnd (idx (List.set t11 (Int.toNat done) y_1) t8) fun y_7=>
 k_ (List.set (List.set t11 (Int.toNat done) y_1) (Int.toNat t8) y_3)
def jg.c11s:Shape:=jg.c8s
def jg.c11x0:Shape:=jg.c8s
def jg.c11r:Ck:=Ck.of (T:=List YP) jg.c11s (fun ρ x_ k_=>jg.c11 x_.2.2.1 x_.2.2.2.1 x_.2.2.2.2.2.2.2.2.1 k_) (fun ρ x_ r_ k_=>k_ 0 (Shape.inj jg.c11x0 (x_.1,x_.2.1,x_.2.2.1,x_.2.2.2.1,x_.2.2.2.2.1,x_.2.2.2.2.2.1,x_.2.2.2.2.2.2.1,x_.2.2.2.2.2.2.2.1,r_,())))
def jg.c15 {ρ:Type} (done:Int) (i:Int) (n0:Int) (col0:Int) (t11:List YP) (k_:Bool×Int×Int→Option ρ):Option ρ:=
 br (i != done)
 (bnd (inR (List.length t11) i) fun y=>
 bnd (idx t11 i) fun y_1=>
 bnd (W.Jv y_1 col0 n0) fun y_2=>
 k_ (y_2.1,y_2.2.2.1,y_2.2.1))
 (k_ (false,n0,col0))
def jg.c15s:Shape:=⟨[(0,tb86),(1,tb5),(3,tb12),(4,tb17),(5,tb5),(6,tb8),(7,tb87),(8,tb5),(9,tb5),(13,tb5),(14,tb5),(53,tb5),(54,tb5)],[(3,tb60),(6,tb60),(11,tb22),(17,tb88)]⟩
def jg.c15x0:Shape:=⟨[(0,tb86),(1,tb5),(3,tb12),(4,tb17),(5,tb5),(6,tb8),(7,tb87),(8,tb5),(9,tb5),(13,tb5),(14,tb5),(53,tb5),(54,tb5),(67,tb7)],[(3,tb60),(6,tb60),(11,tb22),(17,tb88)]⟩
def jg.c15r:Ck:=Ck.of (T:=Bool×Int×Int) jg.c15s (fun ρ x_ k_=>jg.c15 x_.2.2.1 x_.2.2.2.2.1 x_.2.2.2.2.2.2.2.2.2.1 x_.2.2.2.2.2.2.2.2.2.2.1 x_.2.2.2.2.2.2.2.2.2.2.2.1 k_) (fun ρ x_ r_ k_=>k_ 0 (Shape.inj jg.c15x0 (x_.1,x_.2.1,x_.2.2.1,x_.2.2.2.1,x_.2.2.2.2.1,x_.2.2.2.2.2.1,x_.2.2.2.2.2.2.1,x_.2.2.2.2.2.2.2.1,x_.2.2.2.2.2.2.2.2.1,r_.1,r_.2.1,r_.2.2,x_.2.2.2.2.2.2.2.2.2.2.2)))
def jg.c16 {ρ:Type} (done:Int) (i:Int) (t11:List YP) (k_:List YP→Option ρ):Option ρ:=
 bnd (inR (List.length t11) i) fun y=>
 bnd (idx t11 i) fun y_1=>
 bnd (inR (List.length t11) done) fun y_2=>
 bnd (idx t11 done) fun y_3=>
 bnd (W.jJ y_1 y_3) fun y_4=>
 bnd (inR (List.length t11) i) fun y_5=>
 bnd (idx t11 i) fun y_6=>
 k_ (List.set t11 (Int.toNat i) y_4)
def jg.c16s:Shape:=jg.c15s
def jg.c16x0:Shape:=jg.c15s
def jg.c16r:Ck:=Ck.of (T:=List YP) jg.c16s (fun ρ x_ k_=>jg.c16 x_.2.2.1 x_.2.2.2.2.1 x_.2.2.2.2.2.2.2.2.2.2.2.1 k_) (fun ρ x_ r_ k_=>k_ 0 (Shape.inj jg.c16x0 (x_.1,x_.2.1,x_.2.2.1,x_.2.2.2.1,x_.2.2.2.2.1,x_.2.2.2.2.2.1,x_.2.2.2.2.2.2.1,x_.2.2.2.2.2.2.2.1,x_.2.2.2.2.2.2.2.2.1,x_.2.2.2.2.2.2.2.2.2.1,x_.2.2.2.2.2.2.2.2.2.2.1,r_,())))
def jg.c257352 {ρ:Type} (done:Int) (t54:Int) (n0:Int) (col0:Int) (t11:List YP) (k_:Int×Int×(List YP)→Option ρ):Option ρ:=
 bnd (W.jg.c15 done t54 n0 col0 t11 some) fun y=>
 br y.1
 (bnd (W.jg.c16 done t54 t11 some) fun y_1=>
 k_ (y.2.1,y.2.2,y_1))
 (k_ (y.2.1,y.2.2,t11))
def jg.c257352s:Shape:=⟨[(0,tb86),(1,tb5),(3,tb12),(4,tb17),(5,tb5),(6,tb8),(7,tb87),(8,tb5),(13,tb5),(14,tb5),(53,tb5),(54,tb5)],[(3,tb60),(6,tb60),(11,tb22),(17,tb88)]⟩
def jg.c257352x0:Shape:=jg.c257352s
def jg.c257352r:Ck:=Ck.of (T:=Int×Int×(List YP)) jg.c257352s (fun ρ x_ k_=>jg.c257352 x_.2.2.1 x_.2.2.2.2.2.2.2.1 x_.2.2.2.2.2.2.2.2.1 x_.2.2.2.2.2.2.2.2.2.1 x_.2.2.2.2.2.2.2.2.2.2.1 k_) (fun ρ x_ r_ k_=>k_ 0 (Shape.inj jg.c257352x0 (x_.1,x_.2.1,x_.2.2.1,x_.2.2.2.1,x_.2.2.2.2.1,x_.2.2.2.2.2.1,x_.2.2.2.2.2.2.1,x_.2.2.2.2.2.2.2.1,r_.1,r_.2.1,r_.2.2,())))
def jg.c100013 {ρ:Type} (done:Int) (t53:Int) (t54:Int) (n0:Int) (col0:Int) (t11:List YP) (k_:(Int×Int×Int×(List YP))⊕(Int×Int×Int×(List YP))→Option ρ):Option ρ:=
 br (decide (t54 < t53))
 (bnd (W.jg.c257352 done t54 n0 col0 t11 some) fun y=>
 k_ (.inl ((IntKind.i64.wrap (t54+(1:Int))),y.1,y.2.1,y.2.2)))
 (k_ (.inr (t54,n0,col0,t11)))
def jg.c100013s:Shape:=jg.c257352s
def jg.c100013x0:Shape:=jg.c257352s
def jg.c100013r:Ck:=Ck.ofLoop (S:=Int×Int×Int×(List YP)) (T:=Int×Int×Int×(List YP)) jg.c100013s (fun x_=>(x_.2.2.2.2.2.2.2.1,x_.2.2.2.2.2.2.2.2.1,x_.2.2.2.2.2.2.2.2.2.1,x_.2.2.2.2.2.2.2.2.2.2.1)) (fun ρ x_ s_ k_=>jg.c100013 x_.2.2.1 x_.2.2.2.2.2.2.1 s_.1 s_.2.1 s_.2.2.1 s_.2.2.2 k_) (fun ρ x_ r_ k_=>k_ 6 (Shape.inj jg.c100013x0 (x_.1,x_.2.1,x_.2.2.1,x_.2.2.2.1,x_.2.2.2.2.1,x_.2.2.2.2.2.1,x_.2.2.2.2.2.2.1,r_.1,r_.2.1,r_.2.2.1,r_.2.2.2,())))
def jg.c220528 {ρ:Type} (done:Int) (t14:Int) (n0:Int) (t11:List YP) (k_:Int×Int×(List YP)→Option ρ):Option ρ:=
 bnd (iter (fun s↦W.jg.c100008 s.1 s.2.1 s.2.2 t11 some) (done,n0,t14)) fun y=>
 br (y.1 == (↑(List.length t11):Int))
 (k_ (done,y.2.1,t11))
 (bnd (W.jg.c11 done y.1 t11 some) fun y_1=>
 bnd (iter (fun s↦W.jg.c100013 done (↑(List.length y_1):Int) s.1 s.2.1 s.2.2.1 s.2.2.2 some) ((0:Int),y.2.1,y.2.2,y_1)) fun y_2=>
 k_ ((IntKind.i64.wrap (done+(1:Int))),y_2.2.1,y_2.2.2.2))
def jg.c220528s:Shape:=⟨[(0,tb86),(1,tb5),(3,tb12),(4,tb17),(5,tb5),(13,tb5),(14,tb5)],[(3,tb60),(11,tb22)]⟩
def jg.c220528x0:Shape:=jg.c220528s
def jg.c220528r:Ck:=Ck.of (T:=Int×Int×(List YP)) jg.c220528s (fun ρ x_ k_=>jg.c220528 x_.2.2.1 x_.2.2.2.2.1 x_.2.2.2.2.2.1 x_.2.2.2.2.2.2.1 k_) (fun ρ x_ r_ k_=>k_ 0 (Shape.inj jg.c220528x0 (x_.1,x_.2.1,r_.1,x_.2.2.2.1,x_.2.2.2.2.1,r_.2.1,r_.2.2,())))
def jg.c100004 {ρ:Type} (done:Int) (t13:Int) (t14:Int) (n0:Int) (t11:List YP) (k_:(Int×Int×Int×(List YP))⊕(Int×Int×Int×(List YP))→Option ρ):Option ρ:=
 br (decide (t14 < t13))
 (bnd (W.jg.c220528 done t14 n0 t11 some) fun y=>
 k_ (.inl (y.1,(IntKind.i64.wrap (t14+(1:Int))),y.2.1,y.2.2)))
 (k_ (.inr (done,t14,n0,t11)))
def jg.c100004s:Shape:=jg.c220528s
def jg.c100004x0:Shape:=jg.c220528s
def jg.c100004r:Ck:=Ck.ofLoop (S:=Int×Int×Int×(List YP)) (T:=Int×Int×Int×(List YP)) jg.c100004s (fun x_=>(x_.2.2.1,x_.2.2.2.2.1,x_.2.2.2.2.2.1,x_.2.2.2.2.2.2.1)) (fun ρ x_ s_ k_=>jg.c100004 s_.1 x_.2.2.2.1 s_.2.1 s_.2.2.1 s_.2.2.2 k_) (fun ρ x_ r_ k_=>k_ 2 (Shape.inj jg.c100004x0 (x_.1,x_.2.1,r_.1,x_.2.2.2.1,r_.2.1,r_.2.2.1,r_.2.2.2,())))
def jg (l:List YP) (n:Int):Option (List YP):=
 bnd (okIf (decide (((0:Nat)+List.length l)*(24:Nat)≤(140737488355328:Nat)) && decide ((0:Nat)+List.length l≤(140737488355328:Nat)))) fun y=>
 bnd (iter (fun s↦W.jg.c100004 s.1 (IntKind.i64.wrap ((2:Int)*n)) s.2.1 s.2.2.1 s.2.2.2 some) ((0:Int),(0:Int),n,l)) fun y_1=>
 some y_1.2.2.2
def jg.ce:Go.Ql.Callee:=⟨[(.sl (.st (.pair (.int .u64) (.pair (.int .u64) .bool)))),(.int .i64)],[(.sl (.st (.pair (.int .u64) (.pair (.int .u64) .bool))))],fun x_=>jg x_.1 x_.2⟩
def jg.G:Env:=⟨85,tab,[(86,jJ.ce)],[0,1,3,4,5,6,7,8,9,13,14,15,31,37,53,54,55,67],[11],[(16,[⟨[],[],[69,70,71,72,73,74,75,76,77,78],[]⟩,⟨[],[],[68,70,71,72,73,74,75,76,77,78],[]⟩,⟨[],[],[68,69,71,74,75,76,77],[]⟩,⟨[],[],[68,69,70,74,75,76,77],[]⟩,⟨[2,3],[],[68,69,74,75,76,77],[]⟩,⟨[4,2,3],[],[68,69,74,75,76,77],[]⟩,⟨[],[],[68,69,70,71,72,73,75],[]⟩,⟨[],[],[68,69,70,71,72,73,74],[]⟩,⟨[6,7],[],[68,69,70,71,72,73],[]⟩,⟨[8,6,7],[],[68,69,70,71,72,73],[]⟩,⟨[5,4,2,3,9,8,6,7],[],[68,69],[]⟩,⟨[0,1,2,3,4,5,6,7,8,9,10],[],[],[]⟩,⟨[11,0,1,2,3,4,5,6,7,8,9,10],[11],[],[]⟩]),
 (11,[⟨[],[],[39,40,41,42,43,44,45,46,47,48,49],[]⟩,⟨[],[],[38,40,41,42,43,44,45,46,47,48,49],[]⟩,⟨[],[],[38,39,41,42,43,44,45,46,47,48,49,50],[11]⟩,⟨[],[],[38,39,40,42,43,44,45,46,47,48,49,50],[11]⟩,⟨[],[],[38,39,40,41,43,46,47,48,49],[]⟩,⟨[],[],[38,39,40,41,42,46,47,48,49],[]⟩,⟨[4,5],[],[38,39,40,41,46,47,48,49],[]⟩,⟨[6,4,5],[],[38,39,40,41,46,47,48,49],[]⟩,⟨[],[],[38,39,40,41,42,43,44,45,47],[]⟩,⟨[],[],[38,39,40,41,42,43,44,45,46],[]⟩,⟨[8,9],[],[38,39,40,41,42,43,44,45],[]⟩,⟨[10,8,9],[],[38,39,40,41,42,43,44,45],[]⟩,⟨[0,1,4,5,6,7,11,10,8,9],[],[40,41],[]⟩,⟨[12,0,1,4,5,6,7,11,10,8,9],[11],[40,41],[]⟩,⟨[2,3,0,1,4,5,6,7,8,9,10,11,12,13],[],[],[]⟩,⟨[14,2,3,0,1,4,5,6,7,8,9,10,11,12,13],[11],[],[]⟩])],[(100004,jg.c100004r),(220528,jg.c220528r),(100013,jg.c100013r),(257352,jg.c257352r),(16,jg.c16r),(15,jg.c15r),(11,jg.c11r),(100008,jg.c100008r),(8,jg.c8r)],[(88,Jv.mc)],jZ⟩
theorem jg.eq (x_:dens jg.ce.params):den jg.G Try.f42 jg.ce.params jg.ce.res x_=jg.ce.F x_:=by kernel_rfl
theorem jg.p0:PcA jg.G Try.f42 0:=
 Jk (s:=jg.c100004r) (by kernel_rfl) (by kernel_rfl) (Jc (sh:=jg.c100004s) (I:=fun x_ s_=>(x_.1,x_.2.1,s_.1,x_.2.2.2.1,s_.2.1,s_.2.2.1,s_.2.2.2,())) (fun x_=>rfl) (fun ρ x_ s_ k_=>(jm (jc fun _=>jd) jd)) (fun ρ x_ t k=>(by kernel_rfl)) (fun x_ s=>by kernel_rfl))
theorem jg.p1:PcA jg.G Try.f42 1:=
 JV (s:=jg.c220528r) (by kernel_rfl) (by kernel_rfl) (jt (sh:=jg.c220528s) (fun ρ x_ k_=>(jc fun _=>(jm jd (jc fun _=>(jc fun _=>jd))))) (fun ρ x_ t k=>(by kernel_rfl)) (fun x_=>by kernel_rfl))
theorem jg.p2:PcA jg.G Try.f42 2:=
 Jk (s:=jg.c100008r) (by kernel_rfl) (by kernel_rfl) (Jc (sh:=jg.c100008s) (I:=fun x_ s_=>(x_.1,x_.2.1,x_.2.2.1,s_.1,x_.2.2.2.2.1,x_.2.2.2.2.2.1,s_.2.1,s_.2.2,x_.2.2.2.2.2.2.2.2)) (fun x_=>rfl) (fun ρ x_ s_ k_=>(jc fun _=>(jm jd jd))) (fun ρ x_ t k=>(by kernel_rfl)) (fun x_ s=>by kernel_rfl))
theorem jg.p3:PcA jg.G Try.f42 3:=
 ju (s:=jg.c8r) (by kernel_rfl) (by kernel_rfl) (jt (sh:=jg.c8s) (fun ρ x_ k_=>(jm (jc fun _=>(jc fun _=>(jc fun _=>jd))) jd)) (fun ρ x_ t k=>(by kernel_rfl)) (fun x_=>by kernel_rfl))
theorem jg.p4:PcA jg.G Try.f42 4:=
 ju (s:=jg.c11r) (by kernel_rfl) (by kernel_rfl) (jt (sh:=jg.c11s) (fun ρ x_ k_=>(jc fun _=>(jc fun _=>(jc fun _=>(jc fun _=>(jc fun _=>(jc fun _=>(jc fun _=>(jc fun _=>jd))))))))) (fun ρ x_ t k=>(by kernel_rfl)) (fun x_=>by kernel_rfl))
theorem jg.p5:PcA jg.G Try.f42 5:=
 Jk (s:=jg.c100013r) (by kernel_rfl) (by kernel_rfl) (Jc (sh:=jg.c100013s) (I:=fun x_ s_=>(x_.1,x_.2.1,x_.2.2.1,x_.2.2.2.1,x_.2.2.2.2.1,x_.2.2.2.2.2.1,x_.2.2.2.2.2.2.1,s_.1,s_.2.1,s_.2.2.1,s_.2.2.2,())) (fun x_=>rfl) (fun ρ x_ s_ k_=>(jm (jc fun _=>jd) jd)) (fun ρ x_ t k=>(by kernel_rfl)) (fun x_ s=>by kernel_rfl))
theorem jg.p6:PcA jg.G Try.f42 6:=
 JV (s:=jg.c257352r) (by kernel_rfl) (by kernel_rfl) (jt (sh:=jg.c257352s) (fun ρ x_ k_=>(jc fun _=>(jm (jc fun _=>jd) jd))) (fun ρ x_ t k=>(by kernel_rfl)) (fun x_=>by kernel_rfl))
theorem jg.p7:PcA jg.G Try.f42 7:=
 ju (s:=jg.c15r) (by kernel_rfl) (by kernel_rfl) (jt (sh:=jg.c15s) (fun ρ x_ k_=>(jm (jc fun _=>(jc fun _=>(jc fun _=>jd))) jd)) (fun ρ x_ t k=>(by kernel_rfl)) (fun x_=>by kernel_rfl))
theorem jg.p8:PcA jg.G Try.f42 8:=
 ju (s:=jg.c16r) (by kernel_rfl) (by kernel_rfl) (jt (sh:=jg.c16s) (fun ρ x_ k_=>(jc fun _=>(jc fun _=>(jc fun _=>(jc fun _=>(jc fun _=>(jc fun _=>(jc fun _=>jd)))))))) (fun ρ x_ t k=>(by kernel_rfl)) (fun x_=>by kernel_rfl))
theorem jg.ok:CalleeOk Try.prog 42 jg.ce:=fn_ok (G:=jg.G) Jj mixed Try.func42 ⟨(jx jJ.ok Ja),(YT Jv.ok jR),jA⟩ (m:=9) (by kernel_rfl) ⟨⟨⟨⟨⟨⟨⟨⟨⟨trivial,jg.p0⟩,jg.p1⟩,jg.p2⟩,jg.p3⟩,jg.p4⟩,jg.p5⟩,jg.p6⟩,jg.p7⟩,jg.p8⟩ (by kernel_rfl) jg.eq
abbrev tb89:SD:=.one (.val (.st (.pair (.int .i64) (.int .i64))))
def Jp.c1 {ρ:Type}  (k_:Unit→Option ρ):Option ρ:=
 k_ ()
def Jp.c1s:Shape:=⟨[(0,tb89),(1,tb1),(2,tb21),(3,tb36),(4,tb5),(5,tb39)],[(1,tb19),(5,tb19)]⟩
def Jp.c1x0:Shape:=Jp.c1s
def Jp.c1r:Ck:=Ck.of (T:=Unit) Jp.c1s (fun ρ x_ k_=>Jp.c1  k_) (fun ρ x_ r_ k_=>k_ 0 (Shape.inj Jp.c1x0 (x_.1,[],[],(0:Int),x_.2.2.2.2.1,x_.2.2.2.2.2.1,x_.2.2.2.2.1,x_.2.2.2.2.2.1,())))
def Jp (f:Int×Int):Option ((List (List UInt8))×(List Int)×Int×(Int×Int)):=
 bnd (W.Jp.c1 some) fun y=>
 some ([],[],(0:Int),f.1,f.2)
def Jp.ce:Go.Ql.Callee:=⟨[(.st (.pair (.int .i64) (.int .i64)))],[(.sl .str),(.sl (.int .i64)),(.int .i64),(.st (.pair (.int .i64) (.int .i64)))],fun x_=>Jp x_⟩
def Jp.G:Env:=⟨7,tab,[],[0,1,2,3,4,5],[],[(1,[⟨[],[],[2,3,4],[2,3]⟩,⟨[],[2],[6],[]⟩,⟨[1],[3],[6],[]⟩,⟨[2,1],[],[6],[]⟩,⟨[0,3,2,1],[5],[],[]⟩])],[(1,Jp.c1r)],[],jZ⟩
theorem Jp.eq (x_:dens Jp.ce.params):den Jp.G Try.f35 Jp.ce.params Jp.ce.res x_=Jp.ce.F x_:=by kernel_rfl
theorem Jp.p0:PcA Jp.G Try.f35 0:=
 ju (s:=Jp.c1r) (by kernel_rfl) (by kernel_rfl) (jt (sh:=Jp.c1s) (fun ρ x_ k_=>jd) (fun ρ x_ t k=>(by kernel_rfl)) (fun x_=>by kernel_rfl))
theorem Jp.ok:CalleeOk Try.prog 35 Jp.ce:=fn_ok (G:=Jp.G) Jj mixed Try.func35 ⟨Ja,jR,jA⟩ (m:=1) (by kernel_rfl) ⟨trivial,Jp.p0⟩ (by kernel_rfl) Jp.eq
abbrev tb90:SD:=.one (.fn 35)
abbrev tb91:SD:=.one (.ref 65 0)
abbrev tb92:SD:=.one (.own 68 0)
abbrev tb93:SO:=.box [.val (.int .i64),.own 1065 0,.own 2065 0]
abbrev tb94:SD:=.one (.ref 17 0)
abbrev tb95:SD:=.one (.own 19 0)
abbrev tb96:SO:=.box [.val (.int .i64),.val (.sl (.st (.pair (.int .u64) (.pair (.int .u64) .bool)))),.own 2065 0]
abbrev tb97:SD:=.one (.ref 21 0)
def ji.c5 {ρ:Type} (t1:Int) (c0:Int) (k_:Bool→Option ρ):Option ρ:=
 br (decide (t1 < (0:Int)))
 (k_ true)
 (bnd (okIf (decide ((0:Int)≤c0))) fun y=>
 k_ (decide (t1≥IntKind.i64.wrap ((1:Int)*(2:Int) ^ Min.min (Int.toNat c0) (64:Nat)))))
def ji.c5s:Shape:=⟨[(0,tb38),(1,tb5),(2,tb36),(3,tb12),(6,tb21),(7,tb36),(8,tb5),(9,tb79),(10,tb90),(11,tb23)],[(3,tb34),(9,tb19),(11,tb19)]⟩
def ji.c5x0:Shape:=⟨[(0,tb38),(1,tb5),(2,tb36),(3,tb12),(6,tb21),(7,tb36),(8,tb5),(9,tb79),(10,tb90),(11,tb23),(42,tb7)],[(3,tb34),(9,tb19),(11,tb19)]⟩
def ji.c5r:Ck:=Ck.of (T:=Bool) ji.c5s (fun ρ x_ k_=>ji.c5 x_.2.1 x_.2.2.2.2.2.2.1 k_) (fun ρ x_ r_ k_=>k_ 0 (Shape.inj ji.c5x0 (x_.1,x_.2.1,x_.2.2.1,x_.2.2.2.1,x_.2.2.2.2.1,x_.2.2.2.2.2.1,r_,x_.2.2.2.2.2.2)))
def ji.c10 {ρ:Type} (t1:Int) (c0:Int) (c1:Int) (k_:Int×(List YP)×(List YP)→Option ρ):Option ρ:=
 bnd (W.jw c0 t1) fun y=>
 bnd (okIf (decide ((0:Int)≤c1) && decide (c1≤c1) && decide (c1*(↑(8:Nat):Int)≤(140737488355328:Int)) && decide (c1≤(140737488355328:Int)))) fun y_1=>
 k_ (y.1,y.2.1,y.2.2.1)
def ji.c10s:Shape:=⟨[(0,tb38),(1,tb5),(2,tb36),(3,tb12),(6,tb21),(7,tb36),(8,tb5),(9,tb79),(10,tb90),(11,tb23),(12,tb74)],[(3,tb34),(9,tb19),(11,tb19),(12,tb19)]⟩
def ji.c10x0:Shape:=⟨[(0,tb38),(1,tb5),(2,tb36),(3,tb12),(6,tb21),(7,tb36),(8,tb5),(9,tb79),(10,tb90),(11,tb23),(12,tb74),(13,tb91),(14,tb92),(15,tb5)],[(3,tb34),(9,tb19),(11,tb19),(12,tb19),(65,tb93),(68,tb50),(1065,tb22),(2065,tb22)]⟩
def ji.c10r:Ck:=Ck.of (T:=Int×(List YP)×(List YP)) ji.c10s (fun ρ x_ k_=>ji.c10 x_.2.1 x_.2.2.2.2.2.2.1 x_.2.2.2.2.2.2.2.1 k_) (fun ρ x_ r_ k_=>k_ 0 (Shape.inj ji.c10x0 (x_.1,x_.2.1,x_.2.2.1,x_.2.2.2.1,x_.2.2.2.2.1,x_.2.2.2.2.2.1,(0:Int),x_.2.2.2.2.2.2.1,x_.2.2.2.2.2.2.2.1,x_.2.2.2.2.2.2.2.2.1,x_.2.2.2.2.2.2.2.2.2.1,x_.2.2.2.2.2.2.2.2.2.2.1,x_.2.2.2.2.2.2.2.2.2.2.2.1,x_.2.2.2.2.2.2.2.2.2.2.2.2.1,x_.2.2.2.2.2.2.2.2.2.2.2.2.2.1,x_.2.2.2.2.2.2.2.2.2.2.2.2.2.2.1,r_.1,(List.replicate (Int.toNat x_.2.2.2.2.2.2.2.1) (0:Int)),r_.2.1,r_.2.2,())))
def ji.c20 {ρ:Type} (b:Int) (o3:Int) (t650:Int) (t1065:List YP) (t2065:List YP) (k_:Bool×Int×(List YP)×(List YP)→Option ρ):Option ρ:=
 br (b != (0:Int))
 (br (b != (1:Int))
 (k_ (true,t650,t1065,t2065))
 (bnd (W.jb o3 b t650 t1065 t2065) fun y=>
 k_ ((!y.1),y.2.2.2.1,y.2.1,y.2.2.1)))
 (bnd (W.jb o3 b t650 t1065 t2065) fun y_1=>
 k_ ((!y_1.1),y_1.2.2.2.1,y_1.2.1,y_1.2.2.1))
def ji.c20s:Shape:=⟨[(0,tb38),(1,tb5),(2,tb36),(3,tb12),(6,tb21),(7,tb36),(8,tb5),(9,tb79),(10,tb90),(11,tb23),(12,tb74),(13,tb91),(14,tb92),(15,tb5),(16,tb5),(17,tb94),(18,tb5),(70,tb31),(71,tb5),(72,tb5)],[(3,tb34),(9,tb19),(11,tb19),(12,tb19),(17,tb26),(65,tb93),(68,tb50),(1065,tb22),(2065,tb22)]⟩
def ji.c20x0:Shape:=⟨[(0,tb38),(1,tb5),(2,tb36),(3,tb12),(6,tb21),(7,tb36),(8,tb5),(9,tb79),(10,tb90),(11,tb23),(12,tb74),(13,tb91),(14,tb92),(15,tb5),(16,tb5),(17,tb94),(18,tb5),(70,tb31),(71,tb5),(72,tb5),(119,tb7)],[(3,tb34),(9,tb19),(11,tb19),(12,tb19),(17,tb26),(65,tb93),(68,tb50),(1065,tb22),(2065,tb22)]⟩
def ji.c20r:Ck:=Ck.of (T:=Bool×Int×(List YP)×(List YP)) ji.c20s (fun ρ x_ k_=>ji.c20 x_.2.2.2.2.2.2.2.2.1 x_.2.2.2.2.2.2.2.2.2.2.2.2.2.2.2.2.2.2.2.2.2.2.2.2.1 x_.2.2.2.2.2.2.2.2.2.2.2.2.2.2.2.2.2.2.2.2.2.2.2.2.2.2.2.1 x_.2.2.2.2.2.2.2.2.2.2.2.2.2.2.2.2.2.2.2.2.2.2.2.2.2.2.2.2.2.1 x_.2.2.2.2.2.2.2.2.2.2.2.2.2.2.2.2.2.2.2.2.2.2.2.2.2.2.2.2.2.2.1 k_) (fun ρ x_ r_ k_=>uP x_ fun c x_=>uP x_ fun t1 x_=>uP x_ fun tape x_=>uP x_ fun t6 x_=>uP x_ fun t7 x_=>uP x_ fun t8 x_=>uP x_ fun used x_=>uP x_ fun i x_=>uP x_ fun b x_=>uP x_ fun t70 x_=>uP x_ fun t71 x_=>uP x_ fun t72 x_=>uP x_ fun c0 x_=>uP x_ fun c1 x_=>uP x_ fun c2 x_=>uP x_ fun t90 x_=>uP x_ fun t91 x_=>uP x_ fun f0 x_=>uP x_ fun f1 x_=>uP x_ fun f0_1 x_=>uP x_ fun f1_1 x_=>uP x_ fun o0 x_=>uP x_ fun o1 x_=>uP x_ fun o2 x_=>uP x_ fun o3 x_=>uP x_ fun o4 x_=>uP x_ fun o5 x_=>uP x_ fun t650 x_=>uP x_ fun t68 x_=>uP x_ fun t1065 x_=>uP x_ fun t2065 x_=>k_ 0 (Shape.inj ji.c20x0 (c,t1,tape,t6,t7,t8,used,i,b,t70,t71,t72,r_.1,c0,c1,c2,t90,t91,f0,f1,f0_1,f1_1,o0,o1,o2,o3,o4,o5,r_.2.1,t68,r_.2.2.1,r_.2.2.2,())))
def ji.c253291 {ρ:Type} (tape:List Int) (used:Int) (t70:List YO) (t72:Int) (t650:Int) (t68:List Int) (t1065:List YP) (t2065:List YP) (k_:(Int×Int×(List Int)×(List YP)×(List YP))⊕((List (List UInt8))×(List Int)×Int×Int×Int×Int×(List YP)×(List YP))→Option ρ):Option ρ:=
 bnd (idx t70 t72) fun y=>
 bnd (W.jI (y.1,y.2.1,y.2.2.1,y.2.2.2.1,y.2.2.2.2.1,y.2.2.2.2.2) t68) fun y_1=>
 br (!y_1)
 (k_ (.inl (used,t650,t68,t1065,t2065)))
 (br (decide (y.1 < (5:Int)))
 (bnd (W.jp (y.1,y.2.1,y.2.2.1,y.2.2.2.1,y.2.2.2.2.1,y.2.2.2.2.2) t650 t1065 t2065) fun y_2=>
 k_ (.inl (used,y_2.2.2.1,t68,y_2.1,y_2.2.1)))
 (br (used == (↑(List.length tape):Int))
 (bnd (W.Jp ((19:Int),t72)) fun y_3=>
 k_ (.inr (y_3.1,y_3.2.1,y_3.2.2.1,y_3.2.2.2.1,y_3.2.2.2.2,t650,t1065,t2065)))
 (bnd (idx tape used) fun y_4=>
 bnd (W.ji.c20 y_4 y.2.2.2.1 t650 t1065 t2065 some) fun y_5=>
 br y_5.1
 (bnd (W.Jp ((20:Int),t72)) fun y_6=>
 k_ (.inr (y_6.1,y_6.2.1,y_6.2.2.1,y_6.2.2.2.1,y_6.2.2.2.2,y_5.2.1,y_5.2.2.1,y_5.2.2.2)))
 (br (y.1 == (5:Int))
 (bnd (inR (List.length t68) y.2.2.2.2.1) fun y_7=>
 bnd (idx t68 y.2.2.2.2.1) fun y_8=>
 k_ (.inl ((IntKind.i64.wrap (used+(1:Int))),y_5.2.1,(List.set t68 (Int.toNat y.2.2.2.2.1) y_4),y_5.2.2.1,y_5.2.2.2)))
 (br (y_4 == (1:Int))
 (bnd (W.jp ((2:Int),(0:Int),[],y.2.2.2.1,(0:Int),[]) y_5.2.1 y_5.2.2.1 y_5.2.2.2) fun y_9=>
 k_ (.inl ((IntKind.i64.wrap (used+(1:Int))),y_9.2.2.1,t68,y_9.1,y_9.2.1)))
 (k_ (.inl ((IntKind.i64.wrap (used+(1:Int))),y_5.2.1,t68,y_5.2.2.1,y_5.2.2.2))))))))
def ji.c253291s:Shape:=⟨[(0,tb38),(1,tb5),(2,tb36),(3,tb12),(6,tb21),(7,tb36),(8,tb5),(9,tb79),(10,tb90),(11,tb23),(12,tb74),(13,tb91),(14,tb92),(15,tb5),(70,tb31),(71,tb5),(72,tb5)],[(3,tb34),(9,tb19),(11,tb19),(12,tb19),(65,tb93),(68,tb50),(1065,tb22),(2065,tb22)]⟩
def ji.c253291x0:Shape:=ji.c253291s
def ji.c253291x1:Shape:=ji.c253291s
def ji.c253291r:Ck:=Ck.of (T:=(Int×Int×(List Int)×(List YP)×(List YP))⊕((List (List UInt8))×(List Int)×Int×Int×Int×Int×(List YP)×(List YP))) ji.c253291s (fun ρ x_ k_=>ji.c253291 x_.2.2.1 x_.2.2.2.2.2.2.1 x_.2.2.2.2.2.2.2.1 x_.2.2.2.2.2.2.2.2.2.1 x_.2.2.2.2.2.2.2.2.2.2.2.2.2.2.2.2.2.2.2.1 x_.2.2.2.2.2.2.2.2.2.2.2.2.2.2.2.2.2.2.2.2.1 x_.2.2.2.2.2.2.2.2.2.2.2.2.2.2.2.2.2.2.2.2.2.1 x_.2.2.2.2.2.2.2.2.2.2.2.2.2.2.2.2.2.2.2.2.2.2.1 k_) (fun ρ x_ r_ k_=>uP x_ fun c x_=>uP x_ fun t1 x_=>uP x_ fun tape x_=>uP x_ fun t6 x_=>uP x_ fun t7 x_=>uP x_ fun t8 x_=>uP x_ fun used x_=>uP x_ fun t70 x_=>uP x_ fun t71 x_=>uP x_ fun t72 x_=>uP x_ fun c0 x_=>uP x_ fun c1 x_=>uP x_ fun c2 x_=>uP x_ fun t90 x_=>uP x_ fun t91 x_=>uP x_ fun f0 x_=>uP x_ fun f1 x_=>uP x_ fun f0_1 x_=>uP x_ fun f1_1 x_=>uP x_ fun t650 x_=>uP x_ fun t68 x_=>uP x_ fun t1065 x_=>uP x_ fun t2065 x_=>sel r_ (fun r_=>k_ 0 (Shape.inj ji.c253291x0 (c,t1,tape,t6,t7,t8,r_.1,t70,t71,t72,c0,c1,c2,t90,t91,f0,f1,f0_1,f1_1,r_.2.1,r_.2.2.1,r_.2.2.2.1,r_.2.2.2.2,()))) (fun r_=>k_ 1 (Shape.inj ji.c253291x1 (c,t1,tape,r_.1,r_.2.1,r_.2.2.1,used,t70,t71,t72,c0,c1,c2,r_.2.2.2.1,r_.2.2.2.2.1,f0,f1,f0_1,f1_1,r_.2.2.2.2.2.1,t68,r_.2.2.2.2.2.2.1,r_.2.2.2.2.2.2.2,()))))
def ji.c100012 {ρ:Type} (tape:List Int) (used:Int) (t70:List YO) (t71:Int) (t72:Int) (t650:Int) (t68:List Int) (t1065:List YP) (t2065:List YP) (k_:(Int×Int×Int×(List Int)×(List YP)×(List YP))⊕(((List (List UInt8))×(List Int)×Int×Int×Int×Int×Int×Int×(List Int)×(List YP)×(List YP))⊕(Int×Int×Int×(List Int)×(List YP)×(List YP)))→Option ρ):Option ρ:=
 br (decide (t72 < t71))
 (bnd (W.ji.c253291 tape used t70 t72 t650 t68 t1065 t2065 some) fun y=>
 sel y
 (fun u=>k_ (.inl (u.1,(IntKind.i64.wrap (t72+(1:Int))),u.2.1,u.2.2.1,u.2.2.2.1,u.2.2.2.2)))
 (fun v=>k_ (.inr (.inl (v.1,v.2.1,v.2.2.1,used,t72,v.2.2.2.1,v.2.2.2.2.1,v.2.2.2.2.2.1,t68,v.2.2.2.2.2.2.1,v.2.2.2.2.2.2.2)))))
 (k_ (.inr (.inr (used,t72,t650,t68,t1065,t2065))))
def ji.c100012s:Shape:=ji.c253291s
def ji.c100012x0:Shape:=ji.c253291s
def ji.c100012x1:Shape:=ji.c253291s
def ji.c100012r:Ck:=Ck.ofLoop (S:=Int×Int×Int×(List Int)×(List YP)×(List YP)) (T:=((List (List UInt8))×(List Int)×Int×Int×Int×Int×Int×Int×(List Int)×(List YP)×(List YP))⊕(Int×Int×Int×(List Int)×(List YP)×(List YP))) ji.c100012s (fun x_=>(x_.2.2.2.2.2.2.1,x_.2.2.2.2.2.2.2.2.2.1,x_.2.2.2.2.2.2.2.2.2.2.2.2.2.2.2.2.2.2.2.1,x_.2.2.2.2.2.2.2.2.2.2.2.2.2.2.2.2.2.2.2.2.1,x_.2.2.2.2.2.2.2.2.2.2.2.2.2.2.2.2.2.2.2.2.2.1,x_.2.2.2.2.2.2.2.2.2.2.2.2.2.2.2.2.2.2.2.2.2.2.1)) (fun ρ x_ s_ k_=>ji.c100012 x_.2.2.1 s_.1 x_.2.2.2.2.2.2.2.1 x_.2.2.2.2.2.2.2.2.1 s_.2.1 s_.2.2.1 s_.2.2.2.1 s_.2.2.2.2.1 s_.2.2.2.2.2 k_) (fun ρ x_ r_ k_=>uP x_ fun c x_=>uP x_ fun t1 x_=>uP x_ fun tape x_=>uP x_ fun t6 x_=>uP x_ fun t7 x_=>uP x_ fun t8 x_=>uP x_ fun used x_=>uP x_ fun t70 x_=>uP x_ fun t71 x_=>uP x_ fun t72 x_=>uP x_ fun c0 x_=>uP x_ fun c1 x_=>uP x_ fun c2 x_=>uP x_ fun t90 x_=>uP x_ fun t91 x_=>uP x_ fun f0 x_=>uP x_ fun f1 x_=>uP x_ fun f0_1 x_=>uP x_ fun f1_1 x_=>uP x_ fun t650 x_=>uP x_ fun t68 x_=>uP x_ fun t1065 x_=>uP x_ fun t2065 x_=>sel r_ (fun r_=>k_ 1 (Shape.inj ji.c100012x0 (c,t1,tape,r_.1,r_.2.1,r_.2.2.1,r_.2.2.2.1,t70,t71,r_.2.2.2.2.1,c0,c1,c2,r_.2.2.2.2.2.1,r_.2.2.2.2.2.2.1,f0,f1,f0_1,f1_1,r_.2.2.2.2.2.2.2.1,r_.2.2.2.2.2.2.2.2.1,r_.2.2.2.2.2.2.2.2.2.1,r_.2.2.2.2.2.2.2.2.2.2,()))) (fun r_=>k_ 2 (Shape.inj ji.c100012x1 (c,t1,tape,t6,t7,t8,r_.1,t70,t71,r_.2.1,c0,c1,c2,t90,t91,f0,f1,f0_1,f1_1,r_.2.2.1,r_.2.2.2.1,r_.2.2.2.2.1,r_.2.2.2.2.2,()))))
def ji.c29 {ρ:Type} (t650:Int) (t1065:List YP) (k_:(List YP)×Int→Option ρ):Option ρ:=
 bnd (W.jg t1065 t650) fun y=>
 k_ (y,(↑(List.length y):Int))
def ji.c29s:Shape:=⟨[(0,tb38),(1,tb5),(2,tb36),(3,tb12),(6,tb21),(7,tb36),(8,tb5),(9,tb79),(10,tb90),(11,tb23),(12,tb74),(13,tb91),(14,tb92),(15,tb5),(19,tb95),(70,tb31),(71,tb5),(72,tb5)],[(3,tb34),(9,tb19),(11,tb19),(12,tb19),(19,tb47),(65,tb93),(68,tb50),(1065,tb22),(2065,tb22)]⟩
def ji.c29x0:Shape:=⟨[(0,tb38),(1,tb5),(2,tb36),(3,tb12),(6,tb21),(7,tb36),(8,tb5),(9,tb79),(10,tb90),(11,tb23),(12,tb74),(13,tb91),(14,tb92),(15,tb5),(19,tb95),(70,tb31),(71,tb5),(72,tb5),(154,tb17),(155,tb5),(156,tb5)],[(3,tb34),(9,tb19),(11,tb19),(12,tb19),(19,tb47),(65,tb96),(68,tb50),(2065,tb22)]⟩
def ji.c29r:Ck:=Ck.of (T:=(List YP)×Int) ji.c29s (fun ρ x_ k_=>ji.c29 x_.2.2.2.2.2.2.2.2.2.2.2.2.2.2.2.2.2.2.2.2.1 x_.2.2.2.2.2.2.2.2.2.2.2.2.2.2.2.2.2.2.2.2.2.2.1 k_) (fun ρ x_ r_ k_=>uP x_ fun c x_=>uP x_ fun t1 x_=>uP x_ fun tape x_=>uP x_ fun t6 x_=>uP x_ fun t7 x_=>uP x_ fun t8 x_=>uP x_ fun used x_=>uP x_ fun t70 x_=>uP x_ fun t71 x_=>uP x_ fun t72 x_=>uP x_ fun c0 x_=>uP x_ fun c1 x_=>uP x_ fun c2 x_=>uP x_ fun t90 x_=>uP x_ fun t91 x_=>uP x_ fun f0 x_=>uP x_ fun f1 x_=>uP x_ fun f0_1 x_=>uP x_ fun f1_1 x_=>uP x_ fun out x_=>uP x_ fun t650 x_=>uP x_ fun t68 x_=>uP x_ fun t1065 x_=>uP x_ fun t2065 x_=>k_ 0 (Shape.inj ji.c29x0 (c,t1,tape,t6,t7,t8,used,t70,t71,t72,r_.1,r_.2,(0:Int),c0,c1,c2,t90,t91,f0,f1,f0_1,f1_1,out,t650,t1065,t68,t2065,())))
def ji.c32 {ρ:Type} (out:List (List UInt8)) (p0:Int) (p1:Int) (p2:Bool) (t650:Int) (k_:List (List UInt8)→Option ρ):Option ρ:=
 bnd (W.jr (p0,p1,p2) t650) fun y=>
 bnd (okIf (decide ((List.length out+(1:Nat))*(16:Nat)≤(140737488355328:Nat)) && decide (List.length out+(1:Nat)≤(140737488355328:Nat)))) fun y_1=>
 k_ (out++[y])
def ji.c32s:Shape:=⟨[(0,tb38),(1,tb5),(2,tb36),(3,tb12),(6,tb21),(7,tb36),(8,tb5),(9,tb79),(10,tb90),(11,tb23),(12,tb74),(13,tb91),(14,tb92),(15,tb5),(19,tb95),(21,tb97),(70,tb31),(71,tb5),(72,tb5),(154,tb17),(155,tb5),(156,tb5)],[(3,tb34),(9,tb19),(11,tb19),(12,tb19),(19,tb47),(21,tb9),(65,tb96),(68,tb50),(2065,tb22)]⟩
def ji.c32x0:Shape:=ji.c32s
def ji.c32r:Ck:=Ck.of (T:=List (List UInt8)) ji.c32s (fun ρ x_ k_=>ji.c32 x_.2.2.2.2.2.2.2.2.2.2.2.2.2.2.2.2.2.2.2.2.2.2.1 x_.2.2.2.2.2.2.2.2.2.2.2.2.2.2.2.2.2.2.2.2.2.2.2.1 x_.2.2.2.2.2.2.2.2.2.2.2.2.2.2.2.2.2.2.2.2.2.2.2.2.1 x_.2.2.2.2.2.2.2.2.2.2.2.2.2.2.2.2.2.2.2.2.2.2.2.2.2.1 x_.2.2.2.2.2.2.2.2.2.2.2.2.2.2.2.2.2.2.2.2.2.2.2.2.2.2.1 k_) (fun ρ x_ r_ k_=>k_ 0 (Shape.inj ji.c32x0 (x_.1,x_.2.1,x_.2.2.1,x_.2.2.2.1,x_.2.2.2.2.1,x_.2.2.2.2.2.1,x_.2.2.2.2.2.2.1,x_.2.2.2.2.2.2.2.1,x_.2.2.2.2.2.2.2.2.1,x_.2.2.2.2.2.2.2.2.2.1,x_.2.2.2.2.2.2.2.2.2.2.1,x_.2.2.2.2.2.2.2.2.2.2.2.1,x_.2.2.2.2.2.2.2.2.2.2.2.2.1,x_.2.2.2.2.2.2.2.2.2.2.2.2.2.1,x_.2.2.2.2.2.2.2.2.2.2.2.2.2.2.1,x_.2.2.2.2.2.2.2.2.2.2.2.2.2.2.2.1,x_.2.2.2.2.2.2.2.2.2.2.2.2.2.2.2.2.1,x_.2.2.2.2.2.2.2.2.2.2.2.2.2.2.2.2.2.1,x_.2.2.2.2.2.2.2.2.2.2.2.2.2.2.2.2.2.2.1,x_.2.2.2.2.2.2.2.2.2.2.2.2.2.2.2.2.2.2.2.1,x_.2.2.2.2.2.2.2.2.2.2.2.2.2.2.2.2.2.2.2.2.1,x_.2.2.2.2.2.2.2.2.2.2.2.2.2.2.2.2.2.2.2.2.2.1,r_,x_.2.2.2.2.2.2.2.2.2.2.2.2.2.2.2.2.2.2.2.2.2.2.2)))
def ji.c100030 {ρ:Type} (t154:List YP) (t155:Int) (t156:Int) (out:List (List UInt8)) (t650:Int) (k_:(Int×(List (List UInt8)))⊕(Int×(List (List UInt8)))→Option ρ):Option ρ:=
 br (decide (t156 < t155))
 (bnd (idx t154 t156) fun y=>
 bnd (W.ji.c32 out y.1 y.2.1 y.2.2 t650 some) fun y_1=>
 k_ (.inl ((IntKind.i64.wrap (t156+(1:Int))),y_1)))
 (k_ (.inr (t156,out)))
def ji.c100030s:Shape:=ji.c29x0
def ji.c100030x0:Shape:=ji.c29x0
def ji.c100030r:Ck:=Ck.ofLoop (S:=Int×(List (List UInt8))) (T:=Int×(List (List UInt8))) ji.c100030s (fun x_=>(x_.2.2.2.2.2.2.2.2.2.2.2.2.1,x_.2.2.2.2.2.2.2.2.2.2.2.2.2.2.2.2.2.2.2.2.2.2.1)) (fun ρ x_ s_ k_=>ji.c100030 x_.2.2.2.2.2.2.2.2.2.2.1 x_.2.2.2.2.2.2.2.2.2.2.2.1 s_.1 s_.2 x_.2.2.2.2.2.2.2.2.2.2.2.2.2.2.2.2.2.2.2.2.2.2.2.1 k_) (fun ρ x_ r_ k_=>k_ 5 (Shape.inj ji.c100030x0 (x_.1,x_.2.1,x_.2.2.1,x_.2.2.2.1,x_.2.2.2.2.1,x_.2.2.2.2.2.1,x_.2.2.2.2.2.2.1,x_.2.2.2.2.2.2.2.1,x_.2.2.2.2.2.2.2.2.1,x_.2.2.2.2.2.2.2.2.2.1,x_.2.2.2.2.2.2.2.2.2.2.1,x_.2.2.2.2.2.2.2.2.2.2.2.1,r_.1,x_.2.2.2.2.2.2.2.2.2.2.2.2.2.1,x_.2.2.2.2.2.2.2.2.2.2.2.2.2.2.1,x_.2.2.2.2.2.2.2.2.2.2.2.2.2.2.2.1,x_.2.2.2.2.2.2.2.2.2.2.2.2.2.2.2.2.1,x_.2.2.2.2.2.2.2.2.2.2.2.2.2.2.2.2.2.1,x_.2.2.2.2.2.2.2.2.2.2.2.2.2.2.2.2.2.2.1,x_.2.2.2.2.2.2.2.2.2.2.2.2.2.2.2.2.2.2.2.1,x_.2.2.2.2.2.2.2.2.2.2.2.2.2.2.2.2.2.2.2.2.1,x_.2.2.2.2.2.2.2.2.2.2.2.2.2.2.2.2.2.2.2.2.2.1,r_.2,x_.2.2.2.2.2.2.2.2.2.2.2.2.2.2.2.2.2.2.2.2.2.2.2)))
def ji (c:Int×(Int×(List YO))) (t1:Int) (tape:List Int):Option ((List (List UInt8))×(List Int)×Int×(Int×Int)):=
 bnd (W.jL (c.1,c.2.1,c.2.2)) fun y=>
 br (y.1 != (0:Int))
 (bnd (W.Jp (y.1,y.2)) fun y_1=>
 some (y_1.1,y_1.2.1,y_1.2.2.1,y_1.2.2.2.1,y_1.2.2.2.2))
 (bnd (W.ji.c5 t1 c.1 some) fun y_2=>
 br y_2
 (bnd (W.Jp ((18:Int),(0:Int))) fun y_3=>
 some (y_3.1,y_3.2.1,y_3.2.2.1,y_3.2.2.2.1,y_3.2.2.2.2))
 (bnd (W.jU (c.1,c.2.1,c.2.2)) fun y_4=>
 br (y_4.1 != (0:Int))
 (bnd (W.Jp (y_4.1,y_4.2)) fun y_5=>
 some (y_5.1,y_5.2.1,y_5.2.2.1,y_5.2.2.2.1,y_5.2.2.2.2))
 (bnd (W.ji.c10 t1 c.1 c.2.1 some) fun y_6=>
 bnd (iter (fun s↦W.ji.c100012 tape s.1 c.2.2 (↑(List.length c.2.2):Int) s.2.1 s.2.2.1 s.2.2.2.1 s.2.2.2.2.1 s.2.2.2.2.2 some) ((0:Int),(0:Int),y_6.1,List.replicate (Int.toNat c.2.1) (0:Int),y_6.2.1,y_6.2.2)) fun y_7=>
 sel y_7
 (fun u=>some (u.1,u.2.1,u.2.2.1,u.2.2.2.2.2.1,u.2.2.2.2.2.2.1))
 (fun v=>bnd (W.ji.c29 v.2.2.1 v.2.2.2.2.1 some) fun y_8=>
 bnd (iter (fun s↦W.ji.c100030 y_8.1 y_8.2 s.1 s.2 v.2.2.1 some) ((0:Int),[])) fun y_9=>
 some (y_9.2,v.2.2.2.1,v.1,(0:Int),(0:Int))))))
def ji.ce:Go.Ql.Callee:=⟨[(.st (.pair (.int .i64) (.pair (.int .i64) (.sl (.st (.pair (.int .i64) (.pair (.int .i64) (.pair (.sl (.int .i64)) (.pair (.int .i64) (.pair (.int .i64) (.sl (.int .i64)))))))))))),(.int .i64),(.sl (.int .i64))],[(.sl .str),(.sl (.int .i64)),(.int .i64),(.st (.pair (.int .i64) (.int .i64)))],fun x_=>ji x_.1 x_.2.1 x_.2.2⟩
def ji.G:Env:=⟨174,tab,[(36,jL.ce),(37,jU.ce),(39,jI.ce),(42,jg.ce),(43,jr.ce),(35,Jp.ce)],[0,1,2,3,6,7,8,9,10,11,12,13,14,15,16,17,18,19,21,26,42,54,70,71,72,73,77,82,89,119,132,139,154,155,156,157],[19,65,68,1065,2065],[(32,[⟨[],[],[161,162,163,164,165,166,167],[167]⟩,⟨[],[],[160,162,163,164,165],[]⟩,⟨[],[],[160,161],[]⟩,⟨[2],[],[160,161],[]⟩,⟨[3,2],[],[160,161],[]⟩,⟨[4,3,2],[],[160,161],[]⟩,⟨[1,5,4,3,2],[],[160],[]⟩,⟨[6,1,5,4,3,2],[167],[160],[]⟩,⟨[0,7,6,1,5,4,3,2],[19],[],[]⟩,⟨[8,0,7,6,1,5,4,3,2],[],[],[]⟩]),
 (29,[⟨[],[],[150,151,152,153,156],[]⟩,⟨[0],[],[150,151,152,153,156],[]⟩,⟨[1,0],[],[150,151,152,153,156],[]⟩,⟨[2,1,0],[],[150,151,152,153,156],[]⟩,⟨[],[],[146,147,148,149,156],[]⟩,⟨[4],[],[146,147,148,149,156],[]⟩,⟨[5,4],[],[146,147,148,149,156],[]⟩,⟨[6,5,4],[],[146,147,148,149,156],[]⟩,⟨[3,2,1,0,7,6,5,4],[1065],[156],[]⟩,⟨[8,3,2,1,0,7,6,5,4],[],[156],[]⟩,⟨[],[],[146,147,148,149,150,151,152,153,154,155],[1065]⟩]),
 (10,[⟨[],[],[64,66,67,68],[68]⟩,⟨[0],[],[64,66,67,68],[68]⟩,⟨[],[],[62,63,66,67,68],[68]⟩,⟨[1,0,2],[1065,2065,65],[66,67,68],[68]⟩,⟨[],[],[62,63,64,65,13],[1065,2065,65]⟩,⟨[4],[],[62,63,64,65,13],[1065,2065,65]⟩,⟨[5,4],[68],[62,63,64,65,13],[1065,2065,65]⟩,⟨[3,1,0,2],[],[66,67,68],[68]⟩,⟨[6,5,4,7,3,1,0,2],[],[],[]⟩,⟨[8,6,5,4,7,3,1,0,2],[],[],[]⟩])],[(100030,ji.c100030r),(32,ji.c32r),(29,ji.c29r),(100012,ji.c100012r),(253291,ji.c253291r),(20,ji.c20r),(10,ji.c10r),(5,ji.c5r)],[(38,jw.mc),(40,jp.mc),(41,jb.mc)],jZ⟩
theorem ji.eq (x_:dens ji.ce.params):den ji.G Try.f9 ji.ce.params ji.ce.res x_=ji.ce.F x_:=by kernel_rfl
theorem ji.p0:PcA ji.G Try.f9 0:=
 ju (s:=ji.c5r) (by kernel_rfl) (by kernel_rfl) (jt (sh:=ji.c5s) (fun ρ x_ k_=>(jm jd (jc fun _=>jd))) (fun ρ x_ t k=>(by kernel_rfl)) (fun x_=>by kernel_rfl))
theorem ji.p1:PcA ji.G Try.f9 1:=
 ju (s:=ji.c10r) (by kernel_rfl) (by kernel_rfl) (jt (sh:=ji.c10s) (fun ρ x_ k_=>(jc fun _=>(jc fun _=>jd))) (fun ρ x_ t k=>(by kernel_rfl)) (fun x_=>by kernel_rfl))
theorem ji.p2:PcA ji.G Try.f9 2:=
 Jk (s:=ji.c100012r) (by kernel_rfl) (by kernel_rfl) (Jc (sh:=ji.c100012s) (I:=fun x_ s_=>(x_.1,x_.2.1,x_.2.2.1,x_.2.2.2.1,x_.2.2.2.2.1,x_.2.2.2.2.2.1,s_.1,x_.2.2.2.2.2.2.2.1,x_.2.2.2.2.2.2.2.2.1,s_.2.1,x_.2.2.2.2.2.2.2.2.2.2.1,x_.2.2.2.2.2.2.2.2.2.2.2.1,x_.2.2.2.2.2.2.2.2.2.2.2.2.1,x_.2.2.2.2.2.2.2.2.2.2.2.2.2.1,x_.2.2.2.2.2.2.2.2.2.2.2.2.2.2.1,x_.2.2.2.2.2.2.2.2.2.2.2.2.2.2.2.1,x_.2.2.2.2.2.2.2.2.2.2.2.2.2.2.2.2.1,x_.2.2.2.2.2.2.2.2.2.2.2.2.2.2.2.2.2.1,x_.2.2.2.2.2.2.2.2.2.2.2.2.2.2.2.2.2.2.1,s_.2.2.1,s_.2.2.2.1,s_.2.2.2.2.1,s_.2.2.2.2.2,())) (fun x_=>rfl) (fun ρ x_ s_ k_=>(jm (jc fun _=>(ka (fun _=>jd) (fun _=>jd))) jd)) (fun ρ x_ t k=>(ka (fun _=>(by kernel_rfl)) (fun _=>(by kernel_rfl)))) (fun x_ s=>by kernel_rfl))
theorem ji.p3:PcA ji.G Try.f9 3:=
 JV (s:=ji.c253291r) (by kernel_rfl) (by kernel_rfl) (jt (sh:=ji.c253291s) (fun ρ x_ k_=>(jc fun _=>(jc fun _=>(jm jd (jm (jc fun _=>jd) (jm (jc fun _=>jd) (jc fun _=>(jc fun _=>(jm (jc fun _=>jd) (jm (jc fun _=>(jc fun _=>jd)) (jm (jc fun _=>jd) jd))))))))))) (fun ρ x_ t k=>(ka (fun _=>(by kernel_rfl)) (fun _=>(by kernel_rfl)))) (fun x_=>by kernel_rfl))
theorem ji.p4:PcA ji.G Try.f9 4:=
 ju (s:=ji.c20r) (by kernel_rfl) (by kernel_rfl) (jt (sh:=ji.c20s) (fun ρ x_ k_=>(jm (jm jd (jc fun _=>jd)) (jc fun _=>jd))) (fun ρ x_ t k=>(by kernel_rfl)) (fun x_=>by kernel_rfl))
theorem ji.p5:PcA ji.G Try.f9 5:=
 ju (s:=ji.c29r) (by kernel_rfl) (by kernel_rfl) (jt (sh:=ji.c29s) (fun ρ x_ k_=>(jc fun _=>jd)) (fun ρ x_ t k=>(by kernel_rfl)) (fun x_=>by kernel_rfl))
theorem ji.p6:PcA ji.G Try.f9 6:=
 Jk (s:=ji.c100030r) (by kernel_rfl) (by kernel_rfl) (Jc (sh:=ji.c100030s) (I:=fun x_ s_=>(x_.1,x_.2.1,x_.2.2.1,x_.2.2.2.1,x_.2.2.2.2.1,x_.2.2.2.2.2.1,x_.2.2.2.2.2.2.1,x_.2.2.2.2.2.2.2.1,x_.2.2.2.2.2.2.2.2.1,x_.2.2.2.2.2.2.2.2.2.1,x_.2.2.2.2.2.2.2.2.2.2.1,x_.2.2.2.2.2.2.2.2.2.2.2.1,s_.1,x_.2.2.2.2.2.2.2.2.2.2.2.2.2.1,x_.2.2.2.2.2.2.2.2.2.2.2.2.2.2.1,x_.2.2.2.2.2.2.2.2.2.2.2.2.2.2.2.1,x_.2.2.2.2.2.2.2.2.2.2.2.2.2.2.2.2.1,x_.2.2.2.2.2.2.2.2.2.2.2.2.2.2.2.2.2.1,x_.2.2.2.2.2.2.2.2.2.2.2.2.2.2.2.2.2.2.1,x_.2.2.2.2.2.2.2.2.2.2.2.2.2.2.2.2.2.2.2.1,x_.2.2.2.2.2.2.2.2.2.2.2.2.2.2.2.2.2.2.2.2.1,x_.2.2.2.2.2.2.2.2.2.2.2.2.2.2.2.2.2.2.2.2.2.1,s_.2,x_.2.2.2.2.2.2.2.2.2.2.2.2.2.2.2.2.2.2.2.2.2.2.2)) (fun x_=>rfl) (fun ρ x_ s_ k_=>(jm (jc fun _=>(jc fun _=>jd)) jd)) (fun ρ x_ t k=>(by kernel_rfl)) (fun x_ s=>by kernel_rfl))
theorem ji.p7:PcA ji.G Try.f9 7:=
 ju (s:=ji.c32r) (by kernel_rfl) (by kernel_rfl) (jt (sh:=ji.c32s) (fun ρ x_ k_=>(jc fun _=>(jc fun _=>jd))) (fun ρ x_ t k=>(by kernel_rfl)) (fun x_=>by kernel_rfl))
theorem ji.ok:CalleeOk Try.prog 9 ji.ce:=fn_ok (G:=ji.G) Jj mixed Try.func9 ⟨(jx jL.ok (jx jU.ok (jx jI.ok (jx jg.ok (jx jr.ok (jx Jp.ok Ja)))))),(YT jw.ok (YT jp.ok (YT jb.ok jR))),jA⟩ (m:=8) (by kernel_rfl) ⟨⟨⟨⟨⟨⟨⟨⟨trivial,ji.p0⟩,ji.p1⟩,ji.p2⟩,ji.p3⟩,ji.p4⟩,ji.p5⟩,ji.p6⟩,ji.p7⟩ (by kernel_rfl) ji.eq
def jS.c6 {ρ:Type} (a:List (List UInt8)) (b:List (List UInt8)) (i:Int) (k_:Bool→Option ρ):Option ρ:=
 bnd (idx a i) fun y=>
 bnd (idx b i) fun y_1=>
 k_ (!y == y_1)
def jS.c6s:Shape:=⟨[(0,tb21),(1,tb21),(4,tb7),(5,tb5)],[]⟩
def jS.c6x0:Shape:=⟨[(0,tb21),(1,tb21),(4,tb7),(5,tb5),(25,tb7)],[]⟩
def jS.c6r:Ck:=Ck.of (T:=Bool) jS.c6s (fun ρ x_ k_=>jS.c6 x_.1 x_.2.1 x_.2.2.2.1 k_) (fun ρ x_ r_ k_=>k_ 0 (Shape.inj jS.c6x0 (x_.1,x_.2.1,x_.2.2.1,x_.2.2.2.1,r_,())))
def jS.c100004 {ρ:Type} (a:List (List UInt8)) (b:List (List UInt8)) (i:Int) (k_:Int⊕(Int⊕Int)→Option ρ):Option ρ:=
 br (decide (i < (↑(List.length a):Int)))
 (bnd (W.jS.c6 a b i some) fun y=>
 br y
 (k_ (.inr (.inl i)))
 (k_ (.inl (IntKind.i64.wrap (i+(1:Int))))))
 (k_ (.inr (.inr i)))
def jS.c100004s:Shape:=jS.c6s
def jS.c100004x0:Shape:=jS.c6s
def jS.c100004x1:Shape:=jS.c6s
def jS.c100004r:Ck:=Ck.ofLoop (S:=Int) (T:=Int⊕Int) jS.c100004s (fun x_=>x_.2.2.2.1) (fun ρ x_ s_ k_=>jS.c100004 x_.1 x_.2.1 s_ k_) (fun ρ x_ r_ k_=>sel r_ (fun r_=>k_ 1 (Shape.inj jS.c100004x0 (x_.1,x_.2.1,false,r_,()))) (fun r_=>k_ 2 (Shape.inj jS.c100004x1 (x_.1,x_.2.1,x_.2.2.1,r_,()))))
def jS (a:List (List UInt8)) (b:List (List UInt8)):Option Bool:=
 br ((↑(List.length a):Int) != (↑(List.length b):Int))
 (some false)
 (bnd (iter (fun s↦W.jS.c100004 a b s some) (0:Int)) fun y=>
 sel y
 (fun u=>some false)
 (fun v=>some true))
def jS.ce:Go.Ql.Callee:=⟨[(.sl .str),(.sl .str)],[.bool],fun x_=>jS x_.1 x_.2⟩
def jS.G:Env:=⟨26,tab,[],[0,1,4,5,10,14,25],[],[(6,[⟨[],[],[18,21,22,23,24],[]⟩,⟨[],[],[17,21,22,23,24],[]⟩,⟨[0,1],[],[21,22,23,24],[]⟩,⟨[2,0,1],[],[21,22,23,24],[]⟩,⟨[],[],[17,18,19,20,22],[]⟩,⟨[],[],[17,18,19,20,21],[]⟩,⟨[4,5],[],[17,18,19,20],[]⟩,⟨[6,4,5],[],[17,18,19,20],[]⟩,⟨[3,2,0,1,7,6,4,5],[],[],[]⟩])],[(100004,jS.c100004r),(6,jS.c6r)],[],jZ⟩
theorem jS.eq (x_:dens jS.ce.params):den jS.G Try.f16 jS.ce.params jS.ce.res x_=jS.ce.F x_:=by kernel_rfl
theorem jS.p0:PcA jS.G Try.f16 0:=
 Jk (s:=jS.c100004r) (by kernel_rfl) (by kernel_rfl) (Jc (sh:=jS.c100004s) (I:=fun x_ s_=>(x_.1,x_.2.1,x_.2.2.1,s_,())) (fun x_=>rfl) (fun ρ x_ s_ k_=>(jm (jc fun _=>(jm jd jd)) jd)) (fun ρ x_ t k=>(ka (fun _=>(by kernel_rfl)) (fun _=>(by kernel_rfl)))) (fun x_ s=>by kernel_rfl))
theorem jS.p1:PcA jS.G Try.f16 1:=
 ju (s:=jS.c6r) (by kernel_rfl) (by kernel_rfl) (jt (sh:=jS.c6s) (fun ρ x_ k_=>(jc fun _=>(jc fun _=>jd))) (fun ρ x_ t k=>(by kernel_rfl)) (fun x_=>by kernel_rfl))
theorem jS.ok:CalleeOk Try.prog 16 jS.ce:=fn_ok (G:=jS.G) Jj mixed Try.func16 ⟨Ja,jR,jA⟩ (m:=2) (by kernel_rfl) ⟨⟨trivial,jS.p0⟩,jS.p1⟩ (by kernel_rfl) jS.eq
def Jb.c2 {ρ:Type} (l:List (List UInt8)) (f0:Int) (k_:Bool→Option ρ):Option ρ:=
 br (f0 == (0:Int))
 (bnd (W.jS l [Array.toList (ByteArray.data (ByteArray.mk #[(43:UInt8),(88:UInt8),(88:UInt8)])),Array.toList (ByteArray.data (ByteArray.mk #[(45:UInt8),(90:UInt8),(90:UInt8)]))]) fun y=>
 k_ y)
 (k_ false)
def Jb.c2s:Shape:=⟨[(0,tb7),(1,tb21),(4,tb6)],[(4,tb19)]⟩
def Jb.c2x0:Shape:=Jb.c2s
def Jb.c2r:Ck:=Ck.of (T:=Bool) Jb.c2s (fun ρ x_ k_=>Jb.c2 x_.2.1 x_.2.2.1 k_) (fun ρ x_ r_ k_=>k_ 0 (Shape.inj Jb.c2x0 (r_,x_.2)))
def Jb :Option Bool:=
 bnd (W.ji ((2:Int),(0:Int),[((3:Int),(0:Int),[],(0:Int),(0:Int),[]),((2:Int),(0:Int),[(0:Int)],(1:Int),(0:Int),[])]) (2:Int) []) fun y=>
 bnd (W.Jb.c2 y.1 y.2.2.2.1 some) fun y_1=>
 some y_1
def Jb.ce:Go.Ql.Callee:=⟨[],[.bool],fun x_=>Jb⟩
def Jb.G:Env:=⟨24,tab,[(9,ji.ce),(16,jS.ce)],[0,1,4],[],[],[(2,Jb.c2r)],[],jZ⟩
theorem Jb.eq (x_:dens Jb.ce.params):den Jb.G Try.f10 Jb.ce.params Jb.ce.res x_=Jb.ce.F x_:=by kernel_rfl
theorem Jb.p0:PcA Jb.G Try.f10 0:=
 ju (s:=Jb.c2r) (by kernel_rfl) (by kernel_rfl) (jt (sh:=Jb.c2s) (fun ρ x_ k_=>(jm (jc fun _=>jd) jd)) (fun ρ x_ t k=>(by kernel_rfl)) (fun x_=>by kernel_rfl))
theorem Jb.ok:CalleeOk Try.prog 10 Jb.ce:=fn_ok (G:=Jb.G) Jj mixed Try.func10 ⟨(jx ji.ok (jx jS.ok Ja)),jR,jA⟩ (m:=1) (by kernel_rfl) ⟨trivial,Jb.p0⟩ (by kernel_rfl) Jb.eq
abbrev tb98:SO:=.box [.val .bool,.val (.sl (.int .i64))]
def Jq.c2 {ρ:Type} (d:List Int) (n:Int) (k_:Bool→Option ρ):Option ρ:=
 br (decide (n > (0:Int)))
 (bnd (idx d (IntKind.i64.wrap (n - (1:Int)))) fun y=>
 k_ (y == (0:Int)))
 (k_ false)
def Jq.c2s:Shape:=⟨[(0,tb7),(1,tb36),(4,tb6),(5,tb5)],[(4,tb98)]⟩
def Jq.c2x0:Shape:=⟨[(0,tb7),(1,tb36),(4,tb6),(5,tb5),(17,tb7)],[(4,tb98)]⟩
def Jq.c2r:Ck:=Ck.of (T:=Bool) Jq.c2s (fun ρ x_ k_=>Jq.c2 x_.2.1 x_.2.2.1 k_) (fun ρ x_ r_ k_=>k_ 0 (Shape.inj Jq.c2x0 (x_.1,x_.2.1,x_.2.2.1,r_,x_.2.2.2)))
def Jq.c100002 {ρ:Type} (d:List Int) (n:Int) (k_:Int⊕Int→Option ρ):Option ρ:=
 bnd (W.Jq.c2 d n some) fun y=>
 br y
 (k_ (.inl (IntKind.i64.wrap (n - (1:Int)))))
 (k_ (.inr n))
def Jq.c100002s:Shape:=Jq.c2s
def Jq.c100002x0:Shape:=Jq.c2s
def Jq.c100002r:Ck:=Ck.ofLoop (S:=Int) (T:=Int) Jq.c100002s (fun x_=>x_.2.2.1) (fun ρ x_ s_ k_=>Jq.c100002 x_.2.1 s_ k_) (fun ρ x_ r_ k_=>k_ 2 (Shape.inj Jq.c100002x0 (x_.1,x_.2.1,r_,x_.2.2.2)))
def Jq (neg:Bool) (d:List Int):Option YD:=
 bnd (iter (fun s↦W.Jq.c100002 d s some) ↑(List.length d)) fun y=>
 br (y == (0:Int))
 (some (false,[]))
 (bnd (okIf (decide ((0:Int)≤y) && decide (y≤(↑(List.length d):Int)))) fun y_1=>
 some (neg,List.take (Int.toNat y) d))
def Jq.ce:Go.Ql.Callee:=⟨[.bool,(.sl (.int .i64))],[(.st (.pair .bool (.sl (.int .i64))))],fun x_=>Jq x_.1 x_.2⟩
def Jq.G:Env:=⟨28,tab,[],[0,1,4,5,17,21],[],[],[(100002,Jq.c100002r),(2,Jq.c2r)],[],jZ⟩
theorem Jq.eq (x_:dens Jq.ce.params):den Jq.G Try.f95 Jq.ce.params Jq.ce.res x_=Jq.ce.F x_:=by kernel_rfl
theorem Jq.p0:PcA Jq.G Try.f95 0:=
 Jk (s:=Jq.c100002r) (by kernel_rfl) (by kernel_rfl) (Jc (sh:=Jq.c100002s) (I:=fun x_ s_=>(x_.1,x_.2.1,s_,x_.2.2.2)) (fun x_=>rfl) (fun ρ x_ s_ k_=>(jc fun _=>(jm jd jd))) (fun ρ x_ t k=>(by kernel_rfl)) (fun x_ s=>by kernel_rfl))
theorem Jq.p1:PcA Jq.G Try.f95 1:=
 ju (s:=Jq.c2r) (by kernel_rfl) (by kernel_rfl) (jt (sh:=Jq.c2s) (fun ρ x_ k_=>(jm (jc fun _=>jd) jd)) (fun ρ x_ t k=>(by kernel_rfl)) (fun x_=>by kernel_rfl))
theorem Jq.ok:CalleeOk Try.prog 95 Jq.ce:=fn_ok (G:=Jq.G) Jj mixed Try.func95 ⟨Ja,jR,jA⟩ (m:=2) (by kernel_rfl) ⟨⟨trivial,Jq.p0⟩,Jq.p1⟩ (by kernel_rfl) Jq.eq
abbrev tb99:SD:=.one (.own 4 0)
def JK.c208197 {ρ:Type} (n:Int) (u:Int) (k_:Int→Option ρ):Option ρ:=
 br (decide (n < (0:Int)))
 (k_ (IntKind.u64.wrap ((0:Int) - u)))
 (k_ u)
def JK.c208197s:Shape:=⟨[(0,tb5),(2,tb2),(3,tb13)],[(2,tb98)]⟩
def JK.c208197x0:Shape:=JK.c208197s
def JK.c208197r:Ck:=Ck.of (T:=Int) JK.c208197s (fun ρ x_ k_=>JK.c208197 x_.1 x_.2.1 k_) (fun ρ x_ r_ k_=>k_ 0 (Shape.inj JK.c208197x0 (x_.1,r_,x_.2.2)))
def JK.c100005 {ρ:Type} (u:Int) (d:List Int) (k_:(Int×(List Int))⊕(Int×(List Int))→Option ρ):Option ρ:=
 br (decide (u > (0:Int)))
 (bnd (okIf (decide ((List.length d+(1:Nat))*(8:Nat)≤(140737488355328:Nat)) && decide (List.length d+(1:Nat)≤(140737488355328:Nat)))) fun y=>
 k_ (.inl ((IntKind.u64.wrap (Int.tdiv u (10000:Int))),(d++[IntKind.i64.wrap (Int.tmod u (10000:Int))]))))
 (k_ (.inr (u,d)))
def JK.c100005s:Shape:=⟨[(0,tb5),(2,tb2),(3,tb13),(4,tb99)],[(2,tb98),(4,tb50)]⟩
def JK.c100005x0:Shape:=JK.c100005s
def JK.c100005r:Ck:=Ck.ofLoop (S:=Int×(List Int)) (T:=Int×(List Int)) JK.c100005s (fun x_=>(x_.2.1,x_.2.2.2.2.1)) (fun ρ x_ s_ k_=>JK.c100005 s_.1 s_.2 k_) (fun ρ x_ r_ k_=>k_ 2 (Shape.inj JK.c100005x0 (x_.1,r_.1,x_.2.2.1,x_.2.2.2.1,r_.2,())))
def JK (n:Int):Option YD:=
 bnd (W.JK.c208197 n (IntKind.wrap IntKind.u64 n) some) fun y=>
 bnd (iter (fun s↦W.JK.c100005 s.1 s.2 some) (y,[])) fun y_1=>
 bnd (W.Jq (decide (n < (0:Int))) y_1.2) fun y_2=>
 some (y_2.1,y_2.2)
def JK.ce:Go.Ql.Callee:=⟨[(.int .i64)],[(.st (.pair .bool (.sl (.int .i64))))],fun x_=>JK x_⟩
def JK.G:Env:=⟨25,tab,[(95,Jq.ce)],[0,2,3,4,8,12],[4],[],[(100005,JK.c100005r),(208197,JK.c208197r)],[],jZ⟩
theorem JK.eq (x_:dens JK.ce.params):den JK.G Try.f60 JK.ce.params JK.ce.res x_=JK.ce.F x_:=by kernel_rfl
theorem JK.p0:PcA JK.G Try.f60 0:=
 JV (s:=JK.c208197r) (by kernel_rfl) (by kernel_rfl) (jt (sh:=JK.c208197s) (fun ρ x_ k_=>(jm jd jd)) (fun ρ x_ t k=>(by kernel_rfl)) (fun x_=>by kernel_rfl))
theorem JK.p1:PcA JK.G Try.f60 1:=
 Jk (s:=JK.c100005r) (by kernel_rfl) (by kernel_rfl) (Jc (sh:=JK.c100005s) (I:=fun x_ s_=>(x_.1,s_.1,x_.2.2.1,x_.2.2.2.1,s_.2,())) (fun x_=>rfl) (fun ρ x_ s_ k_=>(jm (jc fun _=>jd) jd)) (fun ρ x_ t k=>(by kernel_rfl)) (fun x_ s=>by kernel_rfl))
theorem JK.ok:CalleeOk Try.prog 60 JK.ce:=fn_ok (G:=JK.G) Jj mixed Try.func60 ⟨(jx Jq.ok Ja),jR,jA⟩ (m:=2) (by kernel_rfl) ⟨⟨trivial,JK.p0⟩,JK.p1⟩ (by kernel_rfl) JK.eq
def Yn (n:YD):Option YN:=
 bnd (idx (List.replicate (8:Nat) (false,([]:List (Ty.den (Ty.int IntKind.i64))))) (0:Int)) fun y=>
 some (List.set (List.replicate (8:Nat) (false,([]:List (Ty.den (Ty.int IntKind.i64))))) (0:Nat) (n.1,n.2),(0:Int))
def Yn.ce:Go.Ql.Callee:=⟨[(.st (.pair .bool (.sl (.int .i64))))],[(.st (.pair (.ar 8 (.st (.pair .bool (.sl (.int .i64))))) (.int .i64)))],fun x_=>Yn x_⟩
def Yn.G:Env:=⟨9,tab,[],[0,1,2,3],[2,3,4],[],[],[],jZ⟩
theorem Yn.eq (x_:dens Yn.ce.params):den Yn.G Try.f59 Yn.ce.params Yn.ce.res x_=Yn.ce.F x_:=by kernel_rfl
theorem Yn.ok:CalleeOk Try.prog 59 Yn.ce:=fn_ok (G:=Yn.G) Jj mixed Try.func59 ⟨Ja,jR,jA⟩ (m:=0) (by kernel_rfl) trivial (by kernel_rfl) Yn.eq
def kO (qubits:Int) (t1:Int):Option (List YN):=
 bnd (okIf (decide ((0:Int)≤qubits))) fun y=>
 bnd (okIf (decide ((0:Int)≤IntKind.i64.wrap ((1:Int)*(2:Int) ^ Min.min (Int.toNat qubits) (64:Nat))) && decide (IntKind.i64.wrap ((1:Int)*(2:Int) ^ Min.min (Int.toNat qubits) (64:Nat))≤IntKind.i64.wrap ((1:Int)*(2:Int) ^ Min.min (Int.toNat qubits) (64:Nat))) && decide (IntKind.i64.wrap ((1:Int)*(2:Int) ^ Min.min (Int.toNat qubits) (64:Nat))*(↑(264:Nat):Int)≤(140737488355328:Int)) && decide (IntKind.i64.wrap ((1:Int)*(2:Int) ^ Min.min (Int.toNat qubits) (64:Nat))≤(140737488355328:Int)))) fun y_1=>
 bnd (W.JK (1:Int)) fun y_2=>
 bnd (W.Yn y_2) fun y_3=>
 bnd (inR (List.length (List.replicate (Int.toNat (IntKind.i64.wrap ((1:Int)*(2:Int) ^ Min.min (Int.toNat qubits) (64:Nat)))) (List.replicate (8:Nat) (false,([]:List (Ty.den (Ty.int IntKind.i64)))),(0:Int)))) t1) fun y_4=>
 bnd (idx (List.replicate (Int.toNat (IntKind.i64.wrap ((1:Int)*(2:Int) ^ Min.min (Int.toNat qubits) (64:Nat)))) (List.replicate (8:Nat) (false,([]:List (Ty.den (Ty.int IntKind.i64)))),(0:Int))) t1) fun y_5=>
 some (List.set (List.replicate (Int.toNat (IntKind.i64.wrap ((1:Int)*(2:Int) ^ Min.min (Int.toNat qubits) (64:Nat)))) (List.replicate (8:Nat) (false,([]:List (Ty.den (Ty.int IntKind.i64)))),(0:Int))) (Int.toNat t1) y_3)
def kO.ce:Go.Ql.Callee:=⟨[(.int .i64),(.int .i64)],[(.sl (.st (.pair (.ar 8 (.st (.pair .bool (.sl (.int .i64))))) (.int .i64))))],fun x_=>kO x_.1 x_.2⟩
def kO.G:Env:=⟨15,tab,[(60,JK.ce),(59,Yn.ce)],[0,1,4,5],[8],[],[],[],jZ⟩
theorem kO.eq (x_:dens kO.ce.params):den kO.G Try.f23 kO.ce.params kO.ce.res x_=kO.ce.F x_:=by kernel_rfl
theorem kO.ok:CalleeOk Try.prog 23 kO.ce:=fn_ok (G:=kO.G) Jj mixed Try.func23 ⟨(jx JK.ok (jx Yn.ok Ja)),jR,jA⟩ (m:=0) (by kernel_rfl) trivial (by kernel_rfl) kO.eq
abbrev tb100:SD:=.one (.val (.st (.pair (.ar 8 (.st (.pair .bool (.sl (.int .i64))))) (.int .i64))))
abbrev tb101:SD:=.one (.fptr (.st (.pair (.ar 8 (.st (.pair .bool (.sl (.int .i64))))) (.int .i64))))
def Jn.c100002 {ρ:Type} (a_1:YN) (i:Int) (k_:Int⊕(Int⊕Int)→Option ρ):Option ρ:=
 br (decide (i < (8:Int)))
 (bnd (idx a_1.1 i) fun y=>
 br (decide ((↑(List.length y.2):Int) > (0:Int)))
 (k_ (.inr (.inl i)))
 (k_ (.inl (IntKind.i64.wrap (i+(1:Int))))))
 (k_ (.inr (.inr i)))
def Jn.c100002s:Shape:=⟨[(0,tb100),(1,tb101),(2,tb7),(3,tb5)],[]⟩
def Jn.c100002x0:Shape:=Jn.c100002s
def Jn.c100002x1:Shape:=Jn.c100002s
def Jn.c100002r:Ck:=Ck.ofLoop (S:=Int) (T:=Int⊕Int) Jn.c100002s (fun x_=>x_.2.2.2.1) (fun ρ x_ s_ k_=>Jn.c100002 x_.2.1 s_ k_) (fun ρ x_ r_ k_=>sel r_ (fun r_=>k_ 1 (Shape.inj Jn.c100002x0 (x_.1,x_.2.1,false,r_,()))) (fun r_=>k_ 2 (Shape.inj Jn.c100002x1 (x_.1,x_.2.1,x_.2.2.1,r_,()))))
def Jn (a:YN):Option Bool:=
 bnd (iter (fun s↦W.Jn.c100002 a s some) (0:Int)) fun y=>
 sel y
 (fun u=>some false)
 (fun v=>some true)
def Jn.ce:Go.Ql.Callee:=⟨[(.st (.pair (.ar 8 (.st (.pair .bool (.sl (.int .i64))))) (.int .i64)))],[.bool],fun x_=>Jn x_⟩
def Jn.G:Env:=⟨15,tab,[],[0,1,2,3,5,14],[8000001],[],[(100002,Jn.c100002r)],[],jZ⟩
theorem Jn.eq (x_:dens Jn.ce.params):den Jn.G Try.f48 Jn.ce.params Jn.ce.res x_=Jn.ce.F x_:=by kernel_rfl
theorem Jn.p0:PcA Jn.G Try.f48 0:=
 Jk (s:=Jn.c100002r) (by kernel_rfl) (by kernel_rfl) (Jc (sh:=Jn.c100002s) (I:=fun x_ s_=>(x_.1,x_.2.1,x_.2.2.1,s_,())) (fun x_=>rfl) (fun ρ x_ s_ k_=>(jm (jc fun _=>(jm jd jd)) jd)) (fun ρ x_ t k=>(ka (fun _=>(by kernel_rfl)) (fun _=>(by kernel_rfl)))) (fun x_ s=>by kernel_rfl))
theorem Jn.ok:CalleeOk Try.prog 48 Jn.ce:=fn_ok (G:=Jn.G) Jj mixed Try.func48 ⟨Ja,jR,jA⟩ (m:=1) (by kernel_rfl) ⟨trivial,Jn.p0⟩ (by kernel_rfl) Jn.eq
def kp (x:Int) (q:Int):Option Int:=
 bnd (okIf (decide ((0:Int)≤q))) fun y=>
 some (ibits BinOp.and IntKind.i64 (Int.fdiv x ((2:Int) ^ Min.min (Int.toNat q) (64:Nat))) (1:Int))
def kp.ce:Go.Ql.Callee:=⟨[(.int .i64),(.int .i64)],[(.int .i64)],fun x_=>kp x_.1 x_.2⟩
def kp.G:Env:=⟨9,tab,[],[0,1,4],[],[],[],[],jZ⟩
theorem kp.eq (x_:dens kp.ce.params):den kp.G Try.f63 kp.ce.params kp.ce.res x_=kp.ce.F x_:=by kernel_rfl
theorem kp.ok:CalleeOk Try.prog 63 kp.ce:=fn_ok (G:=kp.G) Jj mixed Try.func63 ⟨Ja,jR,jA⟩ (m:=0) (by kernel_rfl) trivial (by kernel_rfl) kp.eq
def JG.c100002 {ρ:Type} (x:Int) (qs:List Int) (i:Int) (k_:Int⊕(Int⊕Int)→Option ρ):Option ρ:=
 br (decide (i < (↑(List.length qs):Int)))
 (bnd (idx qs i) fun y=>
 bnd (W.kp x y) fun y_1=>
 br (y_1 == (0:Int))
 (k_ (.inr (.inl i)))
 (k_ (.inl (IntKind.i64.wrap (i+(1:Int))))))
 (k_ (.inr (.inr i)))
def JG.c100002s:Shape:=⟨[(0,tb5),(1,tb36),(4,tb7),(5,tb5)],[]⟩
def JG.c100002x0:Shape:=JG.c100002s
def JG.c100002x1:Shape:=JG.c100002s
def JG.c100002r:Ck:=Ck.ofLoop (S:=Int) (T:=Int⊕Int) JG.c100002s (fun x_=>x_.2.2.2.1) (fun ρ x_ s_ k_=>JG.c100002 x_.1 x_.2.1 s_ k_) (fun ρ x_ r_ k_=>sel r_ (fun r_=>k_ 1 (Shape.inj JG.c100002x0 (x_.1,x_.2.1,false,r_,()))) (fun r_=>k_ 2 (Shape.inj JG.c100002x1 (x_.1,x_.2.1,x_.2.2.1,r_,()))))
def JG (x:Int) (qs:List Int):Option Bool:=
 bnd (iter (fun s↦W.JG.c100002 x qs s some) (0:Int)) fun y=>
 sel y
 (fun u=>some false)
 (fun v=>some true)
def JG.ce:Go.Ql.Callee:=⟨[(.int .i64),(.sl (.int .i64))],[.bool],fun x_=>JG x_.1 x_.2⟩
def JG.G:Env:=⟨19,tab,[(63,kp.ce)],[0,1,4,5,9,18],[],[],[(100002,JG.c100002r)],[],jZ⟩
theorem JG.eq (x_:dens JG.ce.params):den JG.G Try.f61 JG.ce.params JG.ce.res x_=JG.ce.F x_:=by kernel_rfl
theorem JG.p0:PcA JG.G Try.f61 0:=
 Jk (s:=JG.c100002r) (by kernel_rfl) (by kernel_rfl) (Jc (sh:=JG.c100002s) (I:=fun x_ s_=>(x_.1,x_.2.1,x_.2.2.1,s_,())) (fun x_=>rfl) (fun ρ x_ s_ k_=>(jm (jc fun _=>(jc fun _=>(jm jd jd))) jd)) (fun ρ x_ t k=>(ka (fun _=>(by kernel_rfl)) (fun _=>(by kernel_rfl)))) (fun x_ s=>by kernel_rfl))
theorem JG.ok:CalleeOk Try.prog 61 JG.ce:=fn_ok (G:=JG.G) Jj mixed Try.func61 ⟨(jx kp.ok Ja),jR,jA⟩ (m:=1) (by kernel_rfl) ⟨trivial,JG.p0⟩ (by kernel_rfl) JG.eq
abbrev tb102:SD:=.one (.val (.st (.pair .bool (.sl (.int .i64)))))
abbrev tb103:SD:=.one (.own 17 0)
def jQ.c7 {ρ:Type} (c:Int) (j:Int) (b1:List Int) (k_:Bool→Option ρ):Option ρ:=
 br (decide (j < (↑(List.length b1):Int)))
 (k_ true)
 (k_ (decide (c > (0:Int))))
def jQ.c7s:Shape:=⟨[(0,tb102),(1,tb102),(2,tb2),(3,tb12),(4,tb6),(5,tb103),(6,tb5),(7,tb5),(8,tb5)],[(2,tb98),(3,tb98),(4,tb98),(17,tb50)]⟩
def jQ.c7x0:Shape:=⟨[(0,tb102),(1,tb102),(2,tb2),(3,tb12),(4,tb6),(5,tb103),(6,tb5),(7,tb5),(8,tb5),(33,tb7)],[(2,tb98),(3,tb98),(4,tb98),(17,tb50)]⟩
def jQ.c7r:Ck:=Ck.of (T:=Bool) jQ.c7s (fun ρ x_ k_=>jQ.c7 x_.2.2.2.1 x_.2.2.2.2.1 x_.2.2.2.2.2.2.2.2.1 k_) (fun ρ x_ r_ k_=>k_ 0 (Shape.inj jQ.c7x0 (x_.1,x_.2.1,x_.2.2.1,x_.2.2.2.1,x_.2.2.2.2.1,r_,x_.2.2.2.2.2)))
def jQ.c11 {ρ:Type} (i:Int) (c:Int) (j:Int) (a1:List Int) (b1:List Int) (k_:Int→Option ρ):Option ρ:=
 bnd (idx a1 i) fun y=>
 bnd (idx b1 j) fun y_1=>
 k_ (IntKind.i64.wrap (c+IntKind.i64.wrap (y*y_1)))
def jQ.c11s:Shape:=jQ.c7s
def jQ.c11x0:Shape:=jQ.c7s
def jQ.c11r:Ck:=Ck.of (T:=Int) jQ.c11s (fun ρ x_ k_=>jQ.c11 x_.2.2.1 x_.2.2.2.1 x_.2.2.2.2.1 x_.2.2.2.2.2.2.1 x_.2.2.2.2.2.2.2.2.1 k_) (fun ρ x_ r_ k_=>k_ 0 (Shape.inj jQ.c11x0 (x_.1,x_.2.1,x_.2.2.1,r_,x_.2.2.2.2)))
def jQ.c240965 {ρ:Type} (i:Int) (c:Int) (j:Int) (a1:List Int) (b1:List Int) (k_:Int→Option ρ):Option ρ:=
 br (decide (j < (↑(List.length b1):Int)))
 (bnd (W.jQ.c11 i c j a1 b1 some) fun y=>
 k_ y)
 (k_ c)
def jQ.c240965s:Shape:=jQ.c7s
def jQ.c240965x0:Shape:=jQ.c7s
def jQ.c240965r:Ck:=Ck.of (T:=Int) jQ.c240965s (fun ρ x_ k_=>jQ.c240965 x_.2.2.1 x_.2.2.2.1 x_.2.2.2.2.1 x_.2.2.2.2.2.2.1 x_.2.2.2.2.2.2.2.2.1 k_) (fun ρ x_ r_ k_=>k_ 0 (Shape.inj jQ.c240965x0 (x_.1,x_.2.1,x_.2.2.1,r_,x_.2.2.2.2)))
def jQ.c100007 {ρ:Type} (i:Int) (c:Int) (j:Int) (a1:List Int) (b1:List Int) (t17:List Int) (k_:(Int×Int×(List Int))⊕(Int×Int×(List Int))→Option ρ):Option ρ:=
 bnd (W.jQ.c7 c j b1 some) fun y=>
 br y
 (bnd (inR (List.length t17) (IntKind.i64.wrap (i+j))) fun y_1=>
 bnd (idx t17 (IntKind.i64.wrap (i+j))) fun y_2=>
 bnd (W.jQ.c240965 i (IntKind.i64.wrap (c+y_2)) j a1 b1 some) fun y_3=>
 bnd (inR (List.length t17) (IntKind.i64.wrap (i+j))) fun y_4=>
 bnd (idx t17 (IntKind.i64.wrap (i+j))) fun y_5=>
 k_ (.inl ((IntKind.i64.wrap (Int.tdiv y_3 (10000:Int))),(IntKind.i64.wrap (j+(1:Int))),(List.set t17 (Int.toNat (IntKind.i64.wrap (i+j))) (Int.tmod y_3 (10000:Int))))))
 (k_ (.inr (c,j,t17)))
def jQ.c100007s:Shape:=jQ.c7s
def jQ.c100007x0:Shape:=jQ.c7s
def jQ.c100007r:Ck:=Ck.ofLoop (S:=Int×Int×(List Int)) (T:=Int×Int×(List Int)) jQ.c100007s (fun x_=>(x_.2.2.2.1,x_.2.2.2.2.1,x_.2.2.2.2.2.2.2.2.2.2.2.1)) (fun ρ x_ s_ k_=>jQ.c100007 x_.2.2.1 s_.1 s_.2.1 x_.2.2.2.2.2.2.1 x_.2.2.2.2.2.2.2.2.1 s_.2.2 k_) (fun ρ x_ r_ k_=>k_ 4 (Shape.inj jQ.c100007x0 (x_.1,x_.2.1,x_.2.2.1,r_.1,r_.2.1,x_.2.2.2.2.2.1,x_.2.2.2.2.2.2.1,x_.2.2.2.2.2.2.2.1,x_.2.2.2.2.2.2.2.2.1,x_.2.2.2.2.2.2.2.2.2.1,x_.2.2.2.2.2.2.2.2.2.2.1,r_.2.2,())))
def jQ.c100003 {ρ:Type} (i:Int) (a1:List Int) (b1:List Int) (t17:List Int) (k_:(Int×(List Int))⊕(Int×(List Int))→Option ρ):Option ρ:=
 br (decide (i < (↑(List.length a1):Int)))
 (bnd (iter (fun s↦W.jQ.c100007 i s.1 s.2.1 a1 b1 s.2.2 some) ((0:Int),(0:Int),t17)) fun y=>
 k_ (.inl ((IntKind.i64.wrap (i+(1:Int))),y.2.2)))
 (k_ (.inr (i,t17)))
def jQ.c100003s:Shape:=⟨[(0,tb102),(1,tb102),(2,tb2),(3,tb12),(4,tb6),(5,tb103),(6,tb5)],[(2,tb98),(3,tb98),(4,tb98),(17,tb50)]⟩
def jQ.c100003x0:Shape:=jQ.c100003s
def jQ.c100003r:Ck:=Ck.ofLoop (S:=Int×(List Int)) (T:=Int×(List Int)) jQ.c100003s (fun x_=>(x_.2.2.1,x_.2.2.2.2.2.2.2.2.2.1)) (fun ρ x_ s_ k_=>jQ.c100003 s_.1 x_.2.2.2.2.1 x_.2.2.2.2.2.2.1 s_.2 k_) (fun ρ x_ r_ k_=>k_ 2 (Shape.inj jQ.c100003x0 (x_.1,x_.2.1,r_.1,x_.2.2.2.1,x_.2.2.2.2.1,x_.2.2.2.2.2.1,x_.2.2.2.2.2.2.1,x_.2.2.2.2.2.2.2.1,x_.2.2.2.2.2.2.2.2.1,r_.2,())))
def jQ (a:YD) (b:YD):Option YD:=
 bnd (okIf (decide ((0:Int)≤IntKind.i64.wrap (IntKind.i64.wrap ((↑(List.length a.2):Int)+(↑(List.length b.2):Int))+(1:Int))) && decide (IntKind.i64.wrap (IntKind.i64.wrap ((↑(List.length a.2):Int)+(↑(List.length b.2):Int))+(1:Int))≤IntKind.i64.wrap (IntKind.i64.wrap ((↑(List.length a.2):Int)+(↑(List.length b.2):Int))+(1:Int))) && decide (IntKind.i64.wrap (IntKind.i64.wrap ((↑(List.length a.2):Int)+(↑(List.length b.2):Int))+(1:Int))*(↑(8:Nat):Int)≤(140737488355328:Int)) && decide (IntKind.i64.wrap (IntKind.i64.wrap ((↑(List.length a.2):Int)+(↑(List.length b.2):Int))+(1:Int))≤(140737488355328:Int)))) fun y=>
 bnd (iter (fun s↦W.jQ.c100003 s.1 a.2 b.2 s.2 some) ((0:Int),List.replicate (Int.toNat (IntKind.i64.wrap (IntKind.i64.wrap ((↑(List.length a.2):Int)+(↑(List.length b.2):Int))+(1:Int)))) (0:Int))) fun y_1=>
 bnd (W.Jq (!a.1 == b.1) y_1.2) fun y_2=>
 some (y_2.1,y_2.2)
def jQ.ce:Go.Ql.Callee:=⟨[(.st (.pair .bool (.sl (.int .i64)))),(.st (.pair .bool (.sl (.int .i64))))],[(.st (.pair .bool (.sl (.int .i64))))],fun x_=>jQ x_.1 x_.2⟩
def jQ.G:Env:=⟨78,tab,[(95,Jq.ce)],[0,1,2,3,4,5,6,7,8,22,33,48],[17],[(11,[⟨[],[],[50,51,52,53,54,55,56,57,58,59,60],[]⟩,⟨[],[],[49,52,55,56,57,58,59],[]⟩,⟨[1],[],[49,52,55,56,57,58,59],[]⟩,⟨[],[],[49,50,51,55,56,57,58,59],[]⟩,⟨[2,1,3],[],[49,55,56,57,58,59],[]⟩,⟨[4,2,1,3],[],[49,55,56,57,58,59],[]⟩,⟨[],[],[49,50,51,52,53,54,57],[]⟩,⟨[6],[],[49,50,51,52,53,54,57],[]⟩,⟨[],[],[49,50,51,52,53,54,55,56],[]⟩,⟨[7,6,8],[],[49,50,51,52,53,54],[]⟩,⟨[9,7,6,8],[],[49,50,51,52,53,54],[]⟩,⟨[5,4,2,1,3,10,9,7,6,8],[],[49],[]⟩,⟨[0,11,5,4,2,1,3,10,9,7,6,8],[],[],[]⟩,⟨[12,0,11,5,4,2,1,3,10,9,7,6,8],[],[],[]⟩])],[(100003,jQ.c100003r),(100007,jQ.c100007r),(240965,jQ.c240965r),(11,jQ.c11r),(7,jQ.c7r)],[],jZ⟩
theorem jQ.eq (x_:dens jQ.ce.params):den jQ.G Try.f123 jQ.ce.params jQ.ce.res x_=jQ.ce.F x_:=by kernel_rfl
theorem jQ.p0:PcA jQ.G Try.f123 0:=
 Jk (s:=jQ.c100003r) (by kernel_rfl) (by kernel_rfl) (Jc (sh:=jQ.c100003s) (I:=fun x_ s_=>(x_.1,x_.2.1,s_.1,x_.2.2.2.1,x_.2.2.2.2.1,x_.2.2.2.2.2.1,x_.2.2.2.2.2.2.1,x_.2.2.2.2.2.2.2.1,x_.2.2.2.2.2.2.2.2.1,s_.2,())) (fun x_=>rfl) (fun ρ x_ s_ k_=>(jm (jc fun _=>jd) jd)) (fun ρ x_ t k=>(by kernel_rfl)) (fun x_ s=>by kernel_rfl))
theorem jQ.p1:PcA jQ.G Try.f123 1:=
 Jk (s:=jQ.c100007r) (by kernel_rfl) (by kernel_rfl) (Jc (sh:=jQ.c100007s) (I:=fun x_ s_=>(x_.1,x_.2.1,x_.2.2.1,s_.1,s_.2.1,x_.2.2.2.2.2.1,x_.2.2.2.2.2.2.1,x_.2.2.2.2.2.2.2.1,x_.2.2.2.2.2.2.2.2.1,x_.2.2.2.2.2.2.2.2.2.1,x_.2.2.2.2.2.2.2.2.2.2.1,s_.2.2,())) (fun x_=>rfl) (fun ρ x_ s_ k_=>(jc fun _=>(jm (jc fun _=>(jc fun _=>(jc fun _=>(jc fun _=>(jc fun _=>jd))))) jd))) (fun ρ x_ t k=>(by kernel_rfl)) (fun x_ s=>by kernel_rfl))
theorem jQ.p2:PcA jQ.G Try.f123 2:=
 ju (s:=jQ.c7r) (by kernel_rfl) (by kernel_rfl) (jt (sh:=jQ.c7s) (fun ρ x_ k_=>(jm jd jd)) (fun ρ x_ t k=>(by kernel_rfl)) (fun x_=>by kernel_rfl))
theorem jQ.p3:PcA jQ.G Try.f123 3:=
 JV (s:=jQ.c240965r) (by kernel_rfl) (by kernel_rfl) (jt (sh:=jQ.c240965s) (fun ρ x_ k_=>(jm (jc fun _=>jd) jd)) (fun ρ x_ t k=>(by kernel_rfl)) (fun x_=>by kernel_rfl))
theorem jQ.p4:PcA jQ.G Try.f123 4:=
 ju (s:=jQ.c11r) (by kernel_rfl) (by kernel_rfl) (jt (sh:=jQ.c11s) (fun ρ x_ k_=>(jc fun _=>(jc fun _=>jd))) (fun ρ x_ t k=>(by kernel_rfl)) (fun x_=>by kernel_rfl))
theorem jQ.ok:CalleeOk Try.prog 123 jQ.ce:=fn_ok (G:=jQ.G) Jj mixed Try.func123 ⟨(jx Jq.ok Ja),jR,jA⟩ (m:=5) (by kernel_rfl) ⟨⟨⟨⟨⟨trivial,jQ.p0⟩,jQ.p1⟩,jQ.p2⟩,jQ.p3⟩,jQ.p4⟩ (by kernel_rfl) jQ.eq
def Jz.c216389 {ρ:Type} (n:Int) (out0:Bool) (out1:List Int) (t40:Bool) (t41:List Int) (k_:YD→Option ρ):Option ρ:=
 br (Int.tmod n (2:Int) == (1:Int))
 (bnd (W.jQ (out0,out1) (t40,t41)) fun y=>
 k_ (y.1,y.2))
 (k_ (out0,out1))
def Jz.c216389s:Shape:=⟨[(0,tb5),(2,tb2),(3,tb12),(4,tb6)],[(2,tb98),(3,tb98),(4,tb98)]⟩
def Jz.c216389x0:Shape:=Jz.c216389s
def Jz.c216389r:Ck:=Ck.of (T:=YD) Jz.c216389s (fun ρ x_ k_=>Jz.c216389 x_.1 x_.2.2.2.1 x_.2.2.2.2.1 x_.2.2.2.2.2.1 x_.2.2.2.2.2.2.1 k_) (fun ρ x_ r_ k_=>k_ 0 (Shape.inj Jz.c216389x0 (x_.1,x_.2.1,x_.2.2.1,r_.1,r_.2,x_.2.2.2.2.2)))
def Jz.c100003 {ρ:Type} (n:Int) (out0:Bool) (out1:List Int) (t40:Bool) (t41:List Int) (k_:(Int×Bool×(List Int)×YD)⊕(Int×Bool×(List Int)×YD)→Option ρ):Option ρ:=
 br (decide (n > (0:Int)))
 (bnd (W.Jz.c216389 n out0 out1 t40 t41 some) fun y=>
 bnd (W.jQ (t40,t41) (t40,t41)) fun y_1=>
 k_ (.inl ((IntKind.i64.wrap (Int.tdiv n (2:Int))),y.1,y.2,y_1.1,y_1.2)))
 (k_ (.inr (n,out0,out1,t40,t41)))
def Jz.c100003s:Shape:=Jz.c216389s
def Jz.c100003x0:Shape:=Jz.c216389s
def Jz.c100003r:Ck:=Ck.ofLoop (S:=Int×Bool×(List Int)×YD) (T:=Int×Bool×(List Int)×YD) Jz.c100003s (fun x_=>(x_.1,x_.2.2.2.1,x_.2.2.2.2.1,x_.2.2.2.2.2.1,x_.2.2.2.2.2.2.1)) (fun ρ x_ s_ k_=>Jz.c100003 s_.1 s_.2.1 s_.2.2.1 s_.2.2.2.1 s_.2.2.2.2 k_) (fun ρ x_ r_ k_=>k_ 2 (Shape.inj Jz.c100003x0 (r_.1,x_.2.1,x_.2.2.1,r_.2.1,r_.2.2.1,r_.2.2.2.1,r_.2.2.2.2,())))
def Jz (n:Int):Option YD:=
 bnd (W.JK (1:Int)) fun y=>
 bnd (W.JK (2:Int)) fun y_1=>
 bnd (iter (fun s↦W.Jz.c100003 s.1 s.2.1 s.2.2.1 s.2.2.2.1 s.2.2.2.2 some) (n,y.1,y.2,y_1.1,y_1.2)) fun y_2=>
 some (y_2.2.1,y_2.2.2.1)
def Jz.ce:Go.Ql.Callee:=⟨[(.int .i64)],[(.st (.pair .bool (.sl (.int .i64))))],fun x_=>Jz x_⟩
def Jz.G:Env:=⟨21,tab,[(60,JK.ce),(123,jQ.ce)],[0,2,3,4,8,11],[],[],[(100003,Jz.c100003r),(216389,Jz.c216389r)],[],jZ⟩
theorem Jz.eq (x_:dens Jz.ce.params):den Jz.G Try.f122 Jz.ce.params Jz.ce.res x_=Jz.ce.F x_:=by kernel_rfl
theorem Jz.p0:PcA Jz.G Try.f122 0:=
 Jk (s:=Jz.c100003r) (by kernel_rfl) (by kernel_rfl) (Jc (sh:=Jz.c100003s) (I:=fun x_ s_=>(s_.1,x_.2.1,x_.2.2.1,s_.2.1,s_.2.2.1,s_.2.2.2.1,s_.2.2.2.2,())) (fun x_=>rfl) (fun ρ x_ s_ k_=>(jm (jc fun _=>(jc fun _=>jd)) jd)) (fun ρ x_ t k=>(by kernel_rfl)) (fun x_ s=>by kernel_rfl))
theorem Jz.p1:PcA Jz.G Try.f122 1:=
 JV (s:=Jz.c216389r) (by kernel_rfl) (by kernel_rfl) (jt (sh:=Jz.c216389s) (fun ρ x_ k_=>(jm (jc fun _=>jd) jd)) (fun ρ x_ t k=>(by kernel_rfl)) (fun x_=>by kernel_rfl))
theorem Jz.ok:CalleeOk Try.prog 122 Jz.ce:=fn_ok (G:=Jz.G) Jj mixed Try.func122 ⟨(jx JK.ok (jx jQ.ok Ja)),jR,jA⟩ (m:=2) (by kernel_rfl) ⟨⟨trivial,Jz.p0⟩,Jz.p1⟩ (by kernel_rfl) Jz.eq
abbrev tb104:SD:=.one (.aptr 2 0)
abbrev tb105:SD:=.one (.aptr 4 0)
abbrev tb106:SO:=.arr 0 false 90 (.st (.pair (.ar 8 (.st (.pair .bool (.sl (.int .i64))))) (.int .i64)))
def JB.c6 {ρ:Type} (i:Int) (a_1:List YN) (t50:Bool) (t51:List Int) (k_:List YN→Option ρ):Option ρ:=
 bnd (inR (List.length a_1) (0:Int)) fun y=>
 bnd (okIf (decide ((0:Ty.den (Ty.int IntKind.i64))≤i) && decide (i < (↑(8:Nat):Int)))) fun y_1=>
 bnd (idx a_1 (0:Int)) fun y_2=>
 bnd (idx y_2.1 i) fun y_3=>
 bnd (W.jQ y_3 (t50,t51)) fun y_4=>
 bnd (inR (List.length a_1) (0:Int)) fun y_5=>
 bnd (okIf (decide ((0:Ty.den (Ty.int IntKind.i64))≤i) && decide (i < (↑(8:Nat):Int)))) fun y_6=>
 bnd (idx a_1 (0:Int)) fun y_7=>
 bnd (idx y_7.1 i) fun y_8=>
 k_ (List.set a_1 (0:Nat) (List.set y_7.1 (Int.toNat i) y_4,y_7.2))
def JB.c6s:Shape:=⟨[(0,tb100),(1,tb5),(2,tb104),(4,tb105),(5,tb39),(6,tb5)],[(2,tb106),(4,tb106),(5,tb98)]⟩
def JB.c6x0:Shape:=JB.c6s
def JB.c6r:Ck:=Ck.of (T:=List YN) JB.c6s (fun ρ x_ k_=>JB.c6 x_.2.2.1 x_.2.2.2.1 x_.2.2.2.2.2.1 x_.2.2.2.2.2.2.1 k_) (fun ρ x_ r_ k_=>k_ 0 (Shape.inj JB.c6x0 (x_.1,x_.2.1,x_.2.2.1,r_,x_.2.2.2.2)))
def JB.c100004 {ρ:Type} (i:Int) (a_1:List YN) (t50:Bool) (t51:List Int) (k_:(Int×(List YN))⊕(Int×(List YN))→Option ρ):Option ρ:=
 br (decide (i < (8:Int)))
 (bnd (W.JB.c6 i a_1 t50 t51 some) fun y=>
 k_ (.inl ((IntKind.i64.wrap (i+(1:Int))),y)))
 (k_ (.inr (i,a_1)))
def JB.c100004s:Shape:=JB.c6s
def JB.c100004x0:Shape:=JB.c6s
def JB.c100004r:Ck:=Ck.ofLoop (S:=Int×(List YN)) (T:=Int×(List YN)) JB.c100004s (fun x_=>(x_.2.2.1,x_.2.2.2.1)) (fun ρ x_ s_ k_=>JB.c100004 s_.1 s_.2 x_.2.2.2.2.2.1 x_.2.2.2.2.2.2.1 k_) (fun ρ x_ r_ k_=>k_ 2 (Shape.inj JB.c100004x0 (x_.1,x_.2.1,r_.1,r_.2,x_.2.2.2.2)))
def JB.c204118 {ρ:Type} (e:Int) (a_1:List YN) (k_:List YN→Option ρ):Option ρ:=
 bnd (inR (List.length a_1) (0:Int)) fun y=>
 bnd (idx a_1 (0:Int)) fun y_1=>
 br (decide (y_1.2 < e))
 (bnd (inR (List.length a_1) (0:Int)) fun y_2=>
 bnd (idx a_1 (0:Int)) fun y_3=>
 bnd (W.Jz (IntKind.i64.wrap (e - y_3.2))) fun y_4=>
 bnd (iter (fun s↦W.JB.c100004 s.1 s.2 y_4.1 y_4.2 some) ((0:Int),a_1)) fun y_5=>
 bnd (inR (List.length y_5.2) (0:Int)) fun y_6=>
 bnd (idx y_5.2 (0:Int)) fun y_7=>
 k_ (List.set y_5.2 (0:Nat) (y_7.1,e)))
 (k_ a_1)
def JB.c204118s:Shape:=⟨[(0,tb100),(1,tb5),(2,tb104),(4,tb105)],[(2,tb106),(4,tb106)]⟩
def JB.c204118x0:Shape:=JB.c204118s
def JB.c204118r:Ck:=Ck.of (T:=List YN) JB.c204118s (fun ρ x_ k_=>JB.c204118 x_.2.1 x_.2.2.1 k_) (fun ρ x_ r_ k_=>k_ 0 (Shape.inj JB.c204118x0 (x_.1,x_.2.1,r_,x_.2.2.2)))
def JB (a:YN) (e:Int):Option YN:=
 bnd (W.JB.c204118 e [a] some) fun y=>
 bnd (idx y (0:Int)) fun y_1=>
 some y_1
def JB.ce:Go.Ql.Callee:=⟨[(.st (.pair (.ar 8 (.st (.pair .bool (.sl (.int .i64))))) (.int .i64))),(.int .i64)],[(.st (.pair (.ar 8 (.st (.pair .bool (.sl (.int .i64))))) (.int .i64)))],fun x_=>JB x_.1 x_.2⟩
def JB.G:Env:=⟨32,tab,[(122,Jz.ce),(123,jQ.ce)],[0,1,2,4,5,6,10,17],[2,4],[(6,[⟨[],[],[21,22,23,24,25,26,27],[]⟩,⟨[],[],[20,22,25,27],[]⟩,⟨[],[],[20,21,25,27],[]⟩,⟨[2,1],[],[20,25,27],[]⟩,⟨[3,2,1],[],[20,25,27],[]⟩,⟨[],[],[20,21,22,23,24,27],[]⟩,⟨[4,3,2,1,5],[],[20,27],[]⟩,⟨[],[],[20,21,22,23,24,25,26],[]⟩,⟨[7,0,1,2,3,4,5,6],[],[],[]⟩,⟨[8,7,0,1,2,3,4,5,6],[2],[],[]⟩])],[(204118,JB.c204118r),(100004,JB.c100004r),(6,JB.c6r)],[],jZ⟩
theorem JB.eq (x_:dens JB.ce.params):den JB.G Try.f96 JB.ce.params JB.ce.res x_=JB.ce.F x_:=by kernel_rfl
theorem JB.p0:PcA JB.G Try.f96 0:=
 JV (s:=JB.c204118r) (by kernel_rfl) (by kernel_rfl) (jt (sh:=JB.c204118s) (fun ρ x_ k_=>(jc fun _=>(jc fun _=>(jm (jc fun _=>(jc fun _=>(jc fun _=>(jc fun _=>(jc fun _=>(jc fun _=>jd)))))) jd)))) (fun ρ x_ t k=>(by kernel_rfl)) (fun x_=>by kernel_rfl))
theorem JB.p1:PcA JB.G Try.f96 1:=
 Jk (s:=JB.c100004r) (by kernel_rfl) (by kernel_rfl) (Jc (sh:=JB.c100004s) (I:=fun x_ s_=>(x_.1,x_.2.1,s_.1,s_.2,x_.2.2.2.2)) (fun x_=>rfl) (fun ρ x_ s_ k_=>(jm (jc fun _=>jd) jd)) (fun ρ x_ t k=>(by kernel_rfl)) (fun x_ s=>by kernel_rfl))
theorem JB.p2:PcA JB.G Try.f96 2:=
 ju (s:=JB.c6r) (by kernel_rfl) (by kernel_rfl) (jt (sh:=JB.c6s) (fun ρ x_ k_=>(jc fun _=>(jc fun _=>(jc fun _=>(jc fun _=>(jc fun _=>(jc fun _=>(jc fun _=>(jc fun _=>(jc fun _=>jd)))))))))) (fun ρ x_ t k=>(by kernel_rfl)) (fun x_=>by kernel_rfl))
theorem JB.ok:CalleeOk Try.prog 96 JB.ce:=fn_ok (G:=JB.G) Jj mixed Try.func96 ⟨(jx Jz.ok (jx jQ.ok Ja)),jR,jA⟩ (m:=3) (by kernel_rfl) ⟨⟨⟨trivial,JB.p0⟩,JB.p1⟩,JB.p2⟩ (by kernel_rfl) JB.eq
def Je.c4 {ρ:Type} (a:List Int) (b:List Int) (c:Int) (i:Int) (k_:Bool→Option ρ):Option ρ:=
 br (decide (i < (↑(List.length a):Int)))
 (k_ true)
 (br (decide (i < (↑(List.length b):Int)))
 (k_ true)
 (k_ (decide (c > (0:Int)))))
def Je.c4s:Shape:=⟨[(0,tb36),(1,tb36),(4,tb36),(5,tb20),(6,tb5),(7,tb5)],[(5,tb50)]⟩
def Je.c4x0:Shape:=⟨[(0,tb36),(1,tb36),(4,tb36),(5,tb20),(6,tb5),(7,tb5),(21,tb7)],[(5,tb50)]⟩
def Je.c4r:Ck:=Ck.of (T:=Bool) Je.c4s (fun ρ x_ k_=>Je.c4 x_.1 x_.2.1 x_.2.2.2.1 x_.2.2.2.2.1 k_) (fun ρ x_ r_ k_=>k_ 0 (Shape.inj Je.c4x0 (x_.1,x_.2.1,x_.2.2.1,x_.2.2.2.1,x_.2.2.2.2.1,r_,x_.2.2.2.2.2)))
def Je.c224581 {ρ:Type} (a:List Int) (c:Int) (i:Int) (k_:Int→Option ρ):Option ρ:=
 br (decide (i < (↑(List.length a):Int)))
 (bnd (idx a i) fun y=>
 k_ (IntKind.i64.wrap (c+y)))
 (k_ c)
def Je.c224581s:Shape:=Je.c4s
def Je.c224581x0:Shape:=Je.c4s
def Je.c224581r:Ck:=Ck.of (T:=Int) Je.c224581s (fun ρ x_ k_=>Je.c224581 x_.1 x_.2.2.2.1 x_.2.2.2.2.1 k_) (fun ρ x_ r_ k_=>k_ 0 (Shape.inj Je.c224581x0 (x_.1,x_.2.1,x_.2.2.1,r_,x_.2.2.2.2)))
def Je.c232773 {ρ:Type} (b:List Int) (c:Int) (i:Int) (k_:Int→Option ρ):Option ρ:=
 br (decide (i < (↑(List.length b):Int)))
 (bnd (idx b i) fun y=>
 k_ (IntKind.i64.wrap (c+y)))
 (k_ c)
def Je.c232773s:Shape:=Je.c4s
def Je.c232773x0:Shape:=Je.c4s
def Je.c232773r:Ck:=Ck.of (T:=Int) Je.c232773s (fun ρ x_ k_=>Je.c232773 x_.2.1 x_.2.2.2.1 x_.2.2.2.2.1 k_) (fun ρ x_ r_ k_=>k_ 0 (Shape.inj Je.c232773x0 (x_.1,x_.2.1,x_.2.2.1,r_,x_.2.2.2.2)))
def Je.c100004 {ρ:Type} (a:List Int) (b:List Int) (c:Int) (i:Int) (out:List Int) (k_:(Int×Int×(List Int))⊕(Int×Int×(List Int))→Option ρ):Option ρ:=
 bnd (W.Je.c4 a b c i some) fun y=>
 br y
 (bnd (W.Je.c224581 a c i some) fun y_1=>
 bnd (W.Je.c232773 b y_1 i some) fun y_2=>
 bnd (okIf (decide ((List.length out+(1:Nat))*(8:Nat)≤(140737488355328:Nat)) && decide (List.length out+(1:Nat)≤(140737488355328:Nat)))) fun y_3=>
 k_ (.inl ((IntKind.i64.wrap (Int.tdiv y_2 (10000:Int))),(IntKind.i64.wrap (i+(1:Int))),(out++[Int.tmod y_2 (10000:Int)]))))
 (k_ (.inr (c,i,out)))
def Je.c100004s:Shape:=Je.c4s
def Je.c100004x0:Shape:=Je.c4s
def Je.c100004r:Ck:=Ck.ofLoop (S:=Int×Int×(List Int)) (T:=Int×Int×(List Int)) Je.c100004s (fun x_=>(x_.2.2.2.1,x_.2.2.2.2.1,x_.2.2.2.2.2.1)) (fun ρ x_ s_ k_=>Je.c100004 x_.1 x_.2.1 s_.1 s_.2.1 s_.2.2 k_) (fun ρ x_ r_ k_=>k_ 2 (Shape.inj Je.c100004x0 (x_.1,x_.2.1,x_.2.2.1,r_.1,r_.2.1,r_.2.2,())))
def Je (a:List Int) (b:List Int):Option (List Int):=
 bnd (iter (fun s↦W.Je.c100004 a b s.1 s.2.1 s.2.2 some) ((0:Int),(0:Int),[])) fun y=>
 some y.2.2
def Je.ce:Go.Ql.Callee:=⟨[(.sl (.int .i64)),(.sl (.int .i64))],[(.sl (.int .i64))],fun x_=>Je x_.1 x_.2⟩
def Je.G:Env:=⟨52,tab,[],[0,1,4,5,6,7,21,27,37],[5],[],[(100004,Je.c100004r),(232773,Je.c232773r),(224581,Je.c224581r),(4,Je.c4r)],[],jZ⟩
theorem Je.eq (x_:dens Je.ce.params):den Je.G Try.f124 Je.ce.params Je.ce.res x_=Je.ce.F x_:=by kernel_rfl
theorem Je.p0:PcA Je.G Try.f124 0:=
 Jk (s:=Je.c100004r) (by kernel_rfl) (by kernel_rfl) (Jc (sh:=Je.c100004s) (I:=fun x_ s_=>(x_.1,x_.2.1,x_.2.2.1,s_.1,s_.2.1,s_.2.2,())) (fun x_=>rfl) (fun ρ x_ s_ k_=>(jc fun _=>(jm (jc fun _=>(jc fun _=>(jc fun _=>jd))) jd))) (fun ρ x_ t k=>(by kernel_rfl)) (fun x_ s=>by kernel_rfl))
theorem Je.p1:PcA Je.G Try.f124 1:=
 ju (s:=Je.c4r) (by kernel_rfl) (by kernel_rfl) (jt (sh:=Je.c4s) (fun ρ x_ k_=>(jm jd (jm jd jd))) (fun ρ x_ t k=>(by kernel_rfl)) (fun x_=>by kernel_rfl))
theorem Je.p2:PcA Je.G Try.f124 2:=
 JV (s:=Je.c224581r) (by kernel_rfl) (by kernel_rfl) (jt (sh:=Je.c224581s) (fun ρ x_ k_=>(jm (jc fun _=>jd) jd)) (fun ρ x_ t k=>(by kernel_rfl)) (fun x_=>by kernel_rfl))
theorem Je.p3:PcA Je.G Try.f124 3:=
 JV (s:=Je.c232773r) (by kernel_rfl) (by kernel_rfl) (jt (sh:=Je.c232773s) (fun ρ x_ k_=>(jm (jc fun _=>jd) jd)) (fun ρ x_ t k=>(by kernel_rfl)) (fun x_=>by kernel_rfl))
theorem Je.ok:CalleeOk Try.prog 124 Je.ce:=fn_ok (G:=Je.G) Jj mixed Try.func124 ⟨Ja,jR,jA⟩ (m:=4) (by kernel_rfl) ⟨⟨⟨⟨trivial,Je.p0⟩,Je.p1⟩,Je.p2⟩,Je.p3⟩ (by kernel_rfl) Je.eq
def Jt.c8 {ρ:Type} (a:List Int) (b:List Int) (i:Int) (k_:Bool→Option ρ):Option ρ:=
 bnd (idx a i) fun y=>
 bnd (idx b i) fun y_1=>
 k_ (decide (y < y_1))
def Jt.c8s:Shape:=⟨[(0,tb36),(1,tb36),(4,tb5),(5,tb5)],[]⟩
def Jt.c8x0:Shape:=⟨[(0,tb36),(1,tb36),(4,tb5),(5,tb5),(31,tb7)],[]⟩
def Jt.c8r:Ck:=Ck.of (T:=Bool) Jt.c8s (fun ρ x_ k_=>Jt.c8 x_.1 x_.2.1 x_.2.2.2.1 k_) (fun ρ x_ r_ k_=>k_ 0 (Shape.inj Jt.c8x0 (x_.1,x_.2.1,x_.2.2.1,x_.2.2.2.1,r_,())))
def Jt.c10 {ρ:Type} (a:List Int) (b:List Int) (i:Int) (k_:Bool→Option ρ):Option ρ:=
 bnd (idx a i) fun y=>
 bnd (idx b i) fun y_1=>
 k_ (decide (y > y_1))
def Jt.c10s:Shape:=Jt.c8s
def Jt.c10x0:Shape:=⟨[(0,tb36),(1,tb36),(4,tb5),(5,tb5),(40,tb7)],[]⟩
def Jt.c10r:Ck:=Ck.of (T:=Bool) Jt.c10s (fun ρ x_ k_=>Jt.c10 x_.1 x_.2.1 x_.2.2.2.1 k_) (fun ρ x_ r_ k_=>k_ 0 (Shape.inj Jt.c10x0 (x_.1,x_.2.1,x_.2.2.1,x_.2.2.2.1,r_,())))
def Jt.c100006 {ρ:Type} (a:List Int) (b:List Int) (i:Int) (k_:Int⊕((Int×Int)⊕Int)→Option ρ):Option ρ:=
 br (decide (i≥(0:Int)))
 (bnd (W.Jt.c8 a b i some) fun y=>
 br y
 (k_ (.inr (.inl ((-1:Int),i))))
 (bnd (W.Jt.c10 a b i some) fun y_1=>
 br y_1
 (k_ (.inr (.inl ((1:Int),i))))
 (k_ (.inl (IntKind.i64.wrap (i - (1:Int)))))))
 (k_ (.inr (.inr i)))
def Jt.c100006s:Shape:=Jt.c8s
def Jt.c100006x0:Shape:=Jt.c8s
def Jt.c100006x1:Shape:=Jt.c8s
def Jt.c100006r:Ck:=Ck.ofLoop (S:=Int) (T:=(Int×Int)⊕Int) Jt.c100006s (fun x_=>x_.2.2.2.1) (fun ρ x_ s_ k_=>Jt.c100006 x_.1 x_.2.1 s_ k_) (fun ρ x_ r_ k_=>sel r_ (fun r_=>k_ 1 (Shape.inj Jt.c100006x0 (x_.1,x_.2.1,r_.1,r_.2,()))) (fun r_=>k_ 2 (Shape.inj Jt.c100006x1 (x_.1,x_.2.1,x_.2.2.1,r_,()))))
def Jt (a:List Int) (b:List Int):Option Int:=
 br ((↑(List.length a):Int) != (↑(List.length b):Int))
 (br (decide ((↑(List.length a):Int) < (↑(List.length b):Int)))
 (some (-1:Int))
 (some (1:Int)))
 (bnd (iter (fun s↦W.Jt.c100006 a b s some) (IntKind.i64.wrap ((↑(List.length a):Int) - (1:Int)))) fun y=>
 sel y
 (fun u=>some u.1)
 (fun v=>some (0:Int)))
def Jt.ce:Go.Ql.Callee:=⟨[(.sl (.int .i64)),(.sl (.int .i64))],[(.int .i64)],fun x_=>Jt x_.1 x_.2⟩
def Jt.G:Env:=⟨41,tab,[],[0,1,4,5,10,15,20,31,40],[],[(10,[⟨[],[],[33,36,37,38,39],[]⟩,⟨[],[],[32,36,37,38,39],[]⟩,⟨[0,1],[],[36,37,38,39],[]⟩,⟨[2,0,1],[],[36,37,38,39],[]⟩,⟨[],[],[32,33,34,35,37],[]⟩,⟨[],[],[32,33,34,35,36],[]⟩,⟨[4,5],[],[32,33,34,35],[]⟩,⟨[6,4,5],[],[32,33,34,35],[]⟩,⟨[3,2,0,1,7,6,4,5],[],[],[]⟩]),
 (8,[⟨[],[],[24,27,28,29,30],[]⟩,⟨[],[],[23,27,28,29,30],[]⟩,⟨[0,1],[],[27,28,29,30],[]⟩,⟨[2,0,1],[],[27,28,29,30],[]⟩,⟨[],[],[23,24,25,26,28],[]⟩,⟨[],[],[23,24,25,26,27],[]⟩,⟨[4,5],[],[23,24,25,26],[]⟩,⟨[6,4,5],[],[23,24,25,26],[]⟩,⟨[3,2,0,1,7,6,4,5],[],[],[]⟩])],[(100006,Jt.c100006r),(10,Jt.c10r),(8,Jt.c8r)],[],jZ⟩
theorem Jt.eq (x_:dens Jt.ce.params):den Jt.G Try.f125 Jt.ce.params Jt.ce.res x_=Jt.ce.F x_:=by kernel_rfl
theorem Jt.p0:PcA Jt.G Try.f125 0:=
 Jk (s:=Jt.c100006r) (by kernel_rfl) (by kernel_rfl) (Jc (sh:=Jt.c100006s) (I:=fun x_ s_=>(x_.1,x_.2.1,x_.2.2.1,s_,())) (fun x_=>rfl) (fun ρ x_ s_ k_=>(jm (jc fun _=>(jm jd (jc fun _=>(jm jd jd)))) jd)) (fun ρ x_ t k=>(ka (fun _=>(by kernel_rfl)) (fun _=>(by kernel_rfl)))) (fun x_ s=>by kernel_rfl))
theorem Jt.p1:PcA Jt.G Try.f125 1:=
 ju (s:=Jt.c8r) (by kernel_rfl) (by kernel_rfl) (jt (sh:=Jt.c8s) (fun ρ x_ k_=>(jc fun _=>(jc fun _=>jd))) (fun ρ x_ t k=>(by kernel_rfl)) (fun x_=>by kernel_rfl))
theorem Jt.p2:PcA Jt.G Try.f125 2:=
 ju (s:=Jt.c10r) (by kernel_rfl) (by kernel_rfl) (jt (sh:=Jt.c10s) (fun ρ x_ k_=>(jc fun _=>(jc fun _=>jd))) (fun ρ x_ t k=>(by kernel_rfl)) (fun x_=>by kernel_rfl))
theorem Jt.ok:CalleeOk Try.prog 125 Jt.ce:=fn_ok (G:=Jt.G) Jj mixed Try.func125 ⟨Ja,jR,jA⟩ (m:=3) (by kernel_rfl) ⟨⟨⟨trivial,Jt.p0⟩,Jt.p1⟩,Jt.p2⟩ (by kernel_rfl) Jt.eq
def Ju.c228677 {ρ:Type} (b:List Int) (i:Int) (x:Int) (k_:Int→Option ρ):Option ρ:=
 br (decide (i < (↑(List.length b):Int)))
 (bnd (idx b i) fun y=>
 k_ (IntKind.i64.wrap (x - y)))
 (k_ x)
def Ju.c228677s:Shape:=⟨[(0,tb36),(1,tb36),(4,tb36),(5,tb20),(6,tb5),(7,tb5),(8,tb5)],[(5,tb50)]⟩
def Ju.c228677x0:Shape:=Ju.c228677s
def Ju.c228677r:Ck:=Ck.of (T:=Int) Ju.c228677s (fun ρ x_ k_=>Ju.c228677 x_.2.1 x_.2.2.2.2.1 x_.2.2.2.2.2.1 k_) (fun ρ x_ r_ k_=>k_ 0 (Shape.inj Ju.c228677x0 (x_.1,x_.2.1,x_.2.2.1,x_.2.2.2.1,x_.2.2.2.2.1,r_,x_.2.2.2.2.2.2)))
def Ju.c240967 {ρ:Type} (c:Int) (x:Int) (k_:Int×Int→Option ρ):Option ρ:=
 br (decide (x < (0:Int)))
 (k_ ((1:Int),(IntKind.i64.wrap (x+(10000:Int)))))
 (k_ (c,x))
def Ju.c240967s:Shape:=Ju.c228677s
def Ju.c240967x0:Shape:=Ju.c228677s
def Ju.c240967r:Ck:=Ck.of (T:=Int×Int) Ju.c240967s (fun ρ x_ k_=>Ju.c240967 x_.2.2.2.1 x_.2.2.2.2.2.1 k_) (fun ρ x_ r_ k_=>k_ 0 (Shape.inj Ju.c240967x0 (x_.1,x_.2.1,x_.2.2.1,r_.1,x_.2.2.2.2.1,r_.2,x_.2.2.2.2.2.2)))
def Ju.c100004 {ρ:Type} (a:List Int) (b:List Int) (c:Int) (i:Int) (out:List Int) (k_:(Int×Int×(List Int))⊕(Int×Int×(List Int))→Option ρ):Option ρ:=
 br (decide (i < (↑(List.length a):Int)))
 (bnd (idx a i) fun y=>
 bnd (W.Ju.c228677 b i (IntKind.i64.wrap (y - c)) some) fun y_1=>
 bnd (W.Ju.c240967 (0:Int) y_1 some) fun y_2=>
 bnd (okIf (decide ((List.length out+(1:Nat))*(8:Nat)≤(140737488355328:Nat)) && decide (List.length out+(1:Nat)≤(140737488355328:Nat)))) fun y_3=>
 k_ (.inl (y_2.1,(IntKind.i64.wrap (i+(1:Int))),(out++[y_2.2]))))
 (k_ (.inr (c,i,out)))
def Ju.c100004s:Shape:=⟨[(0,tb36),(1,tb36),(4,tb36),(5,tb20),(6,tb5),(7,tb5)],[(5,tb50)]⟩
def Ju.c100004x0:Shape:=Ju.c100004s
def Ju.c100004r:Ck:=Ck.ofLoop (S:=Int×Int×(List Int)) (T:=Int×Int×(List Int)) Ju.c100004s (fun x_=>(x_.2.2.2.1,x_.2.2.2.2.1,x_.2.2.2.2.2.1)) (fun ρ x_ s_ k_=>Ju.c100004 x_.1 x_.2.1 s_.1 s_.2.1 s_.2.2 k_) (fun ρ x_ r_ k_=>k_ 2 (Shape.inj Ju.c100004x0 (x_.1,x_.2.1,x_.2.2.1,r_.1,r_.2.1,r_.2.2,())))
def Ju (a:List Int) (b:List Int):Option (List Int):=
 bnd (iter (fun s↦W.Ju.c100004 a b s.1 s.2.1 s.2.2 some) ((0:Int),(0:Int),[])) fun y=>
 some y.2.2
def Ju.ce:Go.Ql.Callee:=⟨[(.sl (.int .i64)),(.sl (.int .i64))],[(.sl (.int .i64))],fun x_=>Ju x_.1 x_.2⟩
def Ju.G:Env:=⟨40,tab,[],[0,1,4,5,6,7,8,12,24,32],[5],[],[(100004,Ju.c100004r),(240967,Ju.c240967r),(228677,Ju.c228677r)],[],jZ⟩
theorem Ju.eq (x_:dens Ju.ce.params):den Ju.G Try.f126 Ju.ce.params Ju.ce.res x_=Ju.ce.F x_:=by kernel_rfl
theorem Ju.p0:PcA Ju.G Try.f126 0:=
 Jk (s:=Ju.c100004r) (by kernel_rfl) (by kernel_rfl) (Jc (sh:=Ju.c100004s) (I:=fun x_ s_=>(x_.1,x_.2.1,x_.2.2.1,s_.1,s_.2.1,s_.2.2,())) (fun x_=>rfl) (fun ρ x_ s_ k_=>(jm (jc fun _=>(jc fun _=>(jc fun _=>(jc fun _=>jd)))) jd)) (fun ρ x_ t k=>(by kernel_rfl)) (fun x_ s=>by kernel_rfl))
theorem Ju.p1:PcA Ju.G Try.f126 1:=
 JV (s:=Ju.c228677r) (by kernel_rfl) (by kernel_rfl) (jt (sh:=Ju.c228677s) (fun ρ x_ k_=>(jm (jc fun _=>jd) jd)) (fun ρ x_ t k=>(by kernel_rfl)) (fun x_=>by kernel_rfl))
theorem Ju.p2:PcA Ju.G Try.f126 2:=
 JV (s:=Ju.c240967r) (by kernel_rfl) (by kernel_rfl) (jt (sh:=Ju.c240967s) (fun ρ x_ k_=>(jm jd jd)) (fun ρ x_ t k=>(by kernel_rfl)) (fun x_=>by kernel_rfl))
theorem Ju.ok:CalleeOk Try.prog 126 Ju.ce:=fn_ok (G:=Ju.G) Jj mixed Try.func126 ⟨Ja,jR,jA⟩ (m:=3) (by kernel_rfl) ⟨⟨⟨trivial,Ju.p0⟩,Ju.p1⟩,Ju.p2⟩ (by kernel_rfl) Ju.eq
def Jr.c6 {ρ:Type} (a0:Bool) (a1:List Int) (b1:List Int) (k_:YD→Option ρ):Option ρ:=
 bnd (W.Je a1 b1) fun y=>
 bnd (W.Jq a0 y) fun y_1=>
 k_ (y_1.1,y_1.2)
def Jr.c6s:Shape:=⟨[(0,tb102),(1,tb102),(2,tb2),(3,tb12),(4,tb6)],[(2,tb98),(3,tb98),(4,tb98)]⟩
def Jr.c6x0:Shape:=Jr.c6s
def Jr.c6r:Ck:=Ck.of (T:=YD) Jr.c6s (fun ρ x_ k_=>Jr.c6 x_.2.2.1 x_.2.2.2.1 x_.2.2.2.2.2.1 k_) (fun ρ x_ r_ k_=>k_ 0 (Shape.inj Jr.c6x0 (x_.1,x_.2.1,x_.2.2.1,x_.2.2.2.1,x_.2.2.2.2.1,x_.2.2.2.2.2.1,r_.1,r_.2,())))
def Jr.c8 {ρ:Type} (a0:Bool) (a1:List Int) (b1:List Int) (k_:YD→Option ρ):Option ρ:=
 bnd (W.Ju a1 b1) fun y=>
 bnd (W.Jq a0 y) fun y_1=>
 k_ (y_1.1,y_1.2)
def Jr.c8s:Shape:=Jr.c6s
def Jr.c8x0:Shape:=Jr.c6s
def Jr.c8r:Ck:=Ck.of (T:=YD) Jr.c8s (fun ρ x_ k_=>Jr.c8 x_.2.2.1 x_.2.2.2.1 x_.2.2.2.2.2.1 k_) (fun ρ x_ r_ k_=>k_ 0 (Shape.inj Jr.c8x0 (x_.1,x_.2.1,x_.2.2.1,x_.2.2.2.1,x_.2.2.2.2.1,x_.2.2.2.2.2.1,r_.1,r_.2,())))
def Jr.c9 {ρ:Type} (a1:List Int) (b0:Bool) (b1:List Int) (k_:YD→Option ρ):Option ρ:=
 bnd (W.Ju b1 a1) fun y=>
 bnd (W.Jq b0 y) fun y_1=>
 k_ (y_1.1,y_1.2)
def Jr.c9s:Shape:=Jr.c6s
def Jr.c9x0:Shape:=Jr.c6s
def Jr.c9r:Ck:=Ck.of (T:=YD) Jr.c9s (fun ρ x_ k_=>Jr.c9 x_.2.2.2.1 x_.2.2.2.2.1 x_.2.2.2.2.2.1 k_) (fun ρ x_ r_ k_=>k_ 0 (Shape.inj Jr.c9x0 (x_.1,x_.2.1,x_.2.2.1,x_.2.2.2.1,x_.2.2.2.2.1,x_.2.2.2.2.2.1,r_.1,r_.2,())))
def Jr (a:YD) (b:YD):Option YD:=
 br ((↑(List.length a.2):Int) == (0:Int))
 (some (b.1,b.2))
 (br ((↑(List.length b.2):Int) == (0:Int))
 (some (a.1,a.2))
 (br (a.1 == b.1)
 (bnd (W.Jr.c6 a.1 a.2 b.2 some) fun y=>
 some (y.1,y.2))
 (bnd (W.Jt a.2 b.2) fun y_1=>
 br (decide (y_1≥(0:Int)))
 (bnd (W.Jr.c8 a.1 a.2 b.2 some) fun y_2=>
 some (y_2.1,y_2.2))
 (bnd (W.Jr.c9 a.2 b.1 b.2 some) fun y_3=>
 some (y_3.1,y_3.2)))))
def Jr.ce:Go.Ql.Callee:=⟨[(.st (.pair .bool (.sl (.int .i64)))),(.st (.pair .bool (.sl (.int .i64))))],[(.st (.pair .bool (.sl (.int .i64))))],fun x_=>Jr x_.1 x_.2⟩
def Jr.G:Env:=⟨50,tab,[(124,Je.ce),(95,Jq.ce),(125,Jt.ce),(126,Ju.ce)],[0,1,2,3,4,8,13,19,33],[],[(9,[⟨[],[],[44,45,46,47,48],[]⟩,⟨[0],[],[44,45,46,47,48],[]⟩,⟨[],[],[42,43,46,47],[]⟩,⟨[2],[],[42,43,46,47],[]⟩,⟨[],[],[42,43,44,45],[]⟩,⟨[4],[],[42,43,44,45],[]⟩,⟨[3,2,5,4],[],[42,43],[]⟩,⟨[1,0,6,3,2,5,4],[],[],[]⟩,⟨[7,1,0,6,3,2,5,4],[4],[],[]⟩]),
 (8,[⟨[],[],[36,37,38,39,40],[]⟩,⟨[0],[],[36,37,38,39,40],[]⟩,⟨[],[],[34,35,38,39],[]⟩,⟨[2],[],[34,35,38,39],[]⟩,⟨[],[],[34,35,36,37],[]⟩,⟨[4],[],[34,35,36,37],[]⟩,⟨[3,2,5,4],[],[34,35],[]⟩,⟨[1,0,6,3,2,5,4],[],[],[]⟩,⟨[7,1,0,6,3,2,5,4],[4],[],[]⟩]),
 (6,[⟨[],[],[22,23,24,25,26],[]⟩,⟨[0],[],[22,23,24,25,26],[]⟩,⟨[],[],[20,21,24,25],[]⟩,⟨[2],[],[20,21,24,25],[]⟩,⟨[],[],[20,21,22,23],[]⟩,⟨[4],[],[20,21,22,23],[]⟩,⟨[3,2,5,4],[],[20,21],[]⟩,⟨[1,0,6,3,2,5,4],[],[],[]⟩,⟨[7,1,0,6,3,2,5,4],[4],[],[]⟩])],[(9,Jr.c9r),(8,Jr.c8r),(6,Jr.c6r)],[],jZ⟩
theorem Jr.eq (x_:dens Jr.ce.params):den Jr.G Try.f97 Jr.ce.params Jr.ce.res x_=Jr.ce.F x_:=by kernel_rfl
theorem Jr.p0:PcA Jr.G Try.f97 0:=
 ju (s:=Jr.c6r) (by kernel_rfl) (by kernel_rfl) (jt (sh:=Jr.c6s) (fun ρ x_ k_=>(jc fun _=>(jc fun _=>jd))) (fun ρ x_ t k=>(by kernel_rfl)) (fun x_=>by kernel_rfl))
theorem Jr.p1:PcA Jr.G Try.f97 1:=
 ju (s:=Jr.c8r) (by kernel_rfl) (by kernel_rfl) (jt (sh:=Jr.c8s) (fun ρ x_ k_=>(jc fun _=>(jc fun _=>jd))) (fun ρ x_ t k=>(by kernel_rfl)) (fun x_=>by kernel_rfl))
theorem Jr.p2:PcA Jr.G Try.f97 2:=
 ju (s:=Jr.c9r) (by kernel_rfl) (by kernel_rfl) (jt (sh:=Jr.c9s) (fun ρ x_ k_=>(jc fun _=>(jc fun _=>jd))) (fun ρ x_ t k=>(by kernel_rfl)) (fun x_=>by kernel_rfl))
theorem Jr.ok:CalleeOk Try.prog 97 Jr.ce:=fn_ok (G:=Jr.G) Jj mixed Try.func97 ⟨(jx Je.ok (jx Jq.ok (jx Jt.ok (jx Ju.ok Ja)))),jR,jA⟩ (m:=3) (by kernel_rfl) ⟨⟨⟨trivial,Jr.p0⟩,Jr.p1⟩,Jr.p2⟩ (by kernel_rfl) Jr.eq
def kj.c1 {ρ:Type} (a1:List Int) (k_:Bool→Option ρ):Option ρ:=
 br (decide ((↑(List.length a1):Int) > (0:Int)))
 (bnd (idx a1 (0:Int)) fun y=>
 k_ (Int.tmod y (2:Int) == (1:Int)))
 (k_ false)
def kj.c1s:Shape:=⟨[(0,tb102),(1,tb1),(2,tb7)],[(1,tb98)]⟩
def kj.c1x0:Shape:=kj.c1s
def kj.c1r:Ck:=Ck.of (T:=Bool) kj.c1s (fun ρ x_ k_=>kj.c1 x_.2.2.2.1 k_) (fun ρ x_ r_ k_=>k_ 0 (Shape.inj kj.c1x0 (x_.1,r_,x_.2.2)))
def kj (a:YD):Option Bool:=
 bnd (W.kj.c1 a.2 some) fun y=>
 some y
def kj.ce:Go.Ql.Callee:=⟨[(.st (.pair .bool (.sl (.int .i64))))],[.bool],fun x_=>kj x_⟩
def kj.G:Env:=⟨15,tab,[],[0,1,2],[],[],[(1,kj.c1r)],[],jZ⟩
theorem kj.eq (x_:dens kj.ce.params):den kj.G Try.f127 kj.ce.params kj.ce.res x_=kj.ce.F x_:=by kernel_rfl
theorem kj.p0:PcA kj.G Try.f127 0:=
 ju (s:=kj.c1r) (by kernel_rfl) (by kernel_rfl) (jt (sh:=kj.c1s) (fun ρ x_ k_=>(jm (jc fun _=>jd) jd)) (fun ρ x_ t k=>(by kernel_rfl)) (fun x_=>by kernel_rfl))
theorem kj.ok:CalleeOk Try.prog 127 kj.ce:=fn_ok (G:=kj.G) Jj mixed Try.func127 ⟨Ja,jR,jA⟩ (m:=1) (by kernel_rfl) ⟨trivial,kj.p0⟩ (by kernel_rfl) kj.eq
def JR.c100004 {ρ:Type} (c:Int) (i:Int) (a1:List Int) (t10:List Int) (k_:(Int×Int×(List Int))⊕(Int×Int×(List Int))→Option ρ):Option ρ:=
 br (decide (i≥(0:Int)))
 (bnd (idx a1 i) fun y=>
 bnd (inR (List.length t10) i) fun y_1=>
 bnd (idx t10 i) fun y_2=>
 k_ (.inl ((Int.tmod (IntKind.i64.wrap (IntKind.i64.wrap (c*(10000:Int))+y)) (2:Int)),(IntKind.i64.wrap (i - (1:Int))),(List.set t10 (Int.toNat i) (IntKind.i64.wrap (Int.tdiv (IntKind.i64.wrap (IntKind.i64.wrap (c*(10000:Int))+y)) (2:Int)))))))
 (k_ (.inr (c,i,t10)))
def JR.c100004s:Shape:=⟨[(0,tb102),(1,tb1),(2,tb2),(3,tb7),(4,tb49),(5,tb5),(6,tb5)],[(1,tb98),(2,tb98),(10,tb50)]⟩
def JR.c100004x0:Shape:=JR.c100004s
def JR.c100004r:Ck:=Ck.ofLoop (S:=Int×Int×(List Int)) (T:=Int×Int×(List Int)) JR.c100004s (fun x_=>(x_.2.2.1,x_.2.2.2.1,x_.2.2.2.2.2.2.2.2.1)) (fun ρ x_ s_ k_=>JR.c100004 s_.1 s_.2.1 x_.2.2.2.2.2.1 s_.2.2 k_) (fun ρ x_ r_ k_=>k_ 2 (Shape.inj JR.c100004x0 (x_.1,x_.2.1,r_.1,r_.2.1,x_.2.2.2.2.1,x_.2.2.2.2.2.1,x_.2.2.2.2.2.2.1,x_.2.2.2.2.2.2.2.1,r_.2.2,())))
def JR (a:YD):Option (YD×Bool):=
 bnd (okIf (decide ((0:Int)≤(↑(List.length a.2):Int)) && decide ((↑(List.length a.2):Int)≤(↑(List.length a.2):Int)) && decide ((↑(List.length a.2):Int)*(↑(8:Nat):Int)≤(140737488355328:Int)) && decide ((↑(List.length a.2):Int)≤(140737488355328:Int)))) fun y=>
 bnd (iter (fun s↦W.JR.c100004 s.1 s.2.1 a.2 s.2.2 some) ((0:Int),IntKind.i64.wrap ((↑(List.length a.2):Int) - (1:Int)),List.replicate (Int.toNat (↑(List.length a.2):Int)) (0:Int))) fun y_1=>
 bnd (W.Jq a.1 y_1.2.2) fun y_2=>
 some ((y_2.1,y_2.2),decide (y_1.1 > (0:Int)))
def JR.ce:Go.Ql.Callee:=⟨[(.st (.pair .bool (.sl (.int .i64))))],[(.st (.pair .bool (.sl (.int .i64)))),.bool],fun x_=>JR x_⟩
def JR.G:Env:=⟨40,tab,[(95,Jq.ce)],[0,1,2,3,4,5,6,16],[10],[],[(100004,JR.c100004r)],[],jZ⟩
theorem JR.eq (x_:dens JR.ce.params):den JR.G Try.f128 JR.ce.params JR.ce.res x_=JR.ce.F x_:=by kernel_rfl
theorem JR.p0:PcA JR.G Try.f128 0:=
 Jk (s:=JR.c100004r) (by kernel_rfl) (by kernel_rfl) (Jc (sh:=JR.c100004s) (I:=fun x_ s_=>(x_.1,x_.2.1,s_.1,s_.2.1,x_.2.2.2.2.1,x_.2.2.2.2.2.1,x_.2.2.2.2.2.2.1,x_.2.2.2.2.2.2.2.1,s_.2.2,())) (fun x_=>rfl) (fun ρ x_ s_ k_=>(jm (jc fun _=>(jc fun _=>(jc fun _=>jd))) jd)) (fun ρ x_ t k=>(by kernel_rfl)) (fun x_ s=>by kernel_rfl))
theorem JR.ok:CalleeOk Try.prog 128 JR.ce:=fn_ok (G:=JR.G) Jj mixed Try.func128 ⟨(jx Jq.ok Ja),jR,jA⟩ (m:=1) (by kernel_rfl) ⟨trivial,JR.p0⟩ (by kernel_rfl) JR.eq
abbrev tb107:SD:=.one (.aptr 1 0)
def jK.c100003 {ρ:Type} (i:Int) (a_1:List YN) (t2:List YN) (k_:Int⊕((Int×(List YN))⊕Int)→Option ρ):Option ρ:=
 br (decide (i < (8:Int)))
 (bnd (inR (List.length a_1) (0:Int)) fun y=>
 bnd (okIf (decide ((0:Ty.den (Ty.int IntKind.i64))≤i) && decide (i < (↑(8:Nat):Int)))) fun y_1=>
 bnd (idx a_1 (0:Int)) fun y_2=>
 bnd (idx y_2.1 i) fun y_3=>
 bnd (W.kj y_3) fun y_4=>
 br y_4
 (bnd (idx a_1 (0:Int)) fun y_5=>
 bnd (idx t2 (0:Int)) fun y_6=>
 k_ (.inr (.inl (i,(List.set t2 (0:Nat) y_5)))))
 (k_ (.inl (IntKind.i64.wrap (i+(1:Int))))))
 (k_ (.inr (.inr i)))
def jK.c100003s:Shape:=⟨[(0,tb100),(1,tb107),(2,tb104),(3,tb5)],[(1,tb106),(2,tb106)]⟩
def jK.c100003x0:Shape:=jK.c100003s
def jK.c100003x1:Shape:=jK.c100003s
def jK.c100003r:Ck:=Ck.ofLoop (S:=Int) (T:=(Int×(List YN))⊕Int) jK.c100003s (fun x_=>x_.2.1) (fun ρ x_ s_ k_=>jK.c100003 s_ x_.2.2.1 x_.2.2.2.1 k_) (fun ρ x_ r_ k_=>sel r_ (fun r_=>k_ 1 (Shape.inj jK.c100003x0 (x_.1,r_.1,x_.2.2.1,r_.2,()))) (fun r_=>k_ 4 (Shape.inj jK.c100003x1 (x_.1,r_,x_.2.2))))
def jK.c100008 {ρ:Type} (i_1:Int) (a_1:List YN) (k_:(Int×(List YN))⊕(Int×(List YN))→Option ρ):Option ρ:=
 br (decide (i_1 < (8:Int)))
 (bnd (inR (List.length a_1) (0:Int)) fun y=>
 bnd (okIf (decide ((0:Ty.den (Ty.int IntKind.i64))≤i_1) && decide (i_1 < (↑(8:Nat):Int)))) fun y_1=>
 bnd (idx a_1 (0:Int)) fun y_2=>
 bnd (idx y_2.1 i_1) fun y_3=>
 bnd (W.JR y_3) fun y_4=>
 bnd (inR (List.length a_1) (0:Int)) fun y_5=>
 bnd (okIf (decide ((0:Ty.den (Ty.int IntKind.i64))≤i_1) && decide (i_1 < (↑(8:Nat):Int)))) fun y_6=>
 bnd (idx a_1 (0:Int)) fun y_7=>
 bnd (idx y_7.1 i_1) fun y_8=>
 k_ (.inl ((IntKind.i64.wrap (i_1+(1:Int))),(List.set a_1 (0:Nat) (List.set y_7.1 (Int.toNat i_1) y_4.1,y_7.2)))))
 (k_ (.inr (i_1,a_1)))
def jK.c100008s:Shape:=⟨[(0,tb100),(1,tb107),(2,tb104),(3,tb5),(4,tb5)],[(1,tb106),(2,tb106)]⟩
def jK.c100008x0:Shape:=jK.c100008s
def jK.c100008r:Ck:=Ck.ofLoop (S:=Int×(List YN)) (T:=Int×(List YN)) jK.c100008s (fun x_=>(x_.2.2.1,x_.2.2.2.1)) (fun ρ x_ s_ k_=>jK.c100008 s_.1 s_.2 k_) (fun ρ x_ r_ k_=>k_ 6 (Shape.inj jK.c100008x0 (x_.1,x_.2.1,r_.1,r_.2,x_.2.2.2.2)))
def jK.c100001 {ρ:Type} (a_1:List YN) (t2:List YN) (k_:(List YN)⊕(((List YN)×(List YN))⊕(List YN))→Option ρ):Option ρ:=
 bnd (inR (List.length a_1) (0:Int)) fun y=>
 bnd (idx a_1 (0:Int)) fun y_1=>
 br (decide (y_1.2 > (0:Int)))
 (bnd (iter (fun s↦W.jK.c100003 s a_1 t2 some) (0:Int)) fun y_2=>
 sel y_2
 (fun u=>k_ (.inr (.inl (a_1,u.2))))
 (fun v=>bnd (iter (fun s↦W.jK.c100008 s.1 s.2 some) ((0:Int),a_1)) fun y_3=>
 bnd (idx y_3.2 (0:Int)) fun y_4=>
 bnd (W.Jn y_4) fun y_5=>
 br y_5
 (bnd (idx t2 (0:Int)) fun y_6=>
 k_ (.inr (.inl (y_3.2,(List.set t2 (0:Nat) (List.replicate (8:Nat) (false,[]),(0:Int)))))))
 (bnd (inR (List.length y_3.2) (0:Int)) fun y_7=>
 bnd (idx y_3.2 (0:Int)) fun y_8=>
 bnd (inR (List.length y_3.2) (0:Int)) fun y_9=>
 bnd (idx y_3.2 (0:Int)) fun y_10=>
 k_ (.inl (List.set y_3.2 (0:Nat) (y_10.1,IntKind.i64.wrap (y_8.2 - (1:Int))))))))
 (k_ (.inr (.inr a_1)))
def jK.c100001s:Shape:=⟨[(0,tb100),(1,tb107),(2,tb104)],[(1,tb106),(2,tb106)]⟩
def jK.c100001x0:Shape:=jK.c100001s
def jK.c100001x1:Shape:=jK.c100001s
def jK.c100001r:Ck:=Ck.ofLoop (S:=List YN) (T:=((List YN)×(List YN))⊕(List YN)) jK.c100001s (fun x_=>x_.2.1) (fun ρ x_ s_ k_=>jK.c100001 s_ x_.2.2.1 k_) (fun ρ x_ r_ k_=>sel r_ (fun r_=>k_ 1 (Shape.inj jK.c100001x0 (x_.1,r_.1,r_.2,()))) (fun r_=>k_ 2 (Shape.inj jK.c100001x1 (x_.1,r_,x_.2.2))))
def jK (a:YN):Option YN:=
 bnd (iter (fun s↦W.jK.c100001 s [(List.replicate (8:Nat) (false,[]),(0:Int))] some) [a]) fun y=>
 sel y
 (fun u=>bnd (idx u.2 (0:Int)) fun y_1=>
 some y_1)
 (fun v=>bnd (idx v (0:Int)) fun y_2=>
 some y_2)
def jK.ce:Go.Ql.Callee:=⟨[(.st (.pair (.ar 8 (.st (.pair .bool (.sl (.int .i64))))) (.int .i64)))],[(.st (.pair (.ar 8 (.st (.pair .bool (.sl (.int .i64))))) (.int .i64)))],fun x_=>jK x_⟩
def jK.G:Env:=⟨41,tab,[(127,kj.ce),(128,JR.ce),(48,Jn.ce)],[0,1,2,3,4,7,9,16,19,34],[1,2,35],[],[(100001,jK.c100001r),(100008,jK.c100008r),(100003,jK.c100003r)],[],jZ⟩
theorem jK.eq (x_:dens jK.ce.params):den jK.G Try.f98 jK.ce.params jK.ce.res x_=jK.ce.F x_:=by kernel_rfl
theorem jK.p0:PcA jK.G Try.f98 0:=
 Jk (s:=jK.c100001r) (by kernel_rfl) (by kernel_rfl) (Jc (sh:=jK.c100001s) (I:=fun x_ s_=>(x_.1,s_,x_.2.2)) (fun x_=>rfl) (fun ρ x_ s_ k_=>(jc fun _=>(jc fun _=>(jm (jc fun _=>(ka (fun _=>jd) (fun _=>(jc fun _=>(jc fun _=>(jc fun _=>(jm (jc fun _=>jd) (jc fun _=>(jc fun _=>(jc fun _=>(jc fun _=>jd))))))))))) jd)))) (fun ρ x_ t k=>(ka (fun _=>(by kernel_rfl)) (fun _=>(by kernel_rfl)))) (fun x_ s=>by kernel_rfl))
theorem jK.p1:PcA jK.G Try.f98 1:=
 Jk (s:=jK.c100003r) (by kernel_rfl) (by kernel_rfl) (Jc (sh:=jK.c100003s) (I:=fun x_ s_=>(x_.1,s_,x_.2.2)) (fun x_=>rfl) (fun ρ x_ s_ k_=>(jm (jc fun _=>(jc fun _=>(jc fun _=>(jc fun _=>(jc fun _=>(jm (jc fun _=>(jc fun _=>jd)) jd)))))) jd)) (fun ρ x_ t k=>(ka (fun _=>(by kernel_rfl)) (fun _=>(by kernel_rfl)))) (fun x_ s=>by kernel_rfl))
theorem jK.p2:PcA jK.G Try.f98 2:=
 Jk (s:=jK.c100008r) (by kernel_rfl) (by kernel_rfl) (Jc (sh:=jK.c100008s) (I:=fun x_ s_=>(x_.1,x_.2.1,s_.1,s_.2,x_.2.2.2.2)) (fun x_=>rfl) (fun ρ x_ s_ k_=>(jm (jc fun _=>(jc fun _=>(jc fun _=>(jc fun _=>(jc fun _=>(jc fun _=>(jc fun _=>(jc fun _=>(jc fun _=>jd))))))))) jd)) (fun ρ x_ t k=>(by kernel_rfl)) (fun x_ s=>by kernel_rfl))
theorem jK.ok:CalleeOk Try.prog 98 jK.ce:=fn_ok (G:=jK.G) Jj mixed Try.func98 ⟨(jx kj.ok (jx JR.ok (jx Jn.ok Ja))),jR,jA⟩ (m:=3) (by kernel_rfl) ⟨⟨⟨trivial,jK.p0⟩,jK.p1⟩,jK.p2⟩ (by kernel_rfl) jK.eq
abbrev tb108:SD:=.one (.aptr 3 0)
def Jw.c10 {ρ:Type} (i:Int) (a_1:List YN) (b_1:List YN) (k_:List YN→Option ρ):Option ρ:=
 bnd (inR (List.length a_1) (0:Int)) fun y=>
 bnd (okIf (decide ((0:Ty.den (Ty.int IntKind.i64))≤i) && decide (i < (↑(8:Nat):Int)))) fun y_1=>
 bnd (idx a_1 (0:Int)) fun y_2=>
 bnd (idx y_2.1 i) fun y_3=>
 bnd (inR (List.length b_1) (0:Int)) fun y_4=>
 bnd (okIf (decide ((0:Ty.den (Ty.int IntKind.i64))≤i) && decide (i < (↑(8:Nat):Int)))) fun y_5=>
 bnd (idx b_1 (0:Int)) fun y_6=>
 bnd (idx y_6.1 i) fun y_7=>
 bnd (W.Jr y_3 y_7) fun y_8=>
 bnd (inR (List.length a_1) (0:Int)) fun y_9=>
 bnd (okIf (decide ((0:Ty.den (Ty.int IntKind.i64))≤i) && decide (i < (↑(8:Nat):Int)))) fun y_10=>
 bnd (idx a_1 (0:Int)) fun y_11=>
 bnd (idx y_11.1 i) fun y_12=>
 k_ (List.set a_1 (0:Nat) (List.set y_11.1 (Int.toNat i) y_8,y_11.2))
def Jw.c10s:Shape:=⟨[(0,tb100),(1,tb100),(2,tb104),(3,tb108),(4,tb105),(5,tb5)],[(2,tb106),(3,tb106),(4,tb106)]⟩
def Jw.c10x0:Shape:=Jw.c10s
def Jw.c10r:Ck:=Ck.of (T:=List YN) Jw.c10s (fun ρ x_ k_=>Jw.c10 x_.2.2.1 x_.2.2.2.1 x_.2.2.2.2.1 k_) (fun ρ x_ r_ k_=>k_ 0 (Shape.inj Jw.c10x0 (x_.1,x_.2.1,x_.2.2.1,r_,x_.2.2.2.2)))
def Jw.c100008 {ρ:Type} (i:Int) (a_1:List YN) (b_1:List YN) (k_:(Int×(List YN))⊕(Int×(List YN))→Option ρ):Option ρ:=
 br (decide (i < (8:Int)))
 (bnd (W.Jw.c10 i a_1 b_1 some) fun y=>
 k_ (.inl ((IntKind.i64.wrap (i+(1:Int))),y)))
 (k_ (.inr (i,a_1)))
def Jw.c100008s:Shape:=Jw.c10s
def Jw.c100008x0:Shape:=Jw.c10s
def Jw.c100008r:Ck:=Ck.ofLoop (S:=Int×(List YN)) (T:=Int×(List YN)) Jw.c100008s (fun x_=>(x_.2.2.1,x_.2.2.2.1)) (fun ρ x_ s_ k_=>Jw.c100008 s_.1 s_.2 x_.2.2.2.2.1 k_) (fun ρ x_ r_ k_=>k_ 2 (Shape.inj Jw.c100008x0 (x_.1,x_.2.1,r_.1,r_.2,x_.2.2.2.2)))
def Jw (a:YN) (b:YN):Option YN:=
 bnd (W.Jn a) fun y=>
 br y
 (some b)
 (bnd (W.Jn b) fun y_1=>
 br y_1
 (some a)
 (bnd (W.JB a b.2) fun y_2=>
 bnd (W.JB b y_2.2) fun y_3=>
 bnd (iter (fun s↦W.Jw.c100008 s.1 s.2 [y_3] some) ((0:Int),[y_2])) fun y_4=>
 bnd (idx y_4.2 (0:Int)) fun y_5=>
 bnd (W.Jn y_5) fun y_6=>
 br y_6
 (some (List.replicate (8:Nat) (false,[]),(0:Int)))
 (bnd (idx y_4.2 (0:Int)) fun y_7=>
 bnd (W.jK y_7) fun y_8=>
 some y_8)))
def Jw.ce:Go.Ql.Callee:=⟨[(.st (.pair (.ar 8 (.st (.pair .bool (.sl (.int .i64))))) (.int .i64))),(.st (.pair (.ar 8 (.st (.pair .bool (.sl (.int .i64))))) (.int .i64)))],[(.st (.pair (.ar 8 (.st (.pair .bool (.sl (.int .i64))))) (.int .i64)))],fun x_=>Jw x_.1 x_.2⟩
def Jw.G:Env:=⟨41,tab,[(48,Jn.ce),(96,JB.ce),(97,Jr.ce),(98,jK.ce)],[0,1,2,3,4,5,7,10,21,37],[2,3,4,38],[(10,[⟨[],[],[25,26,27,28,29,30,31,32,33,34],[]⟩,⟨[],[],[24,26,29,30,31,32,34],[]⟩,⟨[],[],[24,25,29,30,31,32,34],[]⟩,⟨[2,1],[],[24,29,30,31,32,34],[]⟩,⟨[3,2,1],[],[24,29,30,31,32,34],[]⟩,⟨[],[],[24,25,26,27,28,30,34],[]⟩,⟨[],[],[24,25,26,27,28,29,34],[]⟩,⟨[6,5],[],[24,25,26,27,28,34],[]⟩,⟨[7,6,5],[],[24,25,26,27,28,34],[]⟩,⟨[4,3,2,1,8,7,6,5],[],[24,34],[]⟩,⟨[],[],[24,25,26,27,28,29,30,31,32,33],[]⟩,⟨[10,0,1,2,3,4,5,6,7,8,9],[],[],[]⟩,⟨[11,10,0,1,2,3,4,5,6,7,8,9],[2],[],[]⟩])],[(100008,Jw.c100008r),(10,Jw.c10r)],[],jZ⟩
theorem Jw.eq (x_:dens Jw.ce.params):den Jw.G Try.f62 Jw.ce.params Jw.ce.res x_=Jw.ce.F x_:=by kernel_rfl
theorem Jw.p0:PcA Jw.G Try.f62 0:=
 Jk (s:=Jw.c100008r) (by kernel_rfl) (by kernel_rfl) (Jc (sh:=Jw.c100008s) (I:=fun x_ s_=>(x_.1,x_.2.1,s_.1,s_.2,x_.2.2.2.2)) (fun x_=>rfl) (fun ρ x_ s_ k_=>(jm (jc fun _=>jd) jd)) (fun ρ x_ t k=>(by kernel_rfl)) (fun x_ s=>by kernel_rfl))
theorem Jw.p1:PcA Jw.G Try.f62 1:=
 ju (s:=Jw.c10r) (by kernel_rfl) (by kernel_rfl) (jt (sh:=Jw.c10s) (fun ρ x_ k_=>(jc fun _=>(jc fun _=>(jc fun _=>(jc fun _=>(jc fun _=>(jc fun _=>(jc fun _=>(jc fun _=>(jc fun _=>(jc fun _=>(jc fun _=>(jc fun _=>(jc fun _=>jd)))))))))))))) (fun ρ x_ t k=>(by kernel_rfl)) (fun x_=>by kernel_rfl))
theorem Jw.ok:CalleeOk Try.prog 62 Jw.ce:=fn_ok (G:=Jw.G) Jj mixed Try.func62 ⟨(jx Jn.ok (jx JB.ok (jx Jr.ok (jx jK.ok Ja)))),jR,jA⟩ (m:=2) (by kernel_rfl) ⟨⟨trivial,Jw.p0⟩,Jw.p1⟩ (by kernel_rfl) Jw.eq
def kI (a:YD):Option YD:=
 bnd (W.Jq (!a.1) a.2) fun y=>
 some (y.1,y.2)
def kI.ce:Go.Ql.Callee:=⟨[(.st (.pair .bool (.sl (.int .i64))))],[(.st (.pair .bool (.sl (.int .i64))))],fun x_=>kI x_⟩
def kI.G:Env:=⟨9,tab,[(95,Jq.ce)],[0,1,2],[],[],[],[],jZ⟩
theorem kI.eq (x_:dens kI.ce.params):den kI.G Try.f99 kI.ce.params kI.ce.res x_=kI.ce.F x_:=by kernel_rfl
theorem kI.ok:CalleeOk Try.prog 99 kI.ce:=fn_ok (G:=kI.G) Jj mixed Try.func99 ⟨(jx Jq.ok Ja),jR,jA⟩ (m:=0) (by kernel_rfl) trivial (by kernel_rfl) kI.eq
def Jd.c208197 {ρ:Type} (t1:Int) (k_:Int→Option ρ):Option ρ:=
 br (decide (t1 < (0:Int)))
 (k_ (IntKind.i64.wrap (t1+(16:Int))))
 (k_ t1)
def Jd.c208197s:Shape:=⟨[(0,tb100),(1,tb5),(2,tb101),(4,tb105)],[(4,tb106)]⟩
def Jd.c208197x0:Shape:=Jd.c208197s
def Jd.c208197r:Ck:=Ck.of (T:=Int) Jd.c208197s (fun ρ x_ k_=>Jd.c208197 x_.2.1 k_) (fun ρ x_ r_ k_=>k_ 0 (Shape.inj Jd.c208197x0 (x_.1,r_,x_.2.2)))
def Jd.c236872 {ρ:Type} (t1:Int) (a_1:YN) (i:Int) (out:List YN) (k_:List YN→Option ρ):Option ρ:=
 br (decide (Int.tmod (IntKind.i64.wrap (i+t1)) (16:Int) < (8:Int)))
 (bnd (idx a_1.1 i) fun y=>
 bnd (inR (List.length out) (0:Int)) fun y_1=>
 bnd (okIf (decide ((0:Ty.den (Ty.int IntKind.i64))≤Int.tmod (IntKind.i64.wrap (i+t1)) (16:Int)) && decide (Int.tmod (IntKind.i64.wrap (i+t1)) (16:Int) < (↑(8:Nat):Int)))) fun y_2=>
 bnd (idx out (0:Int)) fun y_3=>
 bnd (idx y_3.1 (Int.tmod (IntKind.i64.wrap (i+t1)) (16:Int))) fun y_4=>
 k_ (List.set out (0:Nat) (List.set y_3.1 (Int.toNat (Int.tmod (IntKind.i64.wrap (i+t1)) (16:Int))) y,y_3.2)))
 (bnd (idx a_1.1 i) fun y_5=>
 bnd (W.kI y_5) fun y_6=>
 bnd (inR (List.length out) (0:Int)) fun y_7=>
 bnd (okIf (decide ((0:Ty.den (Ty.int IntKind.i64))≤IntKind.i64.wrap (Int.tmod (IntKind.i64.wrap (i+t1)) (16:Int) - (8:Int))) && decide (IntKind.i64.wrap (Int.tmod (IntKind.i64.wrap (i+t1)) (16:Int) - (8:Int)) < (↑(8:Nat):Int)))) fun y_8=>
 bnd (idx out (0:Int)) fun y_9=>
 bnd (idx y_9.1 (IntKind.i64.wrap (Int.tmod (IntKind.i64.wrap (i+t1)) (16:Int) - (8:Int)))) fun y_10=>
 k_ (List.set out (0:Nat) (List.set y_9.1 (Int.toNat (IntKind.i64.wrap (Int.tmod (IntKind.i64.wrap (i+t1)) (16:Int) - (8:Int)))) y_6,y_9.2)))
def Jd.c236872s:Shape:=⟨[(0,tb100),(1,tb5),(2,tb101),(4,tb105),(5,tb35),(6,tb5)],[(4,tb106),(5,tb106)]⟩
def Jd.c236872x0:Shape:=Jd.c236872s
def Jd.c236872r:Ck:=Ck.of (T:=List YN) Jd.c236872s (fun ρ x_ k_=>Jd.c236872 x_.2.1 x_.2.2.1 x_.2.2.2.1 x_.2.2.2.2.2.1 k_) (fun ρ x_ r_ k_=>k_ 0 (Shape.inj Jd.c236872x0 (x_.1,x_.2.1,x_.2.2.1,x_.2.2.2.1,x_.2.2.2.2.1,r_,())))
def Jd.c100007 {ρ:Type} (t1:Int) (a_1:YN) (i:Int) (out:List YN) (k_:(Int×(List YN))⊕(Int×(List YN))→Option ρ):Option ρ:=
 br (decide (i < (8:Int)))
 (bnd (W.Jd.c236872 t1 a_1 i out some) fun y=>
 k_ (.inl ((IntKind.i64.wrap (i+(1:Int))),y)))
 (k_ (.inr (i,out)))
def Jd.c100007s:Shape:=Jd.c236872s
def Jd.c100007x0:Shape:=Jd.c236872s
def Jd.c100007r:Ck:=Ck.ofLoop (S:=Int×(List YN)) (T:=Int×(List YN)) Jd.c100007s (fun x_=>(x_.2.2.2.1,x_.2.2.2.2.2.1)) (fun ρ x_ s_ k_=>Jd.c100007 x_.2.1 x_.2.2.1 s_.1 s_.2 k_) (fun ρ x_ r_ k_=>k_ 2 (Shape.inj Jd.c100007x0 (x_.1,x_.2.1,x_.2.2.1,r_.1,x_.2.2.2.2.1,r_.2,())))
def Jd (a:YN) (t1:Int):Option YN:=
 bnd (W.Jd.c208197 (Int.tmod t1 (16:Int)) some) fun y=>
 bnd (iter (fun s↦W.Jd.c100007 y a s.1 s.2 some) ((0:Int),[(List.replicate (8:Nat) (false,[]),a.2)])) fun y_1=>
 bnd (idx y_1.2 (0:Int)) fun y_2=>
 some y_2
def Jd.ce:Go.Ql.Callee:=⟨[(.st (.pair (.ar 8 (.st (.pair .bool (.sl (.int .i64))))) (.int .i64))),(.int .i64)],[(.st (.pair (.ar 8 (.st (.pair .bool (.sl (.int .i64))))) (.int .i64)))],fun x_=>Jd x_.1 x_.2⟩
def Jd.G:Env:=⟨45,tab,[(99,kI.ce)],[0,1,2,4,5,6,7,11,19,27],[4,5,14,8000002],[],[(100007,Jd.c100007r),(236872,Jd.c236872r),(208197,Jd.c208197r)],[],jZ⟩
theorem Jd.eq (x_:dens Jd.ce.params):den Jd.G Try.f64 Jd.ce.params Jd.ce.res x_=Jd.ce.F x_:=by kernel_rfl
theorem Jd.p0:PcA Jd.G Try.f64 0:=
 JV (s:=Jd.c208197r) (by kernel_rfl) (by kernel_rfl) (jt (sh:=Jd.c208197s) (fun ρ x_ k_=>(jm jd jd)) (fun ρ x_ t k=>(by kernel_rfl)) (fun x_=>by kernel_rfl))
theorem Jd.p1:PcA Jd.G Try.f64 1:=
 Jk (s:=Jd.c100007r) (by kernel_rfl) (by kernel_rfl) (Jc (sh:=Jd.c100007s) (I:=fun x_ s_=>(x_.1,x_.2.1,x_.2.2.1,s_.1,x_.2.2.2.2.1,s_.2,())) (fun x_=>rfl) (fun ρ x_ s_ k_=>(jm (jc fun _=>jd) jd)) (fun ρ x_ t k=>(by kernel_rfl)) (fun x_ s=>by kernel_rfl))
theorem Jd.p2:PcA Jd.G Try.f64 2:=
 JV (s:=Jd.c236872r) (by kernel_rfl) (by kernel_rfl) (jt (sh:=Jd.c236872s) (fun ρ x_ k_=>(jm (jc fun _=>(jc fun _=>(jc fun _=>(jc fun _=>(jc fun _=>jd))))) (jc fun _=>(jc fun _=>(jc fun _=>(jc fun _=>(jc fun _=>(jc fun _=>jd)))))))) (fun ρ x_ t k=>(by kernel_rfl)) (fun x_=>by kernel_rfl))
theorem Jd.ok:CalleeOk Try.prog 64 Jd.ce:=fn_ok (G:=Jd.G) Jj mixed Try.func64 ⟨(jx kI.ok Ja),jR,jA⟩ (m:=3) (by kernel_rfl) ⟨⟨⟨trivial,Jd.p0⟩,Jd.p1⟩,Jd.p2⟩ (by kernel_rfl) Jd.eq
def JW.c100002 {ρ:Type} (i:Int) (a_1:List YN) (k_:(Int×(List YN))⊕(Int×(List YN))→Option ρ):Option ρ:=
 br (decide (i < (8:Int)))
 (bnd (inR (List.length a_1) (0:Int)) fun y=>
 bnd (okIf (decide ((0:Ty.den (Ty.int IntKind.i64))≤i) && decide (i < (↑(8:Nat):Int)))) fun y_1=>
 bnd (idx a_1 (0:Int)) fun y_2=>
 bnd (idx y_2.1 i) fun y_3=>
 bnd (W.kI y_3) fun y_4=>
 bnd (inR (List.length a_1) (0:Int)) fun y_5=>
 bnd (okIf (decide ((0:Ty.den (Ty.int IntKind.i64))≤i) && decide (i < (↑(8:Nat):Int)))) fun y_6=>
 bnd (idx a_1 (0:Int)) fun y_7=>
 bnd (idx y_7.1 i) fun y_8=>
 k_ (.inl ((IntKind.i64.wrap (i+(1:Int))),(List.set a_1 (0:Nat) (List.set y_7.1 (Int.toNat i) y_4,y_7.2)))))
 (k_ (.inr (i,a_1)))
def JW.c100002s:Shape:=⟨[(0,tb100),(1,tb107),(2,tb104),(3,tb5)],[(1,tb106),(2,tb106)]⟩
def JW.c100002x0:Shape:=JW.c100002s
def JW.c100002r:Ck:=Ck.ofLoop (S:=Int×(List YN)) (T:=Int×(List YN)) JW.c100002s (fun x_=>(x_.2.1,x_.2.2.1)) (fun ρ x_ s_ k_=>JW.c100002 s_.1 s_.2 k_) (fun ρ x_ r_ k_=>k_ 2 (Shape.inj JW.c100002x0 (x_.1,r_.1,r_.2,x_.2.2.2)))
def JW (a:YN):Option YN:=
 bnd (iter (fun s↦W.JW.c100002 s.1 s.2 some) ((0:Int),[a])) fun y=>
 bnd (idx y.2 (0:Int)) fun y_1=>
 some y_1
def JW.ce:Go.Ql.Callee:=⟨[(.st (.pair (.ar 8 (.st (.pair .bool (.sl (.int .i64))))) (.int .i64)))],[(.st (.pair (.ar 8 (.st (.pair .bool (.sl (.int .i64))))) (.int .i64)))],fun x_=>JW x_⟩
def JW.G:Env:=⟨17,tab,[(99,kI.ce)],[0,1,2,3,5],[1,2],[],[(100002,JW.c100002r)],[],jZ⟩
theorem JW.eq (x_:dens JW.ce.params):den JW.G Try.f66 JW.ce.params JW.ce.res x_=JW.ce.F x_:=by kernel_rfl
theorem JW.p0:PcA JW.G Try.f66 0:=
 Jk (s:=JW.c100002r) (by kernel_rfl) (by kernel_rfl) (Jc (sh:=JW.c100002s) (I:=fun x_ s_=>(x_.1,s_.1,s_.2,x_.2.2.2)) (fun x_=>rfl) (fun ρ x_ s_ k_=>(jm (jc fun _=>(jc fun _=>(jc fun _=>(jc fun _=>(jc fun _=>(jc fun _=>(jc fun _=>(jc fun _=>(jc fun _=>jd))))))))) jd)) (fun ρ x_ t k=>(by kernel_rfl)) (fun x_ s=>by kernel_rfl))
theorem JW.ok:CalleeOk Try.prog 66 JW.ce:=fn_ok (G:=JW.G) Jj mixed Try.func66 ⟨(jx kI.ok Ja),jR,jA⟩ (m:=1) (by kernel_rfl) ⟨trivial,JW.p0⟩ (by kernel_rfl) JW.eq
def ke.c1 {ρ:Type} (a_1:YN) (b_1:YN) (t4:List YN) (k_:List YN→Option ρ):Option ρ:=
 bnd (W.JW b_1) fun y=>
 bnd (W.Jw a_1 y) fun y_1=>
 bnd (idx t4 (0:Int)) fun y_2=>
 k_ (List.set t4 (0:Nat) y_1)
def ke.c1s:Shape:=⟨[(0,tb100),(1,tb100),(2,tb101),(3,tb101),(4,tb105)],[(4,tb106)]⟩
def ke.c1x0:Shape:=ke.c1s
def ke.c1r:Ck:=Ck.of (T:=List YN) ke.c1s (fun ρ x_ k_=>ke.c1 x_.2.2.1 x_.2.2.2.1 x_.2.2.2.2.1 k_) (fun ρ x_ r_ k_=>k_ 0 (Shape.inj ke.c1x0 (x_.1,x_.2.1,x_.2.2.1,x_.2.2.2.1,r_,())))
def ke (a:YN) (b:YN):Option YN:=
 bnd (W.ke.c1 a b [(List.replicate (8:Nat) (false,[]),(0:Int))] some) fun y=>
 bnd (idx y (0:Int)) fun y_1=>
 some y_1
def ke.ce:Go.Ql.Callee:=⟨[(.st (.pair (.ar 8 (.st (.pair .bool (.sl (.int .i64))))) (.int .i64))),(.st (.pair (.ar 8 (.st (.pair .bool (.sl (.int .i64))))) (.int .i64)))],[(.st (.pair (.ar 8 (.st (.pair .bool (.sl (.int .i64))))) (.int .i64)))],fun x_=>ke x_.1 x_.2⟩
def ke.G:Env:=⟨9,tab,[(66,JW.ce),(62,Jw.ce)],[0,1,2,3,4],[4,8000002,8000003],[(1,[⟨[],[],[6,7],[]⟩,⟨[],[],[5],[]⟩,⟨[1],[],[5],[]⟩,⟨[0,2,1],[],[],[]⟩,⟨[3,0,2,1],[4],[],[]⟩])],[(1,ke.c1r)],[],jZ⟩
theorem ke.eq (x_:dens ke.ce.params):den ke.G Try.f100 ke.ce.params ke.ce.res x_=ke.ce.F x_:=by kernel_rfl
theorem ke.p0:PcA ke.G Try.f100 0:=
 ju (s:=ke.c1r) (by kernel_rfl) (by kernel_rfl) (jt (sh:=ke.c1s) (fun ρ x_ k_=>(jc fun _=>(jc fun _=>(jc fun _=>jd)))) (fun ρ x_ t k=>(by kernel_rfl)) (fun x_=>by kernel_rfl))
theorem ke.ok:CalleeOk Try.prog 100 ke.ce:=fn_ok (G:=ke.G) Jj mixed Try.func100 ⟨(jx JW.ok (jx Jw.ok Ja)),jR,jA⟩ (m:=1) (by kernel_rfl) ⟨trivial,ke.p0⟩ (by kernel_rfl) ke.eq
def JY.c1 {ρ:Type} (a_1:YN) (k_:List YN→Option ρ):Option ρ:=
 bnd (W.Jd a_1 (2:Int)) fun y=>
 bnd (W.Jd a_1 (6:Int)) fun y_1=>
 bnd (W.ke y y_1) fun y_2=>
 k_ [y_2]
def JY.c1s:Shape:=⟨[(0,tb100),(1,tb101),(2,tb104)],[(2,tb106)]⟩
def JY.c1x0:Shape:=⟨[(0,tb100),(1,tb101),(2,tb104),(3,tb108)],[(2,tb106),(3,tb106)]⟩
def JY.c1r:Ck:=Ck.of (T:=List YN) JY.c1s (fun ρ x_ k_=>JY.c1 x_.2.1 k_) (fun ρ x_ r_ k_=>k_ 0 (Shape.inj JY.c1x0 (x_.1,x_.2.1,x_.2.2.1,r_,())))
def JY (a:YN):Option YN:=
 bnd (W.JY.c1 a some) fun y=>
 bnd (idx y (0:Int)) fun y_1=>
 bnd (W.Jn y_1) fun y_2=>
 br y_2
 (bnd (idx y (0:Int)) fun y_3=>
 some y_3)
 (bnd (inR (List.length y) (0:Int)) fun y_4=>
 bnd (idx y (0:Int)) fun y_5=>
 bnd (inR (List.length y) (0:Int)) fun y_6=>
 bnd (idx y (0:Int)) fun y_7=>
 bnd (idx (List.set y (0:Nat) (y_7.1,IntKind.i64.wrap (y_5.2+(1:Int)))) (0:Int)) fun y_8=>
 bnd (W.jK y_8) fun y_9=>
 some y_9)
def JY.ce:Go.Ql.Callee:=⟨[(.st (.pair (.ar 8 (.st (.pair .bool (.sl (.int .i64))))) (.int .i64)))],[(.st (.pair (.ar 8 (.st (.pair .bool (.sl (.int .i64))))) (.int .i64)))],fun x_=>JY x_⟩
def JY.G:Env:=⟨18,tab,[(64,Jd.ce),(100,ke.ce),(48,Jn.ce),(98,jK.ce)],[0,1,2,3,10],[2,3,8000001],[(1,[⟨[],[],[6,3],[3]⟩,⟨[0],[],[6,3],[3]⟩,⟨[],[],[4,5,3],[3]⟩,⟨[2,1,0],[],[3],[3]⟩,⟨[1,0,3,2],[],[3],[3]⟩,⟨[],[3],[4,5,6,7,8],[]⟩,⟨[5,4,1,0,3,2],[3],[],[]⟩])],[(1,JY.c1r)],[],jZ⟩
theorem JY.eq (x_:dens JY.ce.params):den JY.G Try.f65 JY.ce.params JY.ce.res x_=JY.ce.F x_:=by kernel_rfl
theorem JY.p0:PcA JY.G Try.f65 0:=
 ju (s:=JY.c1r) (by kernel_rfl) (by kernel_rfl) (jt (sh:=JY.c1s) (fun ρ x_ k_=>(jc fun _=>(jc fun _=>(jc fun _=>jd)))) (fun ρ x_ t k=>(by kernel_rfl)) (fun x_=>by kernel_rfl))
theorem JY.ok:CalleeOk Try.prog 65 JY.ce:=fn_ok (G:=JY.G) Jj mixed Try.func65 ⟨(jx Jd.ok (jx ke.ok (jx Jn.ok (jx jK.ok Ja)))),jR,jA⟩ (m:=1) (by kernel_rfl) ⟨trivial,JY.p0⟩ (by kernel_rfl) JY.eq
abbrev tb109:SD:=.one (.val (.sl (.st (.pair (.ar 8 (.st (.pair .bool (.sl (.int .i64))))) (.int .i64)))))
abbrev tb110:SD:=.one (.aptr 8 0)
def jv.c7 {ρ:Type} (v:List YN) (x:Int) (t11:List YN) (k_:List YN→Option ρ):Option ρ:=
 bnd (inR (List.length t11) x) fun y=>
 bnd (idx t11 x) fun y_1=>
 bnd (idx v x) fun y_2=>
 bnd (W.Jw y_1 y_2) fun y_3=>
 bnd (inR (List.length t11) x) fun y_4=>
 bnd (idx t11 x) fun y_5=>
 k_ (List.set t11 (Int.toNat x) y_3)
def jv.c7s:Shape:=⟨[(0,tb109),(1,tb25),(3,tb12),(4,tb109),(5,tb86),(6,tb5)],[(3,tb26),(11,tb106)]⟩
def jv.c7x0:Shape:=jv.c7s
def jv.c7r:Ck:=Ck.of (T:=List YN) jv.c7s (fun ρ x_ k_=>jv.c7 x_.1 x_.2.2.2.1 x_.2.2.2.2.2.2.2.2.2.2.1 k_) (fun ρ x_ r_ k_=>k_ 0 (Shape.inj jv.c7x0 (x_.1,x_.2.1,x_.2.2.1,x_.2.2.2.1,x_.2.2.2.2.1,x_.2.2.2.2.2.1,x_.2.2.2.2.2.2.1,x_.2.2.2.2.2.2.2.1,x_.2.2.2.2.2.2.2.2.1,x_.2.2.2.2.2.2.2.2.2.1,r_,())))
def jv.c9 {ρ:Type} (x:Int) (o0:Int) (o3:Int) (k_:Bool→Option ρ):Option ρ:=
 br (o0 == (1:Int))
 (k_ true)
 (br (o0 == (4:Int))
 (bnd (W.kp x o3) fun y=>
 k_ (y == (1:Int)))
 (k_ false))
def jv.c9s:Shape:=⟨[(0,tb109),(1,tb25),(3,tb12),(4,tb109),(5,tb86),(6,tb5),(7,tb5)],[(3,tb26),(11,tb106)]⟩
def jv.c9x0:Shape:=⟨[(0,tb109),(1,tb25),(3,tb12),(4,tb109),(5,tb86),(6,tb5),(7,tb5),(59,tb7)],[(3,tb26),(11,tb106)]⟩
def jv.c9r:Ck:=Ck.of (T:=Bool) jv.c9s (fun ρ x_ k_=>jv.c9 x_.2.2.2.1 x_.2.2.2.2.2.1 x_.2.2.2.2.2.2.2.2.1 k_) (fun ρ x_ r_ k_=>k_ 0 (Shape.inj jv.c9x0 (x_.1,x_.2.1,x_.2.2.1,x_.2.2.2.1,x_.2.2.2.2.1,r_,x_.2.2.2.2.2)))
def jv.c10 {ρ:Type} (v:List YN) (x:Int) (o1:Int) (t11:List YN) (k_:List YN→Option ρ):Option ρ:=
 bnd (idx v x) fun y=>
 bnd (W.Jd y o1) fun y_1=>
 bnd (inR (List.length t11) x) fun y_2=>
 bnd (idx t11 x) fun y_3=>
 k_ (List.set t11 (Int.toNat x) y_1)
def jv.c10s:Shape:=jv.c9s
def jv.c10x0:Shape:=jv.c9s
def jv.c10r:Ck:=Ck.of (T:=List YN) jv.c10s (fun ρ x_ k_=>jv.c10 x_.1 x_.2.2.2.1 x_.2.2.2.2.2.2.1 x_.2.2.2.2.2.2.2.2.2.2.2.1 k_) (fun ρ x_ r_ k_=>k_ 0 (Shape.inj jv.c10x0 (x_.1,x_.2.1,x_.2.2.1,x_.2.2.2.1,x_.2.2.2.2.1,x_.2.2.2.2.2.1,x_.2.2.2.2.2.2.1,x_.2.2.2.2.2.2.2.1,x_.2.2.2.2.2.2.2.2.1,x_.2.2.2.2.2.2.2.2.2.1,x_.2.2.2.2.2.2.2.2.2.2.1,r_,())))
def jv.c16 {ρ:Type} (other:Int) (half:List YN) (t11:List YN) (k_:List YN→Option ρ):Option ρ:=
 bnd (inR (List.length t11) other) fun y=>
 bnd (idx t11 other) fun y_1=>
 bnd (idx half (0:Int)) fun y_2=>
 bnd (W.Jw y_1 y_2) fun y_3=>
 bnd (inR (List.length t11) other) fun y_4=>
 bnd (idx t11 other) fun y_5=>
 k_ (List.set t11 (Int.toNat other) y_3)
def jv.c16s:Shape:=⟨[(0,tb109),(1,tb25),(3,tb12),(4,tb109),(5,tb86),(6,tb5),(7,tb5),(8,tb110)],[(3,tb26),(8,tb106),(11,tb106)]⟩
def jv.c16x0:Shape:=jv.c16s
def jv.c16r:Ck:=Ck.of (T:=List YN) jv.c16s (fun ρ x_ k_=>jv.c16 x_.2.2.2.2.1 x_.2.2.2.2.2.2.2.2.2.2.2.1 x_.2.2.2.2.2.2.2.2.2.2.2.2.1 k_) (fun ρ x_ r_ k_=>k_ 0 (Shape.inj jv.c16x0 (x_.1,x_.2.1,x_.2.2.1,x_.2.2.2.1,x_.2.2.2.2.1,x_.2.2.2.2.2.1,x_.2.2.2.2.2.2.1,x_.2.2.2.2.2.2.2.1,x_.2.2.2.2.2.2.2.2.1,x_.2.2.2.2.2.2.2.2.2.1,x_.2.2.2.2.2.2.2.2.2.2.1,x_.2.2.2.2.2.2.2.2.2.2.2.1,r_,())))
def jv.c269637 {ρ:Type} (x:Int) (o3:Int) (half:List YN) (k_:List YN→Option ρ):Option ρ:=
 bnd (W.kp x o3) fun y=>
 br (y == (1:Int))
 (bnd (idx half (0:Int)) fun y_1=>
 bnd (W.JW y_1) fun y_2=>
 bnd (idx half (0:Int)) fun y_3=>
 k_ (List.set half (0:Nat) y_2))
 (k_ half)
def jv.c269637s:Shape:=jv.c16s
def jv.c269637x0:Shape:=jv.c16s
def jv.c269637r:Ck:=Ck.of (T:=List YN) jv.c269637s (fun ρ x_ k_=>jv.c269637 x_.2.2.2.1 x_.2.2.2.2.2.2.2.2.1 x_.2.2.2.2.2.2.2.2.2.2.2.1 k_) (fun ρ x_ r_ k_=>k_ 0 (Shape.inj jv.c269637x0 (x_.1,x_.2.1,x_.2.2.1,x_.2.2.2.1,x_.2.2.2.2.1,x_.2.2.2.2.2.1,x_.2.2.2.2.2.2.1,x_.2.2.2.2.2.2.2.1,x_.2.2.2.2.2.2.2.2.1,x_.2.2.2.2.2.2.2.2.2.1,x_.2.2.2.2.2.2.2.2.2.2.1,r_,x_.2.2.2.2.2.2.2.2.2.2.2.2)))
def jv.c19 {ρ:Type} (x:Int) (half:List YN) (t11:List YN) (k_:List YN→Option ρ):Option ρ:=
 bnd (inR (List.length t11) x) fun y=>
 bnd (idx t11 x) fun y_1=>
 bnd (idx half (0:Int)) fun y_2=>
 bnd (W.Jw y_1 y_2) fun y_3=>
 bnd (inR (List.length t11) x) fun y_4=>
 bnd (idx t11 x) fun y_5=>
 k_ (List.set t11 (Int.toNat x) y_3)
def jv.c19s:Shape:=jv.c16s
def jv.c19x0:Shape:=jv.c16s
def jv.c19r:Ck:=Ck.of (T:=List YN) jv.c19s (fun ρ x_ k_=>jv.c19 x_.2.2.2.1 x_.2.2.2.2.2.2.2.2.2.2.2.1 x_.2.2.2.2.2.2.2.2.2.2.2.2.1 k_) (fun ρ x_ r_ k_=>k_ 0 (Shape.inj jv.c19x0 (x_.1,x_.2.1,x_.2.2.1,x_.2.2.2.1,x_.2.2.2.2.1,x_.2.2.2.2.2.1,x_.2.2.2.2.2.2.1,x_.2.2.2.2.2.2.2.1,x_.2.2.2.2.2.2.2.2.1,x_.2.2.2.2.2.2.2.2.2.1,x_.2.2.2.2.2.2.2.2.2.2.1,x_.2.2.2.2.2.2.2.2.2.2.2.1,r_,())))
def jv.c220520 {ρ:Type} (v:List YN) (x:Int) (o0:Int) (o1:Int) (o2:List Int) (o3:Int) (t11:List YN) (k_:List YN→Option ρ):Option ρ:=
 bnd (idx v x) fun y=>
 bnd (W.Jn y) fun y_1=>
 br y_1
 (k_ t11)
 (bnd (W.JG x o2) fun y_2=>
 br (!y_2)
 (bnd (W.jv.c7 v x t11 some) fun y_3=>
 k_ y_3)
 (bnd (okIf (decide ((0:Int)≤o3))) fun y_4=>
 bnd (W.jv.c9 x o0 o3 some) fun y_5=>
 br y_5
 (bnd (W.jv.c10 v x o1 t11 some) fun y_6=>
 k_ y_6)
 (br (o0 == (4:Int))
 (bnd (idx v x) fun y_7=>
 bnd (inR (List.length t11) x) fun y_8=>
 bnd (idx t11 x) fun y_9=>
 k_ (List.set t11 (Int.toNat x) y_7))
 (br (o0 == (2:Int))
 (bnd (idx v x) fun y_10=>
 bnd (inR (List.length t11) (ibits BinOp.xor IntKind.i64 x (IntKind.i64.wrap ((1:Int)*(2:Int) ^ Min.min (Int.toNat o3) (64:Nat))))) fun y_11=>
 bnd (idx t11 (ibits BinOp.xor IntKind.i64 x (IntKind.i64.wrap ((1:Int)*(2:Int) ^ Min.min (Int.toNat o3) (64:Nat))))) fun y_12=>
 k_ (List.set t11 (Int.toNat (ibits BinOp.xor IntKind.i64 x (IntKind.i64.wrap ((1:Int)*(2:Int) ^ Min.min (Int.toNat o3) (64:Nat))))) y_10))
 (bnd (idx v x) fun y_13=>
 bnd (W.JY y_13) fun y_14=>
 bnd (W.jv.c16 (ibits BinOp.xor IntKind.i64 x (IntKind.i64.wrap ((1:Int)*(2:Int) ^ Min.min (Int.toNat o3) (64:Nat)))) [y_14] t11 some) fun y_15=>
 bnd (W.jv.c269637 x o3 [y_14] some) fun y_16=>
 bnd (W.jv.c19 x y_16 y_15 some) fun y_17=>
 k_ y_17)))))
def jv.c220520s:Shape:=jv.c7s
def jv.c220520x0:Shape:=jv.c7s
def jv.c220520r:Ck:=Ck.of (T:=List YN) jv.c220520s (fun ρ x_ k_=>jv.c220520 x_.1 x_.2.2.2.1 x_.2.2.2.2.1 x_.2.2.2.2.2.1 x_.2.2.2.2.2.2.1 x_.2.2.2.2.2.2.2.1 x_.2.2.2.2.2.2.2.2.2.2.1 k_) (fun ρ x_ r_ k_=>k_ 0 (Shape.inj jv.c220520x0 (x_.1,x_.2.1,x_.2.2.1,x_.2.2.2.1,x_.2.2.2.2.1,x_.2.2.2.2.2.1,x_.2.2.2.2.2.2.1,x_.2.2.2.2.2.2.2.1,x_.2.2.2.2.2.2.2.2.1,x_.2.2.2.2.2.2.2.2.2.1,r_,())))
def jv.c100003 {ρ:Type} (v:List YN) (x:Int) (o0:Int) (o1:Int) (o2:List Int) (o3:Int) (t11:List YN) (k_:(Int×(List YN))⊕(Int×(List YN))→Option ρ):Option ρ:=
 br (decide (x < (↑(List.length v):Int)))
 (bnd (W.jv.c220520 v x o0 o1 o2 o3 t11 some) fun y=>
 k_ (.inl ((IntKind.i64.wrap (x+(1:Int))),y)))
 (k_ (.inr (x,t11)))
def jv.c100003s:Shape:=jv.c7s
def jv.c100003x0:Shape:=jv.c7s
def jv.c100003r:Ck:=Ck.ofLoop (S:=Int×(List YN)) (T:=Int×(List YN)) jv.c100003s (fun x_=>(x_.2.2.2.1,x_.2.2.2.2.2.2.2.2.2.2.1)) (fun ρ x_ s_ k_=>jv.c100003 x_.1 s_.1 x_.2.2.2.2.1 x_.2.2.2.2.2.1 x_.2.2.2.2.2.2.1 x_.2.2.2.2.2.2.2.1 s_.2 k_) (fun ρ x_ r_ k_=>k_ 2 (Shape.inj jv.c100003x0 (x_.1,x_.2.1,x_.2.2.1,r_.1,x_.2.2.2.2.1,x_.2.2.2.2.2.1,x_.2.2.2.2.2.2.1,x_.2.2.2.2.2.2.2.1,x_.2.2.2.2.2.2.2.2.1,x_.2.2.2.2.2.2.2.2.2.1,r_.2,())))
def jv (v:List YN) (o:YO):Option (List YN):=
 bnd (okIf (decide ((0:Int)≤(↑(List.length v):Int)) && decide ((↑(List.length v):Int)≤(↑(List.length v):Int)) && decide ((↑(List.length v):Int)*(↑(264:Nat):Int)≤(140737488355328:Int)) && decide ((↑(List.length v):Int)≤(140737488355328:Int)))) fun y=>
 bnd (iter (fun s↦W.jv.c100003 v s.1 o.1 o.2.1 o.2.2.1 o.2.2.2.1 s.2 some) ((0:Int),List.replicate (Int.toNat (↑(List.length v):Int)) (List.replicate (8:Nat) (false,[]),(0:Int)))) fun y_1=>
 some y_1.2
def jv.ce:Go.Ql.Callee:=⟨[(.sl (.st (.pair (.ar 8 (.st (.pair .bool (.sl (.int .i64))))) (.int .i64)))),(.st (.pair (.int .i64) (.pair (.int .i64) (.pair (.sl (.int .i64)) (.pair (.int .i64) (.pair (.int .i64) (.sl (.int .i64))))))))],[(.sl (.st (.pair (.ar 8 (.st (.pair .bool (.sl (.int .i64))))) (.int .i64))))],fun x_=>jv x_.1 x_.2⟩
def jv.G:Env:=⟨121,tab,[(48,Jn.ce),(61,JG.ce),(62,Jw.ce),(63,kp.ce),(64,Jd.ce),(65,JY.ce),(66,JW.ce)],[0,1,3,4,5,6,7,8,15,22,27,59,72,82,108],[8,11],[(19,[⟨[],[],[112,113,114,115,116,117,118],[]⟩,⟨[],[],[111,113,114,115,116,117,118],[]⟩,⟨[],[],[111,112,114,117],[]⟩,⟨[],[],[111,112,113,117],[]⟩,⟨[2,3],[],[111,112,117],[]⟩,⟨[4,2,3],[],[111,112,117],[]⟩,⟨[],[],[111,112,113,114,115,116],[]⟩,⟨[5,4,2,3,6],[],[111,112],[]⟩,⟨[0,1,2,3,4,5,6,7],[],[],[]⟩,⟨[8,0,1,2,3,4,5,6,7],[11],[],[]⟩]),
 (16,[⟨[],[],[96,97,98,99,100,101,102],[]⟩,⟨[],[],[95,97,98,99,100,101,102],[]⟩,⟨[],[],[95,96,98,101],[]⟩,⟨[],[],[95,96,97,101],[]⟩,⟨[2,3],[],[95,96,101],[]⟩,⟨[4,2,3],[],[95,96,101],[]⟩,⟨[],[],[95,96,97,98,99,100],[]⟩,⟨[5,4,2,3,6],[],[95,96],[]⟩,⟨[0,1,2,3,4,5,6,7],[],[],[]⟩,⟨[8,0,1,2,3,4,5,6,7],[11],[],[]⟩]),
 (10,[⟨[],[],[61,62,63,64,65,66,67,68],[]⟩,⟨[],[],[60,62,63,64,65,66,67,68],[]⟩,⟨[],[],[60,61,63,66,67],[]⟩,⟨[],[],[60,61,62,66,67],[]⟩,⟨[2,3],[],[60,61,66,67],[]⟩,⟨[4,2,3],[],[60,61,66,67],[]⟩,⟨[],[],[60,61,62,63,64,65],[]⟩,⟨[6],[],[60,61,62,63,64,65],[]⟩,⟨[5,4,2,3,7,6],[],[60,61],[]⟩,⟨[0,1,2,3,4,5,6,7,8],[],[],[]⟩,⟨[9,0,1,2,3,4,5,6,7,8],[11],[],[]⟩]),
 (7,[⟨[],[],[29,30,31,32,33,34,35,36,37,38],[]⟩,⟨[],[],[28,30,31,32,33,34,35,36,37,38],[]⟩,⟨[],[],[28,29,31,34,35,36,37],[]⟩,⟨[],[],[28,29,30,34,35,36,37],[]⟩,⟨[2,3],[],[28,29,34,35,36,37],[]⟩,⟨[4,2,3],[],[28,29,34,35,36,37],[]⟩,⟨[],[],[28,29,30,31,32,33,35],[]⟩,⟨[],[],[28,29,30,31,32,33,34],[]⟩,⟨[6,7],[],[28,29,30,31,32,33],[]⟩,⟨[8,6,7],[],[28,29,30,31,32,33],[]⟩,⟨[5,4,2,3,9,8,6,7],[],[28,29],[]⟩,⟨[0,1,2,3,4,5,6,7,8,9,10],[],[],[]⟩,⟨[11,0,1,2,3,4,5,6,7,8,9,10],[11],[],[]⟩])],[(100003,jv.c100003r),(220520,jv.c220520r),(19,jv.c19r),(269637,jv.c269637r),(16,jv.c16r),(10,jv.c10r),(9,jv.c9r),(7,jv.c7r)],[],jZ⟩
theorem jv.eq (x_:dens jv.ce.params):den jv.G Try.f24 jv.ce.params jv.ce.res x_=jv.ce.F x_:=by kernel_rfl
theorem jv.p0:PcA jv.G Try.f24 0:=
 Jk (s:=jv.c100003r) (by kernel_rfl) (by kernel_rfl) (Jc (sh:=jv.c100003s) (I:=fun x_ s_=>(x_.1,x_.2.1,x_.2.2.1,s_.1,x_.2.2.2.2.1,x_.2.2.2.2.2.1,x_.2.2.2.2.2.2.1,x_.2.2.2.2.2.2.2.1,x_.2.2.2.2.2.2.2.2.1,x_.2.2.2.2.2.2.2.2.2.1,s_.2,())) (fun x_=>rfl) (fun ρ x_ s_ k_=>(jm (jc fun _=>jd) jd)) (fun ρ x_ t k=>(by kernel_rfl)) (fun x_ s=>by kernel_rfl))
theorem jv.p1:PcA jv.G Try.f24 1:=
 JV (s:=jv.c220520r) (by kernel_rfl) (by kernel_rfl) (jt (sh:=jv.c220520s) (fun ρ x_ k_=>(jc fun _=>(jc fun _=>(jm jd (jc fun _=>(jm (jc fun _=>jd) (jc fun _=>(jc fun _=>(jm (jc fun _=>jd) (jm (jc fun _=>(jc fun _=>(jc fun _=>jd))) (jm (jc fun _=>(jc fun _=>(jc fun _=>jd))) (jc fun _=>(jc fun _=>(jc fun _=>(jc fun _=>(jc fun _=>jd)))))))))))))))) (fun ρ x_ t k=>(by kernel_rfl)) (fun x_=>by kernel_rfl))
theorem jv.p2:PcA jv.G Try.f24 2:=
 ju (s:=jv.c7r) (by kernel_rfl) (by kernel_rfl) (jt (sh:=jv.c7s) (fun ρ x_ k_=>(jc fun _=>(jc fun _=>(jc fun _=>(jc fun _=>(jc fun _=>(jc fun _=>jd))))))) (fun ρ x_ t k=>(by kernel_rfl)) (fun x_=>by kernel_rfl))
theorem jv.p3:PcA jv.G Try.f24 3:=
 ju (s:=jv.c9r) (by kernel_rfl) (by kernel_rfl) (jt (sh:=jv.c9s) (fun ρ x_ k_=>(jm jd (jm (jc fun _=>jd) jd))) (fun ρ x_ t k=>(by kernel_rfl)) (fun x_=>by kernel_rfl))
theorem jv.p4:PcA jv.G Try.f24 4:=
 ju (s:=jv.c10r) (by kernel_rfl) (by kernel_rfl) (jt (sh:=jv.c10s) (fun ρ x_ k_=>(jc fun _=>(jc fun _=>(jc fun _=>(jc fun _=>jd))))) (fun ρ x_ t k=>(by kernel_rfl)) (fun x_=>by kernel_rfl))
theorem jv.p5:PcA jv.G Try.f24 5:=
 ju (s:=jv.c16r) (by kernel_rfl) (by kernel_rfl) (jt (sh:=jv.c16s) (fun ρ x_ k_=>(jc fun _=>(jc fun _=>(jc fun _=>(jc fun _=>(jc fun _=>(jc fun _=>jd))))))) (fun ρ x_ t k=>(by kernel_rfl)) (fun x_=>by kernel_rfl))
theorem jv.p6:PcA jv.G Try.f24 6:=
 JV (s:=jv.c269637r) (by kernel_rfl) (by kernel_rfl) (jt (sh:=jv.c269637s) (fun ρ x_ k_=>(jc fun _=>(jm (jc fun _=>(jc fun _=>(jc fun _=>jd))) jd))) (fun ρ x_ t k=>(by kernel_rfl)) (fun x_=>by kernel_rfl))
theorem jv.p7:PcA jv.G Try.f24 7:=
 ju (s:=jv.c19r) (by kernel_rfl) (by kernel_rfl) (jt (sh:=jv.c19s) (fun ρ x_ k_=>(jc fun _=>(jc fun _=>(jc fun _=>(jc fun _=>(jc fun _=>(jc fun _=>jd))))))) (fun ρ x_ t k=>(by kernel_rfl)) (fun x_=>by kernel_rfl))
theorem jv.ok:CalleeOk Try.prog 24 jv.ce:=fn_ok (G:=jv.G) Jj mixed Try.func24 ⟨(jx Jn.ok (jx JG.ok (jx Jw.ok (jx kp.ok (jx Jd.ok (jx JY.ok (jx JW.ok Ja))))))),jR,jA⟩ (m:=8) (by kernel_rfl) ⟨⟨⟨⟨⟨⟨⟨⟨trivial,jv.p0⟩,jv.p1⟩,jv.p2⟩,jv.p3⟩,jv.p4⟩,jv.p5⟩,jv.p6⟩,jv.p7⟩ (by kernel_rfl) jv.eq
abbrev tb111:SD:=.one (.val (.st (.pair .bool .str)))
def jG.c220501 {ρ:Type} (out:List YN) (q:Int) (p1:List UInt8) (k_:List YN→Option ρ):Option ρ:=
 bnd (idx p1 q) fun y=>
 br ((↑(UInt8.toNat y):Int) == (88:Int))
 (bnd (W.jv out ((2:Int),(0:Int),[],q,(0:Int),[])) fun y_1=>
 k_ y_1)
 (br ((↑(UInt8.toNat y):Int) == (90:Int))
 (bnd (W.jv out ((4:Int),(8:Int),[],q,(0:Int),[])) fun y_2=>
 k_ y_2)
 (br ((↑(UInt8.toNat y):Int) == (89:Int))
 (bnd (W.jv out ((4:Int),(8:Int),[],q,(0:Int),[])) fun y_3=>
 bnd (W.jv y_3 ((2:Int),(0:Int),[],q,(0:Int),[])) fun y_4=>
 bnd (W.jv y_4 ((1:Int),(4:Int),[],(0:Int),(0:Int),[])) fun y_5=>
 k_ y_5)
 (k_ out)))
def jG.c220501s:Shape:=⟨[(0,tb111),(1,tb109),(2,tb2),(4,tb109),(5,tb109),(6,tb5)],[(2,tb45)]⟩
def jG.c220501x0:Shape:=jG.c220501s
def jG.c220501r:Ck:=Ck.of (T:=List YN) jG.c220501s (fun ρ x_ k_=>jG.c220501 x_.2.2.2.1 x_.2.2.2.2.1 x_.2.2.2.2.2.2.1 k_) (fun ρ x_ r_ k_=>k_ 0 (Shape.inj jG.c220501x0 (x_.1,x_.2.1,x_.2.2.1,r_,x_.2.2.2.2)))
def jG.c100003 {ρ:Type} (out:List YN) (q:Int) (p1:List UInt8) (k_:((List YN)×Int)⊕((List YN)×Int)→Option ρ):Option ρ:=
 br (decide (q < (↑(List.length p1):Int)))
 (bnd (W.jG.c220501 out q p1 some) fun y=>
 k_ (.inl (y,(IntKind.i64.wrap (q+(1:Int))))))
 (k_ (.inr (out,q)))
def jG.c100003s:Shape:=jG.c220501s
def jG.c100003x0:Shape:=jG.c220501s
def jG.c100003r:Ck:=Ck.ofLoop (S:=(List YN)×Int) (T:=(List YN)×Int) jG.c100003s (fun x_=>(x_.2.2.2.1,x_.2.2.2.2.1)) (fun ρ x_ s_ k_=>jG.c100003 s_.1 s_.2 x_.2.2.2.2.2.2.1 k_) (fun ρ x_ r_ k_=>k_ 2 (Shape.inj jG.c100003x0 (x_.1,x_.2.1,x_.2.2.1,r_.1,r_.2,x_.2.2.2.2.2)))
def jG.c257349 {ρ:Type} (out:List YN) (p0:Bool) (k_:List YN→Option ρ):Option ρ:=
 br p0
 (bnd (W.jv out ((1:Int),(8:Int),[],(0:Int),(0:Int),[])) fun y=>
 k_ y)
 (k_ out)
def jG.c257349s:Shape:=jG.c220501s
def jG.c257349x0:Shape:=jG.c220501s
def jG.c257349r:Ck:=Ck.of (T:=List YN) jG.c257349s (fun ρ x_ k_=>jG.c257349 x_.2.2.2.1 x_.2.2.2.2.2.1 k_) (fun ρ x_ r_ k_=>k_ 0 (Shape.inj jG.c257349x0 (x_.1,x_.2.1,x_.2.2.1,r_,x_.2.2.2.2)))
def jG (p:Bool×(List UInt8)) (v:List YN):Option (List YN):=
 bnd (okIf (decide (((0:Nat)+List.length v)*(264:Nat)≤(140737488355328:Nat)) && decide ((0:Nat)+List.length v≤(140737488355328:Nat)))) fun y=>
 bnd (iter (fun s↦W.jG.c100003 s.1 s.2 p.2 some) (v,(0:Int))) fun y_1=>
 bnd (W.jG.c257349 y_1.1 p.1 some) fun y_2=>
 some y_2
def jG.ce:Go.Ql.Callee:=⟨[(.st (.pair .bool .str)),(.sl (.st (.pair (.ar 8 (.st (.pair .bool (.sl (.int .i64))))) (.int .i64))))],[(.sl (.st (.pair (.ar 8 (.st (.pair .bool (.sl (.int .i64))))) (.int .i64))))],fun x_=>jG x_.1 x_.2⟩
def jG.G:Env:=⟨51,tab,[(24,jv.ce)],[0,1,2,4,5,6,13,19,20,26,32,46],[],[],[(257349,jG.c257349r),(100003,jG.c100003r),(220501,jG.c220501r)],[],jZ⟩
theorem jG.eq (x_:dens jG.ce.params):den jG.G Try.f18 jG.ce.params jG.ce.res x_=jG.ce.F x_:=by kernel_rfl
theorem jG.p0:PcA jG.G Try.f18 0:=
 Jk (s:=jG.c100003r) (by kernel_rfl) (by kernel_rfl) (Jc (sh:=jG.c100003s) (I:=fun x_ s_=>(x_.1,x_.2.1,x_.2.2.1,s_.1,s_.2,x_.2.2.2.2.2)) (fun x_=>rfl) (fun ρ x_ s_ k_=>(jm (jc fun _=>jd) jd)) (fun ρ x_ t k=>(by kernel_rfl)) (fun x_ s=>by kernel_rfl))
theorem jG.p1:PcA jG.G Try.f18 1:=
 JV (s:=jG.c220501r) (by kernel_rfl) (by kernel_rfl) (jt (sh:=jG.c220501s) (fun ρ x_ k_=>(jc fun _=>(jm (jc fun _=>jd) (jm (jc fun _=>jd) (jm (jc fun _=>(jc fun _=>(jc fun _=>jd))) jd))))) (fun ρ x_ t k=>(by kernel_rfl)) (fun x_=>by kernel_rfl))
theorem jG.p2:PcA jG.G Try.f18 2:=
 JV (s:=jG.c257349r) (by kernel_rfl) (by kernel_rfl) (jt (sh:=jG.c257349s) (fun ρ x_ k_=>(jm (jc fun _=>jd) jd)) (fun ρ x_ t k=>(by kernel_rfl)) (fun x_=>by kernel_rfl))
theorem jG.ok:CalleeOk Try.prog 18 jG.ce:=fn_ok (G:=jG.G) Jj mixed Try.func18 ⟨(jx jv.ok Ja),jR,jA⟩ (m:=3) (by kernel_rfl) ⟨⟨⟨trivial,jG.p0⟩,jG.p1⟩,jG.p2⟩ (by kernel_rfl) jG.eq
def jF.c216389 {ρ:Type} (text:List UInt8) (a0:Bool) (k_:List UInt8→Option ρ):Option ρ:=
 br a0
 (k_ (Array.toList (ByteArray.data (ByteArray.mk #[(45:UInt8)]))))
 (k_ text)
def jF.c216389s:Shape:=⟨[(0,tb102),(1,tb1),(2,tb4),(3,tb4)],[(1,tb98)]⟩
def jF.c216389x0:Shape:=jF.c216389s
def jF.c216389r:Ck:=Ck.of (T:=List UInt8) jF.c216389s (fun ρ x_ k_=>jF.c216389 x_.2.2.1 x_.2.2.2.1 k_) (fun ρ x_ r_ k_=>k_ 0 (Shape.inj jF.c216389x0 (x_.1,x_.2.1,r_,x_.2.2.2)))
def jF.c9 {ρ:Type} (i:Int) (a1:List Int) (k_:List Int→Option ρ):Option ρ:=
 bnd (idx a1 i) fun y=>
 bnd (idx a1 i) fun y_1=>
 bnd (idx a1 i) fun y_2=>
 bnd (idx a1 i) fun y_3=>
 k_ ([IntKind.wrap IntKind.u8 (IntKind.i64.wrap ((48:Int)+IntKind.i64.wrap (Int.tdiv y (1000:Int)))),IntKind.wrap IntKind.u8 (IntKind.i64.wrap ((48:Int)+Int.tmod (IntKind.i64.wrap (Int.tdiv y_1 (100:Int))) (10:Int))),IntKind.wrap IntKind.u8 (IntKind.i64.wrap ((48:Int)+Int.tmod (IntKind.i64.wrap (Int.tdiv y_2 (10:Int))) (10:Int))),IntKind.wrap IntKind.u8 (IntKind.i64.wrap ((48:Int)+Int.tmod y_3 (10:Int)))])
def jF.c9s:Shape:=⟨[(0,tb102),(1,tb1),(2,tb4),(3,tb4),(4,tb5)],[(1,tb98)]⟩
def jF.c9x0:Shape:=⟨[(0,tb102),(1,tb1),(2,tb4),(3,tb4),(4,tb5),(5,tb68)],[(1,tb98)]⟩
def jF.c9r:Ck:=Ck.of (T:=List Int) jF.c9s (fun ρ x_ k_=>jF.c9 x_.2.2.2.1 x_.2.2.2.2.2.1 k_) (fun ρ x_ r_ k_=>k_ 0 (Shape.inj jF.c9x0 (x_.1,x_.2.1,x_.2.2.1,x_.2.2.2.1,r_,x_.2.2.2.2)))
def jF.c11 {ρ:Type} (i:Int) (four:List Int) (t6:Int) (a1:List Int) (k_:Bool→Option ρ):Option ρ:=
 br (i == IntKind.i64.wrap ((↑(List.length a1):Int) - (1:Int)))
 (br (decide (t6 < (3:Int)))
 (bnd (idx four t6) fun y=>
 k_ (y == (48:Int)))
 (k_ false))
 (k_ false)
def jF.c11s:Shape:=⟨[(0,tb102),(1,tb1),(2,tb4),(3,tb4),(4,tb5),(5,tb68),(6,tb5)],[(1,tb98)]⟩
def jF.c11x0:Shape:=⟨[(0,tb102),(1,tb1),(2,tb4),(3,tb4),(4,tb5),(5,tb68),(6,tb5),(72,tb7)],[(1,tb98)]⟩
def jF.c11r:Ck:=Ck.of (T:=Bool) jF.c11s (fun ρ x_ k_=>jF.c11 x_.2.2.2.1 x_.2.2.2.2.1 x_.2.2.2.2.2.1 x_.2.2.2.2.2.2.2.1 k_) (fun ρ x_ r_ k_=>k_ 0 (Shape.inj jF.c11x0 (x_.1,x_.2.1,x_.2.2.1,x_.2.2.2.1,x_.2.2.2.2.1,x_.2.2.2.2.2.1,r_,x_.2.2.2.2.2.2)))
def jF.c100011 {ρ:Type} (i:Int) (four:List Int) (t6:Int) (a1:List Int) (k_:Int⊕Int→Option ρ):Option ρ:=
 bnd (W.jF.c11 i four t6 a1 some) fun y=>
 br y
 (k_ (.inl (IntKind.i64.wrap (t6+(1:Int)))))
 (k_ (.inr t6))
def jF.c100011s:Shape:=jF.c11s
def jF.c100011x0:Shape:=jF.c11s
def jF.c100011r:Ck:=Ck.ofLoop (S:=Int) (T:=Int) jF.c100011s (fun x_=>x_.2.2.2.2.2.1) (fun ρ x_ s_ k_=>jF.c100011 x_.2.2.2.1 x_.2.2.2.2.1 s_ x_.2.2.2.2.2.2.2.1 k_) (fun ρ x_ r_ k_=>k_ 4 (Shape.inj jF.c100011x0 (x_.1,x_.2.1,x_.2.2.1,x_.2.2.2.1,x_.2.2.2.2.1,r_,x_.2.2.2.2.2.2)))
def jF.c100007 {ρ:Type} (text:List UInt8) (i:Int) (a1:List Int) (k_:((List UInt8)×Int)⊕((List UInt8)×Int)→Option ρ):Option ρ:=
 br (decide (i≥(0:Int)))
 (bnd (W.jF.c9 i a1 some) fun y=>
 bnd (iter (fun s↦W.jF.c100011 i y s a1 some) (0:Int)) fun y_1=>
 bnd (okIf (decide ((0:Int)≤y_1) && decide (y_1≤(↑(List.length y):Int)) && decide ((↑(List.length y):Int)≤(↑(List.length y):Int)))) fun y_2=>
 bnd (okIf (decide (List.length text+List.length (List.map (fun n↦UInt8.ofNat (Int.toNat n)) (List.drop (Int.toNat y_1) (List.take (Int.toNat (↑(List.length y):Int)) y)))≤(9223372036854775807:Nat)))) fun y_3=>
 k_ (.inl ((text++List.map (fun n↦UInt8.ofNat (Int.toNat n)) (List.drop (Int.toNat y_1) (List.take (Int.toNat (↑(List.length y):Int)) y))),(IntKind.i64.wrap (i - (1:Int))))))
 (k_ (.inr (text,i)))
def jF.c100007s:Shape:=jF.c9s
def jF.c100007x0:Shape:=jF.c9s
def jF.c100007r:Ck:=Ck.ofLoop (S:=(List UInt8)×Int) (T:=(List UInt8)×Int) jF.c100007s (fun x_=>(x_.2.2.1,x_.2.2.2.1)) (fun ρ x_ s_ k_=>jF.c100007 s_.1 s_.2 x_.2.2.2.2.2.1 k_) (fun ρ x_ r_ k_=>k_ 2 (Shape.inj jF.c100007x0 (x_.1,x_.2.1,r_.1,r_.2,x_.2.2.2.2)))
def jF (a:YD):Option (List UInt8):=
 br ((↑(List.length a.2):Int) == (0:Int))
 (some (Array.toList (ByteArray.data (ByteArray.mk #[(48:UInt8)]))))
 (bnd (W.jF.c216389 (Array.toList (ByteArray.data (ByteArray.mk #[]))) a.1 some) fun y=>
 bnd (iter (fun s↦W.jF.c100007 s.1 s.2 a.2 some) (y,IntKind.i64.wrap ((↑(List.length a.2):Int) - (1:Int)))) fun y_1=>
 some y_1.1)
def jF.ce:Go.Ql.Callee:=⟨[(.st (.pair .bool (.sl (.int .i64))))],[.str],fun x_=>jF x_⟩
def jF.G:Env:=⟨82,tab,[],[0,1,2,3,4,5,6,10,12,18,72],[],[(9,[⟨[],[],[23,29,30,31,32,33,34,35,36,37,38,39,40,41,42,43,44,45,46,47,48,49,50,51,52,53,54],[]⟩,⟨[0],[],[23,29,30,31,32,33,34,35,36,37,38,39,40,41,42,43,44,45,46,47,48,49,50,51,52,53,54],[]⟩,⟨[],[],[21,22,29,30,31,32,33,34,35,36,37,38,39,40,41,42,43,44,45,46,47,48,49,50,51,52,53,54],[]⟩,⟨[1,0,2],[],[29,30,31,32,33,34,35,36,37,38,39,40,41,42,43,44,45,46,47,48,49,50,51,52,53,54],[]⟩,⟨[3,1,0,2],[],[29,30,31,32,33,34,35,36,37,38,39,40,41,42,43,44,45,46,47,48,49,50,51,52,53,54],[]⟩,⟨[4,3,1,0,2],[],[29,30,31,32,33,34,35,36,37,38,39,40,41,42,43,44,45,46,47,48,49,50,51,52,53,54],[]⟩,⟨[5,4,3,1,0,2],[],[29,30,31,32,33,34,35,36,37,38,39,40,41,42,43,44,45,46,47,48,49,50,51,52,53,54],[]⟩,⟨[6,5,4,3,1,0,2],[],[29,30,31,32,33,34,35,36,37,38,39,40,41,42,43,44,45,46,47,48,49,50,51,52,53,54],[]⟩,⟨[],[],[21,22,23,24,25,26,27,28,31,38,39,40,41,42,43,44,45,46,47,48,49,50,51,52,53,54],[]⟩,⟨[8],[],[21,22,23,24,25,26,27,28,31,38,39,40,41,42,43,44,45,46,47,48,49,50,51,52,53,54],[]⟩,⟨[],[],[21,22,23,24,25,26,27,28,29,30,38,39,40,41,42,43,44,45,46,47,48,49,50,51,52,53,54],[]⟩,⟨[9,8,10],[],[21,22,23,24,25,26,27,28,38,39,40,41,42,43,44,45,46,47,48,49,50,51,52,53,54],[]⟩,⟨[11,9,8,10],[],[21,22,23,24,25,26,27,28,38,39,40,41,42,43,44,45,46,47,48,49,50,51,52,53,54],[]⟩,⟨[12,11,9,8,10],[],[21,22,23,24,25,26,27,28,38,39,40,41,42,43,44,45,46,47,48,49,50,51,52,53,54],[]⟩,⟨[13,12,11,9,8,10],[],[21,22,23,24,25,26,27,28,38,39,40,41,42,43,44,45,46,47,48,49,50,51,52,53,54],[]⟩,⟨[14,13,12,11,9,8,10],[],[21,22,23,24,25,26,27,28,38,39,40,41,42,43,44,45,46,47,48,49,50,51,52,53,54],[]⟩,⟨[15,14,13,12,11,9,8,10],[],[21,22,23,24,25,26,27,28,38,39,40,41,42,43,44,45,46,47,48,49,50,51,52,53,54],[]⟩,⟨[],[],[21,22,23,24,25,26,27,28,29,30,31,32,33,34,35,36,37,40,47,48,49,50,51,52,53,54],[]⟩,⟨[17],[],[21,22,23,24,25,26,27,28,29,30,31,32,33,34,35,36,37,40,47,48,49,50,51,52,53,54],[]⟩,⟨[],[],[21,22,23,24,25,26,27,28,29,30,31,32,33,34,35,36,37,38,39,47,48,49,50,51,52,53,54],[]⟩,⟨[18,17,19],[],[21,22,23,24,25,26,27,28,29,30,31,32,33,34,35,36,37,47,48,49,50,51,52,53,54],[]⟩,⟨[20,18,17,19],[],[21,22,23,24,25,26,27,28,29,30,31,32,33,34,35,36,37,47,48,49,50,51,52,53,54],[]⟩,⟨[21,20,18,17,19],[],[21,22,23,24,25,26,27,28,29,30,31,32,33,34,35,36,37,47,48,49,50,51,52,53,54],[]⟩,⟨[22,21,20,18,17,19],[],[21,22,23,24,25,26,27,28,29,30,31,32,33,34,35,36,37,47,48,49,50,51,52,53,54],[]⟩,⟨[23,22,21,20,18,17,19],[],[21,22,23,24,25,26,27,28,29,30,31,32,33,34,35,36,37,47,48,49,50,51,52,53,54],[]⟩,⟨[24,23,22,21,20,18,17,19],[],[21,22,23,24,25,26,27,28,29,30,31,32,33,34,35,36,37,47,48,49,50,51,52,53,54],[]⟩,⟨[],[],[21,22,23,24,25,26,27,28,29,30,31,32,33,34,35,36,37,38,39,40,41,42,43,44,45,46,49],[]⟩,⟨[26],[],[21,22,23,24,25,26,27,28,29,30,31,32,33,34,35,36,37,38,39,40,41,42,43,44,45,46,49],[]⟩,⟨[],[],[21,22,23,24,25,26,27,28,29,30,31,32,33,34,35,36,37,38,39,40,41,42,43,44,45,46,47,48],[]⟩,⟨[27,26,28],[],[21,22,23,24,25,26,27,28,29,30,31,32,33,34,35,36,37,38,39,40,41,42,43,44,45,46],[]⟩,⟨[29,27,26,28],[],[21,22,23,24,25,26,27,28,29,30,31,32,33,34,35,36,37,38,39,40,41,42,43,44,45,46],[]⟩,⟨[30,29,27,26,28],[],[21,22,23,24,25,26,27,28,29,30,31,32,33,34,35,36,37,38,39,40,41,42,43,44,45,46],[]⟩,⟨[31,30,29,27,26,28],[],[21,22,23,24,25,26,27,28,29,30,31,32,33,34,35,36,37,38,39,40,41,42,43,44,45,46],[]⟩,⟨[32,31,30,29,27,26,28],[],[21,22,23,24,25,26,27,28,29,30,31,32,33,34,35,36,37,38,39,40,41,42,43,44,45,46],[]⟩,⟨[7,6,5,4,3,1,0,2,16,15,14,13,12,11,9,8,10,25,24,23,22,21,20,18,17,19,33,32,31,30,29,27,26,28],[55],[],[]⟩,⟨[34,7,6,5,4,3,1,0,2,16,15,14,13,12,11,9,8,10,25,24,23,22,21,20,18,17,19,33,32,31,30,29,27,26,28],[],[],[]⟩])],[(100007,jF.c100007r),(100011,jF.c100011r),(11,jF.c11r),(9,jF.c9r),(216389,jF.c216389r)],[],jZ⟩
theorem jF.eq (x_:dens jF.ce.params):den jF.G Try.f91 jF.ce.params jF.ce.res x_=jF.ce.F x_:=by kernel_rfl
theorem jF.p0:PcA jF.G Try.f91 0:=
 JV (s:=jF.c216389r) (by kernel_rfl) (by kernel_rfl) (jt (sh:=jF.c216389s) (fun ρ x_ k_=>(jm jd jd)) (fun ρ x_ t k=>(by kernel_rfl)) (fun x_=>by kernel_rfl))
theorem jF.p1:PcA jF.G Try.f91 1:=
 Jk (s:=jF.c100007r) (by kernel_rfl) (by kernel_rfl) (Jc (sh:=jF.c100007s) (I:=fun x_ s_=>(x_.1,x_.2.1,s_.1,s_.2,x_.2.2.2.2)) (fun x_=>rfl) (fun ρ x_ s_ k_=>(jm (jc fun _=>(jc fun _=>(jc fun _=>(jc fun _=>jd)))) jd)) (fun ρ x_ t k=>(by kernel_rfl)) (fun x_ s=>by kernel_rfl))
theorem jF.p2:PcA jF.G Try.f91 2:=
 ju (s:=jF.c9r) (by kernel_rfl) (by kernel_rfl) (jt (sh:=jF.c9s) (fun ρ x_ k_=>(jc fun _=>(jc fun _=>(jc fun _=>(jc fun _=>jd))))) (fun ρ x_ t k=>(by kernel_rfl)) (fun x_=>by kernel_rfl))
theorem jF.p3:PcA jF.G Try.f91 3:=
 Jk (s:=jF.c100011r) (by kernel_rfl) (by kernel_rfl) (Jc (sh:=jF.c100011s) (I:=fun x_ s_=>(x_.1,x_.2.1,x_.2.2.1,x_.2.2.2.1,x_.2.2.2.2.1,s_,x_.2.2.2.2.2.2)) (fun x_=>rfl) (fun ρ x_ s_ k_=>(jc fun _=>(jm jd jd))) (fun ρ x_ t k=>(by kernel_rfl)) (fun x_ s=>by kernel_rfl))
theorem jF.p4:PcA jF.G Try.f91 4:=
 ju (s:=jF.c11r) (by kernel_rfl) (by kernel_rfl) (jt (sh:=jF.c11s) (fun ρ x_ k_=>(jm (jm (jc fun _=>jd) jd) jd)) (fun ρ x_ t k=>(by kernel_rfl)) (fun x_=>by kernel_rfl))
theorem jF.ok:CalleeOk Try.prog 91 jF.ce:=fn_ok (G:=jF.G) Jj mixed Try.func91 ⟨Ja,jR,jA⟩ (m:=5) (by kernel_rfl) ⟨⟨⟨⟨⟨trivial,jF.p0⟩,jF.p1⟩,jF.p2⟩,jF.p3⟩,jF.p4⟩ (by kernel_rfl) jF.eq
def jX.c220486 {ρ:Type} (a_1:YN) (last:Int) (i:Int) (k_:Int→Option ρ):Option ρ:=
 bnd (idx a_1.1 i) fun y=>
 br (decide ((↑(List.length y.2):Int) > (0:Int)))
 (k_ i)
 (k_ last)
def jX.c220486s:Shape:=⟨[(0,tb100),(1,tb101),(2,tb4),(3,tb5),(4,tb5)],[]⟩
def jX.c220486x0:Shape:=jX.c220486s
def jX.c220486r:Ck:=Ck.of (T:=Int) jX.c220486s (fun ρ x_ k_=>jX.c220486 x_.2.1 x_.2.2.2.1 x_.2.2.2.2.1 k_) (fun ρ x_ r_ k_=>k_ 0 (Shape.inj jX.c220486x0 (x_.1,x_.2.1,x_.2.2.1,r_,x_.2.2.2.2)))
def jX.c100003 {ρ:Type} (a_1:YN) (last:Int) (i:Int) (k_:(Int×Int)⊕(Int×Int)→Option ρ):Option ρ:=
 br (decide (i < (8:Int)))
 (bnd (W.jX.c220486 a_1 last i some) fun y=>
 k_ (.inl (y,(IntKind.i64.wrap (i+(1:Int))))))
 (k_ (.inr (last,i)))
def jX.c100003s:Shape:=jX.c220486s
def jX.c100003x0:Shape:=jX.c220486s
def jX.c100003r:Ck:=Ck.ofLoop (S:=Int×Int) (T:=Int×Int) jX.c100003s (fun x_=>(x_.2.2.2.1,x_.2.2.2.2.1)) (fun ρ x_ s_ k_=>jX.c100003 x_.2.1 s_.1 s_.2 k_) (fun ρ x_ r_ k_=>k_ 2 (Shape.inj jX.c100003x0 (x_.1,x_.2.1,x_.2.2.1,r_.1,r_.2,())))
def jX.c100009 {ρ:Type} (a_1:YN) (last:Int) (text:List UInt8) (i_1:Int) (k_:((List UInt8)×Int)⊕((List UInt8)×Int)→Option ρ):Option ρ:=
 br (decide (i_1≤last))
 (bnd (idx a_1.1 i_1) fun y=>
 bnd (W.jF y) fun y_1=>
 bnd (okIf (decide (List.length (Array.toList (ByteArray.data (ByteArray.mk #[(44:UInt8)])))+List.length y_1≤(9223372036854775807:Nat)))) fun y_2=>
 bnd (okIf (decide (List.length text+List.length (Array.toList (ByteArray.data (ByteArray.mk #[(44:UInt8)]))++y_1)≤(9223372036854775807:Nat)))) fun y_3=>
 k_ (.inl ((text++(Array.toList (ByteArray.data (ByteArray.mk #[(44:UInt8)]))++y_1)),(IntKind.i64.wrap (i_1+(1:Int))))))
 (k_ (.inr (text,i_1)))
def jX.c100009s:Shape:=⟨[(0,tb100),(1,tb101),(2,tb4),(3,tb5),(4,tb5),(5,tb4),(6,tb5)],[]⟩
def jX.c100009x0:Shape:=jX.c100009s
def jX.c100009r:Ck:=Ck.ofLoop (S:=(List UInt8)×Int) (T:=(List UInt8)×Int) jX.c100009s (fun x_=>(x_.2.2.2.2.2.1,x_.2.2.2.2.2.2.1)) (fun ρ x_ s_ k_=>jX.c100009 x_.2.1 x_.2.2.2.1 s_.1 s_.2 k_) (fun ρ x_ r_ k_=>k_ 4 (Shape.inj jX.c100009x0 (x_.1,x_.2.1,x_.2.2.1,x_.2.2.2.1,x_.2.2.2.2.1,r_.1,r_.2,())))
def jX.c249157 {ρ:Type} (a_1:YN) (text:List UInt8) (k_:List UInt8→Option ρ):Option ρ:=
 br (decide (a_1.2 > (0:Int)))
 (bnd (W.JK a_1.2) fun y=>
 bnd (W.jF y) fun y_1=>
 bnd (okIf (decide (List.length (Array.toList (ByteArray.data (ByteArray.mk #[(47:UInt8)])))+List.length y_1≤(9223372036854775807:Nat)))) fun y_2=>
 bnd (okIf (decide (List.length text+List.length (Array.toList (ByteArray.data (ByteArray.mk #[(47:UInt8)]))++y_1)≤(9223372036854775807:Nat)))) fun y_3=>
 k_ (text++(Array.toList (ByteArray.data (ByteArray.mk #[(47:UInt8)]))++y_1)))
 (k_ text)
def jX.c249157s:Shape:=jX.c100009s
def jX.c249157x0:Shape:=jX.c100009s
def jX.c249157r:Ck:=Ck.of (T:=List UInt8) jX.c249157s (fun ρ x_ k_=>jX.c249157 x_.2.1 x_.2.2.2.2.2.1 k_) (fun ρ x_ r_ k_=>k_ 0 (Shape.inj jX.c249157x0 (x_.1,x_.2.1,x_.2.2.1,x_.2.2.2.1,x_.2.2.2.2.1,r_,x_.2.2.2.2.2.2)))
def jX (a:YN):Option (List UInt8):=
 bnd (iter (fun s↦W.jX.c100003 a s.1 s.2 some) ((0:Int),(0:Int))) fun y=>
 bnd (idx a.1 (0:Int)) fun y_1=>
 bnd (W.jF y_1) fun y_2=>
 bnd (iter (fun s↦W.jX.c100009 a y.1 s.1 s.2 some) (y_2,(1:Int))) fun y_3=>
 bnd (W.jX.c249157 a y_3.1 some) fun y_4=>
 some y_4
def jX.ce:Go.Ql.Callee:=⟨[(.st (.pair (.ar 8 (.st (.pair .bool (.sl (.int .i64))))) (.int .i64)))],[.str],fun x_=>jX x_⟩
def jX.G:Env:=⟨47,tab,[(91,jF.ce),(60,JK.ce)],[0,1,2,3,4,5,6,8,17,25,38],[8000001],[],[(249157,jX.c249157r),(100009,jX.c100009r),(100003,jX.c100003r),(220486,jX.c220486r)],[],jZ⟩
theorem jX.eq (x_:dens jX.ce.params):den jX.G Try.f50 jX.ce.params jX.ce.res x_=jX.ce.F x_:=by kernel_rfl
theorem jX.p0:PcA jX.G Try.f50 0:=
 Jk (s:=jX.c100003r) (by kernel_rfl) (by kernel_rfl) (Jc (sh:=jX.c100003s) (I:=fun x_ s_=>(x_.1,x_.2.1,x_.2.2.1,s_.1,s_.2,())) (fun x_=>rfl) (fun ρ x_ s_ k_=>(jm (jc fun _=>jd) jd)) (fun ρ x_ t k=>(by kernel_rfl)) (fun x_ s=>by kernel_rfl))
theorem jX.p1:PcA jX.G Try.f50 1:=
 JV (s:=jX.c220486r) (by kernel_rfl) (by kernel_rfl) (jt (sh:=jX.c220486s) (fun ρ x_ k_=>(jc fun _=>(jm jd jd))) (fun ρ x_ t k=>(by kernel_rfl)) (fun x_=>by kernel_rfl))
theorem jX.p2:PcA jX.G Try.f50 2:=
 Jk (s:=jX.c100009r) (by kernel_rfl) (by kernel_rfl) (Jc (sh:=jX.c100009s) (I:=fun x_ s_=>(x_.1,x_.2.1,x_.2.2.1,x_.2.2.2.1,x_.2.2.2.2.1,s_.1,s_.2,())) (fun x_=>rfl) (fun ρ x_ s_ k_=>(jm (jc fun _=>(jc fun _=>(jc fun _=>(jc fun _=>jd)))) jd)) (fun ρ x_ t k=>(by kernel_rfl)) (fun x_ s=>by kernel_rfl))
theorem jX.p3:PcA jX.G Try.f50 3:=
 JV (s:=jX.c249157r) (by kernel_rfl) (by kernel_rfl) (jt (sh:=jX.c249157s) (fun ρ x_ k_=>(jm (jc fun _=>(jc fun _=>(jc fun _=>(jc fun _=>jd)))) jd)) (fun ρ x_ t k=>(by kernel_rfl)) (fun x_=>by kernel_rfl))
theorem jX.ok:CalleeOk Try.prog 50 jX.ce:=fn_ok (G:=jX.G) Jj mixed Try.func50 ⟨(jx jF.ok (jx JK.ok Ja)),jR,jA⟩ (m:=4) (by kernel_rfl) ⟨⟨⟨⟨trivial,jX.p0⟩,jX.p1⟩,jX.p2⟩,jX.p3⟩ (by kernel_rfl) jX.eq
def JO.c100003 {ρ:Type} (v:List YN) (x:Int) (out:List (List UInt8)) (k_:(Int×(List (List UInt8)))⊕(Int×(List (List UInt8)))→Option ρ):Option ρ:=
 br (decide (x < (↑(List.length v):Int)))
 (bnd (idx v x) fun y=>
 bnd (W.jX y) fun y_1=>
 bnd (okIf (decide ((List.length out+(1:Nat))*(16:Nat)≤(140737488355328:Nat)) && decide (List.length out+(1:Nat)≤(140737488355328:Nat)))) fun y_2=>
 k_ (.inl ((IntKind.i64.wrap (x+(1:Int))),(out++[y_1]))))
 (k_ (.inr (x,out)))
def JO.c100003s:Shape:=⟨[(0,tb109),(2,tb21),(3,tb46),(4,tb5)],[(3,tb47)]⟩
def JO.c100003x0:Shape:=JO.c100003s
def JO.c100003r:Ck:=Ck.ofLoop (S:=Int×(List (List UInt8))) (T:=Int×(List (List UInt8))) JO.c100003s (fun x_=>(x_.2.2.1,x_.2.2.2.1)) (fun ρ x_ s_ k_=>JO.c100003 x_.1 s_.1 s_.2 k_) (fun ρ x_ r_ k_=>k_ 2 (Shape.inj JO.c100003x0 (x_.1,x_.2.1,r_.1,r_.2,())))
def JO (v:List YN):Option (List (List UInt8)):=
 bnd (iter (fun s↦W.JO.c100003 v s.1 s.2 some) ((0:Int),[])) fun y=>
 some y.2
def JO.ce:Go.Ql.Callee:=⟨[(.sl (.st (.pair (.ar 8 (.st (.pair .bool (.sl (.int .i64))))) (.int .i64))))],[(.sl .str)],fun x_=>JO x_⟩
def JO.G:Env:=⟨20,tab,[(50,jX.ce)],[0,2,3,4,8],[3],[],[(100003,JO.c100003r)],[],jZ⟩
theorem JO.eq (x_:dens JO.ce.params):den JO.G Try.f17 JO.ce.params JO.ce.res x_=JO.ce.F x_:=by kernel_rfl
theorem JO.p0:PcA JO.G Try.f17 0:=
 Jk (s:=JO.c100003r) (by kernel_rfl) (by kernel_rfl) (Jc (sh:=JO.c100003s) (I:=fun x_ s_=>(x_.1,x_.2.1,s_.1,s_.2,())) (fun x_=>rfl) (fun ρ x_ s_ k_=>(jm (jc fun _=>(jc fun _=>(jc fun _=>jd))) jd)) (fun ρ x_ t k=>(by kernel_rfl)) (fun x_ s=>by kernel_rfl))
theorem JO.ok:CalleeOk Try.prog 17 JO.ce:=fn_ok (G:=JO.G) Jj mixed Try.func17 ⟨(jx jX.ok Ja),jR,jA⟩ (m:=1) (by kernel_rfl) ⟨trivial,JO.p0⟩ (by kernel_rfl) JO.eq
end
end W
end

section
set_option maxHeartbeats 4000000
set_option maxRecDepth 100000
set_option linter.unusedVariables false
namespace W
open Go Go.Ql Go.Proofs
noncomputable section
def jD.c4 {ρ:Type} (bits:List Int) (i:Int) (o5:List Int) (k_:Bool→Option ρ):Option ρ:=
 bnd (idx o5 i) fun y=>
 br (decide (y > (0:Int)))
 (bnd (idx o5 i) fun y_1=>
 bnd (idx bits (IntKind.i64.wrap (y_1 - (1:Int)))) fun y_2=>
 k_ (y_2 != (1:Int)))
 (k_ false)
def jD.c4s:Shape:=⟨[(0,tb25),(1,tb36),(2,tb2),(4,tb7),(5,tb5)],[(2,tb26)]⟩
def jD.c4x0:Shape:=⟨[(0,tb25),(1,tb36),(2,tb2),(4,tb7),(5,tb5),(30,tb7)],[(2,tb26)]⟩
def jD.c4r:Ck:=Ck.of (T:=Bool) jD.c4s (fun ρ x_ k_=>jD.c4 x_.2.1 x_.2.2.2.1 x_.2.2.2.2.2.2.2.2.2.1 k_) (fun ρ x_ r_ k_=>k_ 0 (Shape.inj jD.c4x0 (x_.1,x_.2.1,x_.2.2.1,x_.2.2.2.1,r_,x_.2.2.2.2)))
def jD.c6 {ρ:Type} (bits:List Int) (i:Int) (o5:List Int) (k_:Bool→Option ρ):Option ρ:=
 bnd (idx o5 i) fun y=>
 br (decide (y < (0:Int)))
 (bnd (idx o5 i) fun y_1=>
 bnd (idx bits (IntKind.i64.wrap (IntKind.i64.wrap ((0:Int) - y_1) - (1:Int)))) fun y_2=>
 k_ (y_2 != (0:Int)))
 (k_ false)
def jD.c6s:Shape:=jD.c4s
def jD.c6x0:Shape:=⟨[(0,tb25),(1,tb36),(2,tb2),(4,tb7),(5,tb5),(49,tb7)],[(2,tb26)]⟩
def jD.c6r:Ck:=Ck.of (T:=Bool) jD.c6s (fun ρ x_ k_=>jD.c6 x_.2.1 x_.2.2.2.1 x_.2.2.2.2.2.2.2.2.2.1 k_) (fun ρ x_ r_ k_=>k_ 0 (Shape.inj jD.c6x0 (x_.1,x_.2.1,x_.2.2.1,x_.2.2.2.1,r_,x_.2.2.2.2)))
def jD.c100002 {ρ:Type} (bits:List Int) (i:Int) (o5:List Int) (k_:Int⊕(Int⊕Int)→Option ρ):Option ρ:=
 br (decide (i < (↑(List.length o5):Int)))
 (bnd (W.jD.c4 bits i o5 some) fun y=>
 br y
 (k_ (.inr (.inl i)))
 (bnd (W.jD.c6 bits i o5 some) fun y_1=>
 br y_1
 (k_ (.inr (.inl i)))
 (k_ (.inl (IntKind.i64.wrap (i+(1:Int)))))))
 (k_ (.inr (.inr i)))
def jD.c100002s:Shape:=jD.c4s
def jD.c100002x0:Shape:=jD.c4s
def jD.c100002x1:Shape:=jD.c4s
def jD.c100002r:Ck:=Ck.ofLoop (S:=Int) (T:=Int⊕Int) jD.c100002s (fun x_=>x_.2.2.2.1) (fun ρ x_ s_ k_=>jD.c100002 x_.2.1 s_ x_.2.2.2.2.2.2.2.2.2.1 k_) (fun ρ x_ r_ k_=>sel r_ (fun r_=>k_ 1 (Shape.inj jD.c100002x0 (x_.1,x_.2.1,false,r_,x_.2.2.2.2))) (fun r_=>k_ 2 (Shape.inj jD.c100002x1 (x_.1,x_.2.1,x_.2.2.1,r_,x_.2.2.2.2))))
def jD (o:YO) (bits:List Int):Option Bool:=
 bnd (iter (fun s↦W.jD.c100002 bits s o.2.2.2.2.2 some) (0:Int)) fun y=>
 sel y
 (fun u=>some false)
 (fun v=>some true)
def jD.ce:Go.Ql.Callee:=⟨[(.st (.pair (.int .i64) (.pair (.int .i64) (.pair (.sl (.int .i64)) (.pair (.int .i64) (.pair (.int .i64) (.sl (.int .i64)))))))),(.sl (.int .i64))],[.bool],fun x_=>jD x_.1 x_.2⟩
def jD.G:Env:=⟨50,tab,[],[0,1,2,4,5,10,30,49],[],[],[(100002,jD.c100002r),(6,jD.c6r),(4,jD.c4r)],[],jZ⟩
theorem jD.eq (x_:dens jD.ce.params):den jD.G Try.f46 jD.ce.params jD.ce.res x_=jD.ce.F x_:=by kernel_rfl
theorem jD.p0:PcA jD.G Try.f46 0:=
 Jk (s:=jD.c100002r) (by kernel_rfl) (by kernel_rfl) (Jc (sh:=jD.c100002s) (I:=fun x_ s_=>(x_.1,x_.2.1,x_.2.2.1,s_,x_.2.2.2.2)) (fun x_=>rfl) (fun ρ x_ s_ k_=>(jm (jc fun _=>(jm jd (jc fun _=>(jm jd jd)))) jd)) (fun ρ x_ t k=>(ka (fun _=>(by kernel_rfl)) (fun _=>(by kernel_rfl)))) (fun x_ s=>by kernel_rfl))
theorem jD.p1:PcA jD.G Try.f46 1:=
 ju (s:=jD.c4r) (by kernel_rfl) (by kernel_rfl) (jt (sh:=jD.c4s) (fun ρ x_ k_=>(jc fun _=>(jm (jc fun _=>(jc fun _=>jd)) jd))) (fun ρ x_ t k=>(by kernel_rfl)) (fun x_=>by kernel_rfl))
theorem jD.p2:PcA jD.G Try.f46 2:=
 ju (s:=jD.c6r) (by kernel_rfl) (by kernel_rfl) (jt (sh:=jD.c6s) (fun ρ x_ k_=>(jc fun _=>(jm (jc fun _=>(jc fun _=>jd)) jd))) (fun ρ x_ t k=>(by kernel_rfl)) (fun x_=>by kernel_rfl))
theorem jD.ok:CalleeOk Try.prog 46 jD.ce:=fn_ok (G:=jD.G) Jj mixed Try.func46 ⟨Ja,jR,jA⟩ (m:=3) (by kernel_rfl) ⟨⟨⟨trivial,jD.p0⟩,jD.p1⟩,jD.p2⟩ (by kernel_rfl) jD.eq
def Jm.c220486 {ρ:Type} (v:List YN) (q:Int) (b:Int) (x:Int) (t11:List YN) (k_:List YN→Option ρ):Option ρ:=
 bnd (W.kp x q) fun y=>
 br (y == b)
 (bnd (idx v x) fun y_1=>
 bnd (inR (List.length t11) x) fun y_2=>
 bnd (idx t11 x) fun y_3=>
 k_ (List.set t11 (Int.toNat x) y_1))
 (k_ t11)
def Jm.c220486s:Shape:=⟨[(0,tb109),(1,tb5),(2,tb5),(6,tb109),(7,tb86),(8,tb5)],[(11,tb106)]⟩
def Jm.c220486x0:Shape:=Jm.c220486s
def Jm.c220486r:Ck:=Ck.of (T:=List YN) Jm.c220486s (fun ρ x_ k_=>Jm.c220486 x_.1 x_.2.1 x_.2.2.1 x_.2.2.2.2.1 x_.2.2.2.2.2.1 k_) (fun ρ x_ r_ k_=>k_ 0 (Shape.inj Jm.c220486x0 (x_.1,x_.2.1,x_.2.2.1,x_.2.2.2.1,x_.2.2.2.2.1,r_,())))
def Jm.c100003 {ρ:Type} (v:List YN) (q:Int) (b:Int) (x:Int) (t11:List YN) (k_:(Int×(List YN))⊕(Int×(List YN))→Option ρ):Option ρ:=
 br (decide (x < (↑(List.length v):Int)))
 (bnd (W.Jm.c220486 v q b x t11 some) fun y=>
 k_ (.inl ((IntKind.i64.wrap (x+(1:Int))),y)))
 (k_ (.inr (x,t11)))
def Jm.c100003s:Shape:=Jm.c220486s
def Jm.c100003x0:Shape:=Jm.c220486s
def Jm.c100003r:Ck:=Ck.ofLoop (S:=Int×(List YN)) (T:=Int×(List YN)) Jm.c100003s (fun x_=>(x_.2.2.2.2.1,x_.2.2.2.2.2.1)) (fun ρ x_ s_ k_=>Jm.c100003 x_.1 x_.2.1 x_.2.2.1 s_.1 s_.2 k_) (fun ρ x_ r_ k_=>k_ 2 (Shape.inj Jm.c100003x0 (x_.1,x_.2.1,x_.2.2.1,x_.2.2.2.1,r_.1,r_.2,())))
def Jm (v:List YN) (q:Int) (b:Int):Option (List YN):=
 bnd (okIf (decide ((0:Int)≤(↑(List.length v):Int)) && decide ((↑(List.length v):Int)≤(↑(List.length v):Int)) && decide ((↑(List.length v):Int)*(↑(264:Nat):Int)≤(140737488355328:Int)) && decide ((↑(List.length v):Int)≤(140737488355328:Int)))) fun y=>
 bnd (iter (fun s↦W.Jm.c100003 v q b s.1 s.2 some) ((0:Int),List.replicate (Int.toNat (↑(List.length v):Int)) (List.replicate (8:Nat) (false,[]),(0:Int)))) fun y_1=>
 some y_1.2
def Jm.ce:Go.Ql.Callee:=⟨[(.sl (.st (.pair (.ar 8 (.st (.pair .bool (.sl (.int .i64))))) (.int .i64)))),(.int .i64),(.int .i64)],[(.sl (.st (.pair (.ar 8 (.st (.pair .bool (.sl (.int .i64))))) (.int .i64))))],fun x_=>Jm x_.1 x_.2.1 x_.2.2⟩
def Jm.G:Env:=⟨31,tab,[(63,kp.ce)],[0,1,2,6,7,8,15,22],[11],[],[(100003,Jm.c100003r),(220486,Jm.c220486r)],[],jZ⟩
theorem Jm.eq (x_:dens Jm.ce.params):den Jm.G Try.f47 Jm.ce.params Jm.ce.res x_=Jm.ce.F x_:=by kernel_rfl
theorem Jm.p0:PcA Jm.G Try.f47 0:=
 Jk (s:=Jm.c100003r) (by kernel_rfl) (by kernel_rfl) (Jc (sh:=Jm.c100003s) (I:=fun x_ s_=>(x_.1,x_.2.1,x_.2.2.1,x_.2.2.2.1,s_.1,s_.2,())) (fun x_=>rfl) (fun ρ x_ s_ k_=>(jm (jc fun _=>jd) jd)) (fun ρ x_ t k=>(by kernel_rfl)) (fun x_ s=>by kernel_rfl))
theorem Jm.p1:PcA Jm.G Try.f47 1:=
 JV (s:=Jm.c220486r) (by kernel_rfl) (by kernel_rfl) (jt (sh:=Jm.c220486s) (fun ρ x_ k_=>(jc fun _=>(jm (jc fun _=>(jc fun _=>(jc fun _=>jd))) jd))) (fun ρ x_ t k=>(by kernel_rfl)) (fun x_=>by kernel_rfl))
theorem Jm.ok:CalleeOk Try.prog 47 Jm.ce:=fn_ok (G:=Jm.G) Jj mixed Try.func47 ⟨(jx kp.ok Ja),jR,jA⟩ (m:=2) (by kernel_rfl) ⟨⟨trivial,Jm.p0⟩,Jm.p1⟩ (by kernel_rfl) Jm.eq
end
end W
end

section
set_option maxHeartbeats 4000000
set_option maxRecDepth 100000
set_option linter.unusedVariables false
namespace W
open Go Go.Ql Go.Proofs
noncomputable section
abbrev te0:SD:=.one (.val (.st (.pair (.ar 8 (.st (.pair .bool (.sl (.int .i64))))) (.int .i64))))
abbrev te1:SD:=.one (.fptr (.st (.pair (.ar 8 (.st (.pair .bool (.sl (.int .i64))))) (.int .i64))))
abbrev te2:SD:=.one (.aptr 2 0)
abbrev te3:SD:=.one (.aptr 3 0)
abbrev te4:SD:=.one (.val (.int .i64))
abbrev te5:SO:=.arr 0 false 90 (.st (.pair (.ar 8 (.st (.pair .bool (.sl (.int .i64))))) (.int .i64)))
def Jy.c5 {ρ:Type} (a_1:YN) (i:Int) (out:List YN) (k_:List YN→Option ρ):Option ρ:=
 bnd (idx out (0:Int)) fun y=>
 bnd (idx a_1.1 i) fun y_1=>
 bnd (W.Yn y_1) fun y_2=>
 bnd (W.Jd (y_2.1,a_1.2) (IntKind.i64.wrap ((0:Int) - i))) fun y_3=>
 bnd (W.Jw y y_3) fun y_4=>
 bnd (idx out (0:Int)) fun y_5=>
 k_ (List.set out (0:Nat) y_4)
def Jy.c5s:Shape:=⟨[(0,te0),(1,te1),(2,te2),(3,te3),(4,te4)],[(2,te5),(3,te5)]⟩
def Jy.c5x0:Shape:=Jy.c5s
def Jy.c5r:Ck:=Ck.of (T:=List YN) Jy.c5s (fun ρ x_ k_=>Jy.c5 x_.2.1 x_.2.2.1 x_.2.2.2.2.1 k_) (fun ρ x_ r_ k_=>k_ 0 (Shape.inj Jy.c5x0 (x_.1,x_.2.1,x_.2.2.1,x_.2.2.2.1,r_,())))
def Jy.c100003 {ρ:Type} (a_1:YN) (i:Int) (out:List YN) (k_:(Int×(List YN))⊕(Int×(List YN))→Option ρ):Option ρ:=
 br (decide (i < (8:Int)))
 (bnd (W.Jy.c5 a_1 i out some) fun y=>
 k_ (.inl ((IntKind.i64.wrap (i+(1:Int))),y)))
 (k_ (.inr (i,out)))
def Jy.c100003s:Shape:=Jy.c5s
def Jy.c100003x0:Shape:=Jy.c5s
def Jy.c100003r:Ck:=Ck.ofLoop (S:=Int×(List YN)) (T:=Int×(List YN)) Jy.c100003s (fun x_=>(x_.2.2.1,x_.2.2.2.2.1)) (fun ρ x_ s_ k_=>Jy.c100003 x_.2.1 s_.1 s_.2 k_) (fun ρ x_ r_ k_=>k_ 2 (Shape.inj Jy.c100003x0 (x_.1,x_.2.1,r_.1,x_.2.2.2.1,r_.2,())))
def Jy (a:YN):Option YN:=
 bnd (iter (fun s↦W.Jy.c100003 a s.1 s.2 some) ((0:Int),[(List.replicate (8:Nat) (false,[]),(0:Int))])) fun y=>
 bnd (W.Jn a) fun y_1=>
 br y_1
 (some (List.replicate (8:Nat) (false,[]),(0:Int)))
 (bnd (idx y.2 (0:Int)) fun y_2=>
 bnd (W.jK y_2) fun y_3=>
 some y_3)
def Jy.ce:Go.Ql.Callee:=⟨[(.st (.pair (.ar 8 (.st (.pair .bool (.sl (.int .i64))))) (.int .i64)))],[(.st (.pair (.ar 8 (.st (.pair .bool (.sl (.int .i64))))) (.int .i64)))],fun x_=>Jy x_⟩
def Jy.G:Env:=⟨29,tab,[(59,Yn.ce),(64,Jd.ce),(62,Jw.ce),(48,Jn.ce),(98,jK.ce)],[0,1,2,3,4,7,25],[2,3,5,26,8000001],[(5,[⟨[],[],[11,12,13,14,15,16,17,18,19,20,21,22],[]⟩,⟨[],[],[10,12,17,18,20,21],[]⟩,⟨[],[],[10,11,17,18,20,21],[]⟩,⟨[2,1],[],[10,17,18,20,21],[]⟩,⟨[3,2,1],[],[10,17,18,20,21],[]⟩,⟨[4,3,2,1],[],[10,17,18,20,21],[]⟩,⟨[5,4,3,2,1],[],[10,17,18,20,21],[]⟩,⟨[],[],[10,11,12,13,14,15,16,20,21],[]⟩,⟨[7],[],[10,11,12,13,14,15,16,20,21],[]⟩,⟨[6,5,4,3,2,1,8,7],[],[10,20,21],[]⟩,⟨[],[],[10,11,12,13,14,15,16,17,18,19],[]⟩,⟨[10],[],[10,11,12,13,14,15,16,17,18,19],[]⟩,⟨[9,6,5,4,3,2,1,8,7,11,10],[],[10],[]⟩,⟨[0,12,9,6,5,4,3,2,1,8,7,11,10],[],[],[]⟩,⟨[13,0,12,9,6,5,4,3,2,1,8,7,11,10],[3],[],[]⟩])],[(100003,Jy.c100003r),(5,Jy.c5r)],[],jZ⟩
theorem Jy.eq (x_:dens Jy.ce.params):den Jy.G Try.f120 Jy.ce.params Jy.ce.res x_=Jy.ce.F x_:=by kernel_rfl
theorem Jy.p0:PcA Jy.G Try.f120 0:=
 Jk (s:=Jy.c100003r) (by kernel_rfl) (by kernel_rfl) (Jc (sh:=Jy.c100003s) (I:=fun x_ s_=>(x_.1,x_.2.1,s_.1,x_.2.2.2.1,s_.2,())) (fun x_=>rfl) (fun ρ x_ s_ k_=>(jm (jc fun _=>jd) jd)) (fun ρ x_ t k=>(by kernel_rfl)) (fun x_ s=>by kernel_rfl))
theorem Jy.p1:PcA Jy.G Try.f120 1:=
 ju (s:=Jy.c5r) (by kernel_rfl) (by kernel_rfl) (jt (sh:=Jy.c5s) (fun ρ x_ k_=>(jc fun _=>(jc fun _=>(jc fun _=>(jc fun _=>(jc fun _=>(jc fun _=>jd))))))) (fun ρ x_ t k=>(by kernel_rfl)) (fun x_=>by kernel_rfl))
theorem Jy.ok:CalleeOk Try.prog 120 Jy.ce:=fn_ok (G:=Jy.G) Jj mixed Try.func120 ⟨(jx Yn.ok (jx Jd.ok (jx Jw.ok (jx Jn.ok (jx jK.ok Ja))))),jR,jA⟩ (m:=2) (by kernel_rfl) ⟨⟨trivial,Jy.p0⟩,Jy.p1⟩ (by kernel_rfl) Jy.eq
abbrev te6:SD:=.one (.val (.st (.pair .bool (.sl (.int .i64)))))
abbrev te7:SD:=.one (.ref 2 0)
abbrev te8:SD:=.one (.ref 3 0)
abbrev te9:SD:=.one (.ref 4 0)
abbrev te10:SO:=.box [.val .bool,.val (.sl (.int .i64))]
def ki.c1 {ρ:Type} (a0:Bool) (a1:List Int) (b0:Bool) (b1:List Int) (k_:YD→Option ρ):Option ρ:=
 bnd (W.kI (b0,b1)) fun y=>
 bnd (W.Jr (a0,a1) y) fun y_1=>
 k_ (y_1.1,y_1.2)
def ki.c1s:Shape:=⟨[(0,te6),(1,te6),(2,te7),(3,te8),(4,te9)],[(2,te10),(3,te10),(4,te10)]⟩
def ki.c1x0:Shape:=ki.c1s
def ki.c1r:Ck:=Ck.of (T:=YD) ki.c1s (fun ρ x_ k_=>ki.c1 x_.2.2.1 x_.2.2.2.1 x_.2.2.2.2.1 x_.2.2.2.2.2.1 k_) (fun ρ x_ r_ k_=>k_ 0 (Shape.inj ki.c1x0 (x_.1,x_.2.1,x_.2.2.1,x_.2.2.2.1,x_.2.2.2.2.1,x_.2.2.2.2.2.1,r_.1,r_.2,())))
def ki (a:YD) (b:YD):Option YD:=
 bnd (W.ki.c1 a.1 a.2 b.1 b.2 some) fun y=>
 some (y.1,y.2)
def ki.ce:Go.Ql.Callee:=⟨[(.st (.pair .bool (.sl (.int .i64)))),(.st (.pair .bool (.sl (.int .i64))))],[(.st (.pair .bool (.sl (.int .i64))))],fun x_=>ki x_.1 x_.2⟩
def ki.G:Env:=⟨9,tab,[(99,kI.ce),(97,Jr.ce)],[0,1,2,3,4],[],[(1,[⟨[],[],[6,7],[]⟩,⟨[],[],[5],[]⟩,⟨[1],[],[5],[]⟩,⟨[0,2,1],[],[],[]⟩,⟨[3,0,2,1],[4],[],[]⟩])],[(1,ki.c1r)],[],jZ⟩
theorem ki.eq (x_:dens ki.ce.params):den ki.G Try.f137 ki.ce.params ki.ce.res x_=ki.ce.F x_:=by kernel_rfl
theorem ki.p0:PcA ki.G Try.f137 0:=
 ju (s:=ki.c1r) (by kernel_rfl) (by kernel_rfl) (jt (sh:=ki.c1s) (fun ρ x_ k_=>(jc fun _=>(jc fun _=>jd))) (fun ρ x_ t k=>(by kernel_rfl)) (fun x_=>by kernel_rfl))
theorem ki.ok:CalleeOk Try.prog 137 ki.ce:=fn_ok (G:=ki.G) Jj mixed Try.func137 ⟨(jx kI.ok (jx Jr.ok Ja)),jR,jA⟩ (m:=1) (by kernel_rfl) ⟨trivial,ki.p0⟩ (by kernel_rfl) ki.eq
abbrev te11:SD:=.one (.aptr 4 0)
abbrev te12:SD:=.one (.val .bool)
abbrev te13:SD:=.one (.aptr 5 0)
abbrev te14:SD:=.one (.ref 8 0)
def jz.c1 {ρ:Type} (a_1:YN) (b_1:YN) (k_:Bool→Option ρ):Option ρ:=
 bnd (W.Jn a_1) fun y=>
 br y
 (k_ true)
 (bnd (W.Jn b_1) fun y_1=>
 k_ y_1)
def jz.c1s:Shape:=⟨[(0,te0),(1,te0),(2,te1),(3,te1),(4,te11)],[(4,te5)]⟩
def jz.c1x0:Shape:=⟨[(0,te0),(1,te0),(2,te1),(3,te1),(4,te11),(14,te12)],[(4,te5)]⟩
def jz.c1r:Ck:=Ck.of (T:=Bool) jz.c1s (fun ρ x_ k_=>jz.c1 x_.2.2.1 x_.2.2.2.1 k_) (fun ρ x_ r_ k_=>k_ 0 (Shape.inj jz.c1x0 (x_.1,x_.2.1,x_.2.2.1,x_.2.2.2.1,r_,x_.2.2.2.2)))
def jz.c11 {ρ:Type} (a_1:YN) (b_1:YN) (i:Int) (j:Int) (k_:Bool→Option ρ):Option ρ:=
 bnd (idx a_1.1 i) fun y=>
 br (decide ((↑(List.length y.2):Int) > (0:Int)))
 (bnd (idx b_1.1 j) fun y_1=>
 k_ (decide ((↑(List.length y_1.2):Int) > (0:Int))))
 (k_ false)
def jz.c11s:Shape:=⟨[(0,te0),(1,te0),(2,te1),(3,te1),(4,te11),(5,te13),(6,te4),(7,te4)],[(4,te5),(5,te5)]⟩
def jz.c11x0:Shape:=⟨[(0,te0),(1,te0),(2,te1),(3,te1),(4,te11),(5,te13),(6,te4),(7,te4),(46,te12)],[(4,te5),(5,te5)]⟩
def jz.c11r:Ck:=Ck.of (T:=Bool) jz.c11s (fun ρ x_ k_=>jz.c11 x_.2.2.1 x_.2.2.2.1 x_.2.2.2.2.1 x_.2.2.2.2.2.1 k_) (fun ρ x_ r_ k_=>k_ 0 (Shape.inj jz.c11x0 (x_.1,x_.2.1,x_.2.2.1,x_.2.2.2.1,x_.2.2.2.2.1,x_.2.2.2.2.2.1,r_,x_.2.2.2.2.2.2)))
def jz.c12 {ρ:Type} (a_1:YN) (b_1:YN) (i:Int) (j:Int) (k_:YD→Option ρ):Option ρ:=
 bnd (idx a_1.1 i) fun y=>
 bnd (idx b_1.1 j) fun y_1=>
 bnd (W.jQ y y_1) fun y_2=>
 k_ (y_2.1,y_2.2)
def jz.c12s:Shape:=jz.c11s
def jz.c12x0:Shape:=⟨[(0,te0),(1,te0),(2,te1),(3,te1),(4,te11),(5,te13),(6,te4),(7,te4),(8,te14)],[(4,te5),(5,te5),(8,te10)]⟩
def jz.c12r:Ck:=Ck.of (T:=YD) jz.c12s (fun ρ x_ k_=>jz.c12 x_.2.2.1 x_.2.2.2.1 x_.2.2.2.2.1 x_.2.2.2.2.2.1 k_) (fun ρ x_ r_ k_=>k_ 0 (Shape.inj jz.c12x0 (x_.1,x_.2.1,x_.2.2.1,x_.2.2.2.1,x_.2.2.2.2.1,x_.2.2.2.2.2.1,x_.2.2.2.2.2.2.1,x_.2.2.2.2.2.2.2.1,r_.1,r_.2,())))
def jz.c14 {ρ:Type} (i:Int) (j:Int) (out:List YN) (c0:Bool) (c1:List Int) (k_:List YN→Option ρ):Option ρ:=
 bnd (inR (List.length out) (0:Int)) fun y=>
 bnd (okIf (decide ((0:Ty.den (Ty.int IntKind.i64))≤IntKind.i64.wrap (i+j)) && decide (IntKind.i64.wrap (i+j) < (↑(8:Nat):Int)))) fun y_1=>
 bnd (idx out (0:Int)) fun y_2=>
 bnd (idx y_2.1 (IntKind.i64.wrap (i+j))) fun y_3=>
 bnd (W.Jr y_3 (c0,c1)) fun y_4=>
 bnd (inR (List.length out) (0:Int)) fun y_5=>
 bnd (okIf (decide ((0:Ty.den (Ty.int IntKind.i64))≤IntKind.i64.wrap (i+j)) && decide (IntKind.i64.wrap (i+j) < (↑(8:Nat):Int)))) fun y_6=>
 bnd (idx out (0:Int)) fun y_7=>
 bnd (idx y_7.1 (IntKind.i64.wrap (i+j))) fun y_8=>
 k_ (List.set out (0:Nat) (List.set y_7.1 (Int.toNat (IntKind.i64.wrap (i+j))) y_4,y_7.2))
def jz.c14s:Shape:=jz.c12x0
def jz.c14x0:Shape:=jz.c12x0
def jz.c14r:Ck:=Ck.of (T:=List YN) jz.c14s (fun ρ x_ k_=>jz.c14 x_.2.2.2.2.1 x_.2.2.2.2.2.1 x_.2.2.2.2.2.2.2.1 x_.2.2.2.2.2.2.2.2.1 x_.2.2.2.2.2.2.2.2.2.1 k_) (fun ρ x_ r_ k_=>k_ 0 (Shape.inj jz.c14x0 (x_.1,x_.2.1,x_.2.2.1,x_.2.2.2.1,x_.2.2.2.2.1,x_.2.2.2.2.2.1,x_.2.2.2.2.2.2.1,r_,x_.2.2.2.2.2.2.2.2)))
def jz.c15 {ρ:Type} (i:Int) (j:Int) (out:List YN) (c0:Bool) (c1:List Int) (k_:List YN→Option ρ):Option ρ:=
 bnd (inR (List.length out) (0:Int)) fun y=>
 bnd (okIf (decide ((0:Ty.den (Ty.int IntKind.i64))≤IntKind.i64.wrap (IntKind.i64.wrap (i+j) - (8:Int))) && decide (IntKind.i64.wrap (IntKind.i64.wrap (i+j) - (8:Int)) < (↑(8:Nat):Int)))) fun y_1=>
 bnd (idx out (0:Int)) fun y_2=>
 bnd (idx y_2.1 (IntKind.i64.wrap (IntKind.i64.wrap (i+j) - (8:Int)))) fun y_3=>
 bnd (W.ki y_3 (c0,c1)) fun y_4=>
 bnd (inR (List.length out) (0:Int)) fun y_5=>
 bnd (okIf (decide ((0:Ty.den (Ty.int IntKind.i64))≤IntKind.i64.wrap (IntKind.i64.wrap (i+j) - (8:Int))) && decide (IntKind.i64.wrap (IntKind.i64.wrap (i+j) - (8:Int)) < (↑(8:Nat):Int)))) fun y_6=>
 bnd (idx out (0:Int)) fun y_7=>
 bnd (idx y_7.1 (IntKind.i64.wrap (IntKind.i64.wrap (i+j) - (8:Int)))) fun y_8=>
 k_ (List.set out (0:Nat) (List.set y_7.1 (Int.toNat (IntKind.i64.wrap (IntKind.i64.wrap (i+j) - (8:Int)))) y_4,y_7.2))
def jz.c15s:Shape:=jz.c12x0
def jz.c15x0:Shape:=jz.c12x0
def jz.c15r:Ck:=Ck.of (T:=List YN) jz.c15s (fun ρ x_ k_=>jz.c15 x_.2.2.2.2.1 x_.2.2.2.2.2.1 x_.2.2.2.2.2.2.2.1 x_.2.2.2.2.2.2.2.2.1 x_.2.2.2.2.2.2.2.2.2.1 k_) (fun ρ x_ r_ k_=>k_ 0 (Shape.inj jz.c15x0 (x_.1,x_.2.1,x_.2.2.1,x_.2.2.2.1,x_.2.2.2.2.1,x_.2.2.2.2.2.1,x_.2.2.2.2.2.2.1,r_,x_.2.2.2.2.2.2.2.2)))
def jz.c245068 {ρ:Type} (a_1:YN) (b_1:YN) (i:Int) (j:Int) (out:List YN) (k_:List YN→Option ρ):Option ρ:=
 bnd (W.jz.c11 a_1 b_1 i j some) fun y=>
 br y
 (bnd (W.jz.c12 a_1 b_1 i j some) fun y_1=>
 br (decide (IntKind.i64.wrap (i+j) < (8:Int)))
 (bnd (W.jz.c14 i j out y_1.1 y_1.2 some) fun y_2=>
 k_ y_2)
 (bnd (W.jz.c15 i j out y_1.1 y_1.2 some) fun y_3=>
 k_ y_3))
 (k_ out)
def jz.c245068s:Shape:=jz.c11s
def jz.c245068x0:Shape:=jz.c11s
def jz.c245068r:Ck:=Ck.of (T:=List YN) jz.c245068s (fun ρ x_ k_=>jz.c245068 x_.2.2.1 x_.2.2.2.1 x_.2.2.2.2.1 x_.2.2.2.2.2.1 x_.2.2.2.2.2.2.2.1 k_) (fun ρ x_ r_ k_=>k_ 0 (Shape.inj jz.c245068x0 (x_.1,x_.2.1,x_.2.2.1,x_.2.2.2.1,x_.2.2.2.2.1,x_.2.2.2.2.2.1,x_.2.2.2.2.2.2.1,r_,())))
def jz.c100009 {ρ:Type} (a_1:YN) (b_1:YN) (i:Int) (j:Int) (out:List YN) (k_:(Int×(List YN))⊕(Int×(List YN))→Option ρ):Option ρ:=
 br (decide (j < (8:Int)))
 (bnd (W.jz.c245068 a_1 b_1 i j out some) fun y=>
 k_ (.inl ((IntKind.i64.wrap (j+(1:Int))),y)))
 (k_ (.inr (j,out)))
def jz.c100009s:Shape:=jz.c11s
def jz.c100009x0:Shape:=jz.c11s
def jz.c100009r:Ck:=Ck.ofLoop (S:=Int×(List YN)) (T:=Int×(List YN)) jz.c100009s (fun x_=>(x_.2.2.2.2.2.1,x_.2.2.2.2.2.2.2.1)) (fun ρ x_ s_ k_=>jz.c100009 x_.2.2.1 x_.2.2.2.1 x_.2.2.2.2.1 s_.1 s_.2 k_) (fun ρ x_ r_ k_=>k_ 4 (Shape.inj jz.c100009x0 (x_.1,x_.2.1,x_.2.2.1,x_.2.2.2.1,x_.2.2.2.2.1,r_.1,x_.2.2.2.2.2.2.1,r_.2,())))
def jz.c100006 {ρ:Type} (a_1:YN) (b_1:YN) (i:Int) (out:List YN) (k_:(Int×(List YN))⊕(Int×(List YN))→Option ρ):Option ρ:=
 br (decide (i < (8:Int)))
 (bnd (iter (fun s↦W.jz.c100009 a_1 b_1 i s.1 s.2 some) ((0:Int),out)) fun y=>
 k_ (.inl ((IntKind.i64.wrap (i+(1:Int))),y.2)))
 (k_ (.inr (i,out)))
def jz.c100006s:Shape:=⟨[(0,te0),(1,te0),(2,te1),(3,te1),(4,te11),(5,te13),(6,te4)],[(4,te5),(5,te5)]⟩
def jz.c100006x0:Shape:=jz.c100006s
def jz.c100006r:Ck:=Ck.ofLoop (S:=Int×(List YN)) (T:=Int×(List YN)) jz.c100006s (fun x_=>(x_.2.2.2.2.1,x_.2.2.2.2.2.2.1)) (fun ρ x_ s_ k_=>jz.c100006 x_.2.2.1 x_.2.2.2.1 s_.1 s_.2 k_) (fun ρ x_ r_ k_=>k_ 2 (Shape.inj jz.c100006x0 (x_.1,x_.2.1,x_.2.2.1,x_.2.2.2.1,r_.1,x_.2.2.2.2.2.1,r_.2,())))
def jz (a:YN) (b:YN):Option YN:=
 bnd (W.jz.c1 a b some) fun y=>
 br y
 (some (List.replicate (8:Nat) (false,[]),(0:Int)))
 (bnd (iter (fun s↦W.jz.c100006 a b s.1 s.2 some) ((0:Int),[(List.replicate (8:Nat) (false,[]),IntKind.i64.wrap (a.2+b.2))])) fun y_1=>
 bnd (idx y_1.2 (0:Int)) fun y_2=>
 bnd (W.jK y_2) fun y_3=>
 some y_3)
def jz.ce:Go.Ql.Callee:=⟨[(.st (.pair (.ar 8 (.st (.pair .bool (.sl (.int .i64))))) (.int .i64))),(.st (.pair (.ar 8 (.st (.pair .bool (.sl (.int .i64))))) (.int .i64)))],[(.st (.pair (.ar 8 (.st (.pair .bool (.sl (.int .i64))))) (.int .i64)))],fun x_=>jz x_.1 x_.2⟩
def jz.G:Env:=⟨90,tab,[(48,Jn.ce),(123,jQ.ce),(97,Jr.ce),(137,ki.ce),(98,jK.ce)],[0,1,2,3,4,5,6,7,8,14,24,28,46,59],[4,5,15,16,8000002,8000003],[(15,[⟨[],[],[74,77,78,79,80,81,82,83,84,85,86],[]⟩,⟨[],[],[73,77,78,79,80,81,82,83,84,85,86],[]⟩,⟨[0,1],[],[77,78,79,80,81,82,83,84,85,86],[]⟩,⟨[2,0,1],[],[77,78,79,80,81,82,83,84,85,86],[]⟩,⟨[],[],[73,74,75,76,78,81,84,86],[]⟩,⟨[],[],[73,74,75,76,77,81,84,86],[]⟩,⟨[4,5],[],[73,74,75,76,81,84,86],[]⟩,⟨[6,4,5],[],[73,74,75,76,81,84,86],[]⟩,⟨[],[],[73,74,75,76,77,78,79,80,84,86],[]⟩,⟨[8,7,6,4,5],[],[73,74,75,76,84,86],[]⟩,⟨[9,8,7,6,4,5],[],[73,74,75,76,84,86],[]⟩,⟨[],[],[73,74,75,76,77,78,79,80,81,82,83,86],[]⟩,⟨[10,9,8,7,6,4,5,11],[],[73,74,75,76,86],[]⟩,⟨[],[],[73,74,75,76,77,78,79,80,81,82,83,84,85],[]⟩,⟨[13,3,2,0,1,4,5,6,7,8,9,10,11,12],[],[],[]⟩,⟨[14,13,3,2,0,1,4,5,6,7,8,9,10,11,12],[5],[],[]⟩]),
 (14,[⟨[],[],[61,63,64,65,66,67,68,69,70,71],[]⟩,⟨[],[],[60,63,64,65,66,67,68,69,70,71],[]⟩,⟨[0,1],[],[63,64,65,66,67,68,69,70,71],[]⟩,⟨[],[],[60,61,62,64,66,69,71],[]⟩,⟨[],[],[60,61,62,63,66,69,71],[]⟩,⟨[3,4],[],[60,61,62,66,69,71],[]⟩,⟨[],[],[60,61,62,63,64,65,69,71],[]⟩,⟨[6,5,3,4],[],[60,61,62,69,71],[]⟩,⟨[7,6,5,3,4],[],[60,61,62,69,71],[]⟩,⟨[],[],[60,61,62,63,64,65,66,67,68,71],[]⟩,⟨[8,7,6,5,3,4,9],[],[60,61,62,71],[]⟩,⟨[],[],[60,61,62,63,64,65,66,67,68,69,70],[]⟩,⟨[11,2,0,1,3,4,5,6,7,8,9,10],[],[],[]⟩,⟨[12,11,2,0,1,3,4,5,6,7,8,9,10],[5],[],[]⟩]),
 (12,[⟨[],[],[48,51,52,53,54,8],[8]⟩,⟨[],[],[47,51,52,53,54,8],[8]⟩,⟨[1,0],[],[51,52,53,54,8],[8]⟩,⟨[2,1,0],[],[51,52,53,54,8],[8]⟩,⟨[],[],[47,48,49,50,52,8],[8]⟩,⟨[],[],[47,48,49,50,51,8],[8]⟩,⟨[5,4],[],[47,48,49,50,8],[8]⟩,⟨[6,5,4],[],[47,48,49,50,8],[8]⟩,⟨[3,2,1,0,7,6,5,4],[],[8],[8]⟩,⟨[],[8],[47,48,49,50,51,52,53,54,55],[]⟩,⟨[9,8,3,2,1,0,7,6,5,4],[8],[],[]⟩])],[(100006,jz.c100006r),(100009,jz.c100009r),(245068,jz.c245068r),(15,jz.c15r),(14,jz.c14r),(12,jz.c12r),(11,jz.c11r),(1,jz.c1r)],[],jZ⟩
theorem jz.eq (x_:dens jz.ce.params):den jz.G Try.f119 jz.ce.params jz.ce.res x_=jz.ce.F x_:=by kernel_rfl
theorem jz.p0:PcA jz.G Try.f119 0:=
 ju (s:=jz.c1r) (by kernel_rfl) (by kernel_rfl) (jt (sh:=jz.c1s) (fun ρ x_ k_=>(jc fun _=>(jm jd (jc fun _=>jd)))) (fun ρ x_ t k=>(by kernel_rfl)) (fun x_=>by kernel_rfl))
theorem jz.p1:PcA jz.G Try.f119 1:=
 Jk (s:=jz.c100006r) (by kernel_rfl) (by kernel_rfl) (Jc (sh:=jz.c100006s) (I:=fun x_ s_=>(x_.1,x_.2.1,x_.2.2.1,x_.2.2.2.1,s_.1,x_.2.2.2.2.2.1,s_.2,())) (fun x_=>rfl) (fun ρ x_ s_ k_=>(jm (jc fun _=>jd) jd)) (fun ρ x_ t k=>(by kernel_rfl)) (fun x_ s=>by kernel_rfl))
theorem jz.p2:PcA jz.G Try.f119 2:=
 Jk (s:=jz.c100009r) (by kernel_rfl) (by kernel_rfl) (Jc (sh:=jz.c100009s) (I:=fun x_ s_=>(x_.1,x_.2.1,x_.2.2.1,x_.2.2.2.1,x_.2.2.2.2.1,s_.1,x_.2.2.2.2.2.2.1,s_.2,())) (fun x_=>rfl) (fun ρ x_ s_ k_=>(jm (jc fun _=>jd) jd)) (fun ρ x_ t k=>(by kernel_rfl)) (fun x_ s=>by kernel_rfl))
theorem jz.p3:PcA jz.G Try.f119 3:=
 JV (s:=jz.c245068r) (by kernel_rfl) (by kernel_rfl) (jt (sh:=jz.c245068s) (fun ρ x_ k_=>(jc fun _=>(jm (jc fun _=>(jm (jc fun _=>jd) (jc fun _=>jd))) jd))) (fun ρ x_ t k=>(by kernel_rfl)) (fun x_=>by kernel_rfl))
theorem jz.p4:PcA jz.G Try.f119 4:=
 ju (s:=jz.c11r) (by kernel_rfl) (by kernel_rfl) (jt (sh:=jz.c11s) (fun ρ x_ k_=>(jc fun _=>(jm (jc fun _=>jd) jd))) (fun ρ x_ t k=>(by kernel_rfl)) (fun x_=>by kernel_rfl))
theorem jz.p5:PcA jz.G Try.f119 5:=
 ju (s:=jz.c12r) (by kernel_rfl) (by kernel_rfl) (jt (sh:=jz.c12s) (fun ρ x_ k_=>(jc fun _=>(jc fun _=>(jc fun _=>jd)))) (fun ρ x_ t k=>(by kernel_rfl)) (fun x_=>by kernel_rfl))
theorem jz.p6:PcA jz.G Try.f119 6:=
 ju (s:=jz.c14r) (by kernel_rfl) (by kernel_rfl) (jt (sh:=jz.c14s) (fun ρ x_ k_=>(jc fun _=>(jc fun _=>(jc fun _=>(jc fun _=>(jc fun _=>(jc fun _=>(jc fun _=>(jc fun _=>(jc fun _=>jd)))))))))) (fun ρ x_ t k=>(by kernel_rfl)) (fun x_=>by kernel_rfl))
theorem jz.p7:PcA jz.G Try.f119 7:=
 ju (s:=jz.c15r) (by kernel_rfl) (by kernel_rfl) (jt (sh:=jz.c15s) (fun ρ x_ k_=>(jc fun _=>(jc fun _=>(jc fun _=>(jc fun _=>(jc fun _=>(jc fun _=>(jc fun _=>(jc fun _=>(jc fun _=>jd)))))))))) (fun ρ x_ t k=>(by kernel_rfl)) (fun x_=>by kernel_rfl))
theorem jz.ok:CalleeOk Try.prog 119 jz.ce:=fn_ok (G:=jz.G) Jj mixed Try.func119 ⟨(jx Jn.ok (jx jQ.ok (jx Jr.ok (jx ki.ok (jx jK.ok Ja))))),jR,jA⟩ (m:=8) (by kernel_rfl) ⟨⟨⟨⟨⟨⟨⟨⟨trivial,jz.p0⟩,jz.p1⟩,jz.p2⟩,jz.p3⟩,jz.p4⟩,jz.p5⟩,jz.p6⟩,jz.p7⟩ (by kernel_rfl) jz.eq
def JU.c1 {ρ:Type} (a_1:YN) (t2:List YN) (k_:List YN→Option ρ):Option ρ:=
 bnd (W.Jy a_1) fun y=>
 bnd (W.jz a_1 y) fun y_1=>
 bnd (idx t2 (0:Int)) fun y_2=>
 k_ (List.set t2 (0:Nat) y_1)
def JU.c1s:Shape:=⟨[(0,te0),(1,te1),(2,te2)],[(2,te5)]⟩
def JU.c1x0:Shape:=JU.c1s
def JU.c1r:Ck:=Ck.of (T:=List YN) JU.c1s (fun ρ x_ k_=>JU.c1 x_.2.1 x_.2.2.1 k_) (fun ρ x_ r_ k_=>k_ 0 (Shape.inj JU.c1x0 (x_.1,x_.2.1,r_,())))
def JU (a:YN):Option YN:=
 bnd (W.JU.c1 a [(List.replicate (8:Nat) (false,[]),(0:Int))] some) fun y=>
 bnd (idx y (0:Int)) fun y_1=>
 some y_1
def JU.ce:Go.Ql.Callee:=⟨[(.st (.pair (.ar 8 (.st (.pair .bool (.sl (.int .i64))))) (.int .i64)))],[(.st (.pair (.ar 8 (.st (.pair .bool (.sl (.int .i64))))) (.int .i64)))],fun x_=>JU x_⟩
def JU.G:Env:=⟨7,tab,[(120,Jy.ce),(119,jz.ce)],[0,1,2],[2,8000001],[(1,[⟨[],[],[4,5],[]⟩,⟨[],[],[3],[]⟩,⟨[1],[],[3],[]⟩,⟨[0,2,1],[],[],[]⟩,⟨[3,0,2,1],[2],[],[]⟩])],[(1,JU.c1r)],[],jZ⟩
theorem JU.eq (x_:dens JU.ce.params):den JU.G Try.f90 JU.ce.params JU.ce.res x_=JU.ce.F x_:=by kernel_rfl
theorem JU.p0:PcA JU.G Try.f90 0:=
 ju (s:=JU.c1r) (by kernel_rfl) (by kernel_rfl) (jt (sh:=JU.c1s) (fun ρ x_ k_=>(jc fun _=>(jc fun _=>(jc fun _=>jd)))) (fun ρ x_ t k=>(by kernel_rfl)) (fun x_=>by kernel_rfl))
theorem JU.ok:CalleeOk Try.prog 90 JU.ce:=fn_ok (G:=JU.G) Jj mixed Try.func90 ⟨(jx Jy.ok (jx jz.ok Ja)),jR,jA⟩ (m:=1) (by kernel_rfl) ⟨trivial,JU.p0⟩ (by kernel_rfl) JU.eq
abbrev te15:SD:=.one (.val (.sl (.st (.pair (.ar 8 (.st (.pair .bool (.sl (.int .i64))))) (.int .i64)))))
def Js.c6 {ρ:Type} (v:List YN) (x:Int) (sum:List YN) (k_:List YN→Option ρ):Option ρ:=
 bnd (idx sum (0:Int)) fun y=>
 bnd (idx v x) fun y_1=>
 bnd (W.JU y_1) fun y_2=>
 bnd (W.Jw y y_2) fun y_3=>
 bnd (idx sum (0:Int)) fun y_4=>
 k_ (List.set sum (0:Nat) y_3)
def Js.c6s:Shape:=⟨[(0,te15),(2,te2),(3,te3),(4,te4)],[(2,te5),(3,te5)]⟩
def Js.c6x0:Shape:=Js.c6s
def Js.c6r:Ck:=Ck.of (T:=List YN) Js.c6s (fun ρ x_ k_=>Js.c6 x_.1 x_.2.1 x_.2.2.2.1 k_) (fun ρ x_ r_ k_=>k_ 0 (Shape.inj Js.c6x0 (x_.1,x_.2.1,x_.2.2.1,r_,())))
def Js.c220486 {ρ:Type} (v:List YN) (x:Int) (sum:List YN) (k_:List YN→Option ρ):Option ρ:=
 bnd (idx v x) fun y=>
 bnd (W.Jn y) fun y_1=>
 br (!y_1)
 (bnd (W.Js.c6 v x sum some) fun y_2=>
 k_ y_2)
 (k_ sum)
def Js.c220486s:Shape:=Js.c6s
def Js.c220486x0:Shape:=Js.c6s
def Js.c220486r:Ck:=Ck.of (T:=List YN) Js.c220486s (fun ρ x_ k_=>Js.c220486 x_.1 x_.2.1 x_.2.2.2.1 k_) (fun ρ x_ r_ k_=>k_ 0 (Shape.inj Js.c220486x0 (x_.1,x_.2.1,x_.2.2.1,r_,())))
def Js.c100003 {ρ:Type} (v:List YN) (x:Int) (sum:List YN) (k_:(Int×(List YN))⊕(Int×(List YN))→Option ρ):Option ρ:=
 br (decide (x < (↑(List.length v):Int)))
 (bnd (W.Js.c220486 v x sum some) fun y=>
 k_ (.inl ((IntKind.i64.wrap (x+(1:Int))),y)))
 (k_ (.inr (x,sum)))
def Js.c100003s:Shape:=Js.c6s
def Js.c100003x0:Shape:=Js.c6s
def Js.c100003r:Ck:=Ck.ofLoop (S:=Int×(List YN)) (T:=Int×(List YN)) Js.c100003s (fun x_=>(x_.2.1,x_.2.2.2.1)) (fun ρ x_ s_ k_=>Js.c100003 x_.1 s_.1 s_.2 k_) (fun ρ x_ r_ k_=>k_ 2 (Shape.inj Js.c100003x0 (x_.1,r_.1,x_.2.2.1,r_.2,())))
def Js (v:List YN):Option YN:=
 bnd (iter (fun s↦W.Js.c100003 v s.1 s.2 some) ((0:Int),[(List.replicate (8:Nat) (false,[]),(0:Int))])) fun y=>
 bnd (idx y.2 (0:Int)) fun y_1=>
 some y_1
def Js.ce:Go.Ql.Callee:=⟨[(.sl (.st (.pair (.ar 8 (.st (.pair .bool (.sl (.int .i64))))) (.int .i64))))],[(.st (.pair (.ar 8 (.st (.pair .bool (.sl (.int .i64))))) (.int .i64)))],fun x_=>Js x_⟩
def Js.G:Env:=⟨26,tab,[(48,Jn.ce),(90,JU.ce),(62,Jw.ce)],[0,2,3,4,9,17],[2,3,5],[(6,[⟨[],[],[19,20,21,22,23],[]⟩,⟨[],[],[18,20],[]⟩,⟨[],[],[18,19],[]⟩,⟨[1,2],[],[18],[]⟩,⟨[3,1,2],[],[18],[]⟩,⟨[4,3,1,2],[],[18],[]⟩,⟨[0,5,4,3,1,2],[],[],[]⟩,⟨[6,0,5,4,3,1,2],[3],[],[]⟩])],[(100003,Js.c100003r),(220486,Js.c220486r),(6,Js.c6r)],[],jZ⟩
theorem Js.eq (x_:dens Js.ce.params):den Js.G Try.f49 Js.ce.params Js.ce.res x_=Js.ce.F x_:=by kernel_rfl
theorem Js.p0:PcA Js.G Try.f49 0:=
 Jk (s:=Js.c100003r) (by kernel_rfl) (by kernel_rfl) (Jc (sh:=Js.c100003s) (I:=fun x_ s_=>(x_.1,s_.1,x_.2.2.1,s_.2,())) (fun x_=>rfl) (fun ρ x_ s_ k_=>(jm (jc fun _=>jd) jd)) (fun ρ x_ t k=>(by kernel_rfl)) (fun x_ s=>by kernel_rfl))
theorem Js.p1:PcA Js.G Try.f49 1:=
 JV (s:=Js.c220486r) (by kernel_rfl) (by kernel_rfl) (jt (sh:=Js.c220486s) (fun ρ x_ k_=>(jc fun _=>(jc fun _=>(jm (jc fun _=>jd) jd)))) (fun ρ x_ t k=>(by kernel_rfl)) (fun x_=>by kernel_rfl))
theorem Js.p2:PcA Js.G Try.f49 2:=
 ju (s:=Js.c6r) (by kernel_rfl) (by kernel_rfl) (jt (sh:=Js.c6s) (fun ρ x_ k_=>(jc fun _=>(jc fun _=>(jc fun _=>(jc fun _=>(jc fun _=>jd)))))) (fun ρ x_ t k=>(by kernel_rfl)) (fun x_=>by kernel_rfl))
theorem Js.ok:CalleeOk Try.prog 49 Js.ce:=fn_ok (G:=Js.G) Jj mixed Try.func49 ⟨(jx Jn.ok (jx JU.ok (jx Jw.ok Ja))),jR,jA⟩ (m:=3) (by kernel_rfl) ⟨⟨⟨trivial,Js.p0⟩,Js.p1⟩,Js.p2⟩ (by kernel_rfl) Js.eq
abbrev te16:SD:=.one (.val (.st (.pair (.int .i64) (.pair (.int .i64) (.sl (.st (.pair (.int .i64) (.pair (.int .i64) (.pair (.sl (.int .i64)) (.pair (.int .i64) (.pair (.int .i64) (.sl (.int .i64)))))))))))))
abbrev te17:SD:=.one (.val (.sl (.int .i64)))
abbrev te18:SD:=.one (.ref 9 0)
abbrev te19:SD:=.one (.ref 10 0)
abbrev te20:SO:=.box [.val (.int .i64),.val (.int .i64),.val (.sl (.st (.pair (.int .i64) (.pair (.int .i64) (.pair (.sl (.int .i64)) (.pair (.int .i64) (.pair (.int .i64) (.sl (.int .i64)))))))))]
abbrev te21:SO:=.box [.val (.int .i64),.val (.int .i64)]
abbrev te22:SD:=.one (.own 45 0)
abbrev te23:SD:=.one (.ref 15 0)
abbrev te24:SO:=.box [.val (.int .i64),.val (.int .i64),.val (.sl (.int .i64)),.val (.int .i64),.val (.int .i64),.val (.sl (.int .i64))]
abbrev te25:SO:=.arr 0 false 3 (.int .i64)
def jo.c3 {ρ:Type}  (k_:Unit→Option ρ):Option ρ:=
 k_ ()
def jo.c3s:Shape:=⟨[(0,te16),(1,te4),(2,te17),(3,te8),(6,te15),(7,te17),(8,te4),(9,te18),(10,te19)],[(3,te20),(9,te21),(10,te21)]⟩
def jo.c3x0:Shape:=jo.c3s
def jo.c3r:Ck:=Ck.of (T:=Unit) jo.c3s (fun ρ x_ k_=>jo.c3  k_) (fun ρ x_ r_ k_=>k_ 0 (Shape.inj jo.c3x0 (x_.1,x_.2.1,x_.2.2.1,[],[],(0:Int),x_.2.2.2.2.2.2.1,x_.2.2.2.2.2.2.2.1,x_.2.2.2.2.2.2.2.2.1,x_.2.2.2.2.2.2.2.2.2.2.2.1,x_.2.2.2.2.2.2.2.2.2.2.2.2.1,x_.2.2.2.2.2.2.2.2.2.2.2)))
def jo.c4 {ρ:Type} (t1:Int) (c0:Int) (k_:Bool→Option ρ):Option ρ:=
 br (decide (t1 < (0:Int)))
 (k_ true)
 (bnd (okIf (decide ((0:Int)≤c0))) fun y=>
 k_ (decide (t1≥IntKind.i64.wrap ((1:Int)*(2:Int) ^ Min.min (Int.toNat c0) (64:Nat)))))
def jo.c4s:Shape:=jo.c3s
def jo.c4x0:Shape:=⟨[(0,te16),(1,te4),(2,te17),(3,te8),(6,te15),(7,te17),(8,te4),(9,te18),(10,te19),(31,te12)],[(3,te20),(9,te21),(10,te21)]⟩
def jo.c4r:Ck:=Ck.of (T:=Bool) jo.c4s (fun ρ x_ k_=>jo.c4 x_.2.1 x_.2.2.2.2.2.2.1 k_) (fun ρ x_ r_ k_=>k_ 0 (Shape.inj jo.c4x0 (x_.1,x_.2.1,x_.2.2.1,x_.2.2.2.1,x_.2.2.2.2.1,x_.2.2.2.2.2.1,r_,x_.2.2.2.2.2.2)))
def jo.c8 {ρ:Type}  (k_:Unit→Option ρ):Option ρ:=
 k_ ()
def jo.c8s:Shape:=jo.c3s
def jo.c8x0:Shape:=jo.c3s
def jo.c8r:Ck:=Ck.of (T:=Unit) jo.c8s (fun ρ x_ k_=>jo.c8  k_) (fun ρ x_ r_ k_=>k_ 0 (Shape.inj jo.c8x0 (x_.1,x_.2.1,x_.2.2.1,[],[],(0:Int),x_.2.2.2.2.2.2.1,x_.2.2.2.2.2.2.2.1,x_.2.2.2.2.2.2.2.2.1,x_.2.2.2.2.2.2.2.2.2.2.2.1,x_.2.2.2.2.2.2.2.2.2.2.2.2.1,x_.2.2.2.2.2.2.2.2.2.2.2)))
def jo.c22 {ρ:Type} (b:Int) (k_:Bool→Option ρ):Option ρ:=
 br (b != (0:Int))
 (k_ (b != (1:Int)))
 (k_ false)
def jo.c22s:Shape:=⟨[(0,te16),(1,te4),(2,te17),(3,te8),(6,te15),(7,te17),(8,te4),(9,te18),(10,te19),(11,te15),(12,te22),(13,te4),(14,te4),(15,te23),(16,te4)],[(3,te20),(9,te21),(10,te21),(15,te24),(45,te25)]⟩
def jo.c22x0:Shape:=⟨[(0,te16),(1,te4),(2,te17),(3,te8),(6,te15),(7,te17),(8,te4),(9,te18),(10,te19),(11,te15),(12,te22),(13,te4),(14,te4),(15,te23),(16,te4),(83,te12)],[(3,te20),(9,te21),(10,te21),(15,te24),(45,te25)]⟩
def jo.c22r:Ck:=Ck.of (T:=Bool) jo.c22s (fun ρ x_ k_=>jo.c22 x_.2.2.2.2.2.2.2.2.2.1 k_) (fun ρ x_ r_ k_=>k_ 0 (Shape.inj jo.c22x0 (x_.1,x_.2.1,x_.2.2.1,x_.2.2.2.1,x_.2.2.2.2.1,x_.2.2.2.2.2.1,x_.2.2.2.2.2.2.1,x_.2.2.2.2.2.2.2.1,x_.2.2.2.2.2.2.2.2.1,x_.2.2.2.2.2.2.2.2.2.1,r_,x_.2.2.2.2.2.2.2.2.2.2)))
def jo.c261496 {ρ:Type} (tape:List Int) (v:List YN) (used:Int) (i:Int) (c2:List YO) (t45:List Int) (k_:((List YN)×Int×(List Int))⊕((List YN)×Int×Int)→Option ρ):Option ρ:=
 bnd (idx c2 i) fun y=>
 bnd (W.jD (y.1,y.2.1,y.2.2.1,y.2.2.2.1,y.2.2.2.2.1,y.2.2.2.2.2) t45) fun y_1=>
 br (!y_1)
 (k_ (.inl (v,used,t45)))
 (br (decide (y.1 < (5:Int)))
 (bnd (W.jv v (y.1,y.2.1,y.2.2.1,y.2.2.2.1,y.2.2.2.2.1,y.2.2.2.2.2)) fun y_2=>
 k_ (.inl (y_2,used,t45)))
 (br (used == (↑(List.length tape):Int))
 (bnd (W.JX (19:Int) i) fun y_3=>
 k_ (.inr (v,y_3.1,y_3.2)))
 (bnd (idx tape used) fun y_4=>
 bnd (W.jo.c22 y_4 some) fun y_5=>
 br y_5
 (bnd (W.JX (20:Int) i) fun y_6=>
 k_ (.inr (v,y_6.1,y_6.2)))
 (bnd (W.Jm v y.2.2.2.1 y_4) fun y_7=>
 bnd (W.Js y_7) fun y_8=>
 bnd (W.Jn y_8) fun y_9=>
 br y_9
 (bnd (W.JX (20:Int) i) fun y_10=>
 k_ (.inr (y_7,y_10.1,y_10.2)))
 (br (y.1 == (5:Int))
 (bnd (inR (List.length t45) y.2.2.2.2.1) fun y_11=>
 bnd (idx t45 y.2.2.2.2.1) fun y_12=>
 k_ (.inl (y_7,(IntKind.i64.wrap (used+(1:Int))),(List.set t45 (Int.toNat y.2.2.2.2.1) y_4))))
 (br (y_4 == (1:Int))
 (bnd (W.jv y_7 ((2:Int),(0:Int),[],y.2.2.2.1,(0:Int),[])) fun y_13=>
 k_ (.inl (y_13,(IntKind.i64.wrap (used+(1:Int))),t45)))
 (k_ (.inl (y_7,(IntKind.i64.wrap (used+(1:Int))),t45)))))))))
def jo.c261496s:Shape:=⟨[(0,te16),(1,te4),(2,te17),(3,te8),(6,te15),(7,te17),(8,te4),(9,te18),(10,te19),(11,te15),(12,te22),(13,te4),(14,te4)],[(3,te20),(9,te21),(10,te21),(45,te25)]⟩
def jo.c261496x0:Shape:=jo.c261496s
def jo.c261496x1:Shape:=jo.c261496s
def jo.c261496r:Ck:=Ck.of (T:=((List YN)×Int×(List Int))⊕((List YN)×Int×Int)) jo.c261496s (fun ρ x_ k_=>jo.c261496 x_.2.2.1 x_.2.2.2.2.2.2.1 x_.2.2.2.2.2.2.2.1 x_.2.2.2.2.2.2.2.2.1 x_.2.2.2.2.2.2.2.2.2.2.2.1 x_.2.2.2.2.2.2.2.2.2.2.2.2.2.2.2.2.1 k_) (fun ρ x_ r_ k_=>uP x_ fun c x_=>uP x_ fun t1 x_=>uP x_ fun tape x_=>uP x_ fun t6 x_=>uP x_ fun t7 x_=>uP x_ fun t8 x_=>uP x_ fun v x_=>uP x_ fun used x_=>uP x_ fun i x_=>uP x_ fun c0 x_=>uP x_ fun c1 x_=>uP x_ fun c2 x_=>uP x_ fun t90 x_=>uP x_ fun t91 x_=>uP x_ fun f0 x_=>uP x_ fun f1 x_=>uP x_ fun t45 x_=>sel r_ (fun r_=>k_ 0 (Shape.inj jo.c261496x0 (c,t1,tape,t6,t7,t8,r_.1,r_.2.1,i,c0,c1,c2,t90,t91,f0,f1,r_.2.2,()))) (fun r_=>k_ 1 (Shape.inj jo.c261496x1 (c,t1,tape,[],[],(0:Int),r_.1,used,i,c0,c1,c2,r_.2.1,r_.2.2,f0,f1,t45,()))))
def jo.c100013 {ρ:Type} (tape:List Int) (v:List YN) (used:Int) (i:Int) (c2:List YO) (t45:List Int) (k_:((List YN)×Int×Int×(List Int))⊕(((List YN)×Int×Int×Int×Int×(List Int))⊕((List YN)×Int×Int×(List Int)))→Option ρ):Option ρ:=
 br (decide (i < (↑(List.length c2):Int)))
 (bnd (W.jo.c261496 tape v used i c2 t45 some) fun y=>
 sel y
 (fun u=>k_ (.inl (u.1,u.2.1,(IntKind.i64.wrap (i+(1:Int))),u.2.2)))
 (fun v_1=>k_ (.inr (.inl (v_1.1,used,i,v_1.2.1,v_1.2.2,t45)))))
 (k_ (.inr (.inr (v,used,i,t45))))
def jo.c100013s:Shape:=jo.c261496s
def jo.c100013x0:Shape:=jo.c261496s
def jo.c100013x1:Shape:=jo.c261496s
def jo.c100013r:Ck:=Ck.ofLoop (S:=(List YN)×Int×Int×(List Int)) (T:=((List YN)×Int×Int×Int×Int×(List Int))⊕((List YN)×Int×Int×(List Int))) jo.c100013s (fun x_=>(x_.2.2.2.2.2.2.1,x_.2.2.2.2.2.2.2.1,x_.2.2.2.2.2.2.2.2.1,x_.2.2.2.2.2.2.2.2.2.2.2.2.2.2.2.2.1)) (fun ρ x_ s_ k_=>jo.c100013 x_.2.2.1 s_.1 s_.2.1 s_.2.2.1 x_.2.2.2.2.2.2.2.2.2.2.2.1 s_.2.2.2 k_) (fun ρ x_ r_ k_=>uP x_ fun c x_=>uP x_ fun t1 x_=>uP x_ fun tape x_=>uP x_ fun t6 x_=>uP x_ fun t7 x_=>uP x_ fun t8 x_=>uP x_ fun v x_=>uP x_ fun used x_=>uP x_ fun i x_=>uP x_ fun c0 x_=>uP x_ fun c1 x_=>uP x_ fun c2 x_=>uP x_ fun t90 x_=>uP x_ fun t91 x_=>uP x_ fun f0 x_=>uP x_ fun f1 x_=>uP x_ fun t45 x_=>sel r_ (fun r_=>k_ 1 (Shape.inj jo.c100013x0 (c,t1,tape,[],[],(0:Int),r_.1,r_.2.1,r_.2.2.1,c0,c1,c2,r_.2.2.2.1,r_.2.2.2.2.1,f0,f1,r_.2.2.2.2.2,()))) (fun r_=>k_ 2 (Shape.inj jo.c100013x1 (c,t1,tape,t6,t7,t8,r_.1,r_.2.1,r_.2.2.1,c0,c1,c2,t90,t91,f0,f1,r_.2.2.2,()))))
def jo.c32 {ρ:Type}  (k_:Unit→Option ρ):Option ρ:=
 k_ ()
def jo.c32s:Shape:=jo.c261496s
def jo.c32x0:Shape:=⟨[(0,te16),(1,te4),(2,te17),(3,te8),(6,te15),(7,te22),(8,te4),(9,te18),(10,te19),(11,te15),(12,te22),(13,te4),(14,te4)],[(3,te20),(9,te21),(10,te21),(45,te25)]⟩
def jo.c32r:Ck:=Ck.of (T:=Unit) jo.c32s (fun ρ x_ k_=>jo.c32  k_) (fun ρ x_ r_ k_=>k_ 0 (Shape.inj jo.c32x0 (x_.1,x_.2.1,x_.2.2.1,x_.2.2.2.2.2.2.1,x_.2.2.2.2.2.2.2.1,x_.2.2.2.2.2.2.1,x_.2.2.2.2.2.2.2.1,x_.2.2.2.2.2.2.2.2.1,x_.2.2.2.2.2.2.2.2.2.1,x_.2.2.2.2.2.2.2.2.2.2.1,x_.2.2.2.2.2.2.2.2.2.2.2.1,x_.2.2.2.2.2.2.2.2.2.2.2.2.2.2.1,x_.2.2.2.2.2.2.2.2.2.2.2.2.2.2.2.1,x_.2.2.2.2.2.2.2.2.2.2.2.2.2.2)))
def jo (c:Int×(Int×(List YO))) (t1:Int) (tape:List Int):Option ((List YN)×(List Int)×Int×(Int×Int)):=
 bnd (W.jV (c.1,c.2.1,c.2.2)) fun y=>
 br (y.1 != (0:Int))
 (bnd (W.jo.c3 some) fun y_1=>
 some ([],[],(0:Int),y.1,y.2))
 (bnd (W.jo.c4 t1 c.1 some) fun y_2=>
 br y_2
 (bnd (W.JX (18:Int) (0:Int)) fun y_3=>
 some ([],[],(0:Int),y_3.1,y_3.2))
 (bnd (W.Jh (c.1,c.2.1,c.2.2)) fun y_4=>
 br (y_4.1 != (0:Int))
 (bnd (W.jo.c8 some) fun y_5=>
 some ([],[],(0:Int),y_4.1,y_4.2))
 (bnd (W.kO c.1 t1) fun y_6=>
 bnd (okIf (decide ((0:Int)≤c.2.1) && decide (c.2.1≤c.2.1) && decide (c.2.1*(↑(8:Nat):Int)≤(140737488355328:Int)) && decide (c.2.1≤(140737488355328:Int)))) fun y_7=>
 bnd (iter (fun s↦W.jo.c100013 tape s.1 s.2.1 s.2.2.1 c.2.2 s.2.2.2 some) (y_6,(0:Int),(0:Int),List.replicate (Int.toNat c.2.1) (0:Int))) fun y_8=>
 sel y_8
 (fun u=>some ([],[],(0:Int),u.2.2.2.1,u.2.2.2.2.1))
 (fun v=>bnd (W.jo.c32 some) fun y_9=>
 some (v.1,v.2.2.2,v.2.1,y_4.1,y_4.2)))))
def jo.ce:Go.Ql.Callee:=⟨[(.st (.pair (.int .i64) (.pair (.int .i64) (.sl (.st (.pair (.int .i64) (.pair (.int .i64) (.pair (.sl (.int .i64)) (.pair (.int .i64) (.pair (.int .i64) (.sl (.int .i64)))))))))))),(.int .i64),(.sl (.int .i64))],[(.sl (.st (.pair (.ar 8 (.st (.pair .bool (.sl (.int .i64))))) (.int .i64)))),(.sl (.int .i64)),(.int .i64),(.st (.pair (.int .i64) (.int .i64)))],fun x_=>jo x_.1 x_.2.1 x_.2.2⟩
def jo.G:Env:=⟨117,tab,[(13,jV.ce),(44,JX.ce),(22,Jh.ce),(23,kO.ce),(46,jD.ce),(24,jv.ce),(47,Jm.ce),(49,Js.ce),(48,Jn.ce)],[0,1,2,3,6,7,8,9,10,11,12,13,14,15,16,21,31,37,50,61,64,71,83,93,100,107],[45],[(32,[⟨[],[],[114,115,116],[]⟩,⟨[],[],[113,115,116,6],[]⟩,⟨[],[],[113,114,116,6,7],[]⟩,⟨[],[],[113,114,115,6,7,8],[]⟩,⟨[0],[],[114,115,116],[]⟩,⟨[1,4,0],[],[115,116],[]⟩,⟨[2,5,1,4,0],[],[116],[]⟩,⟨[3,6,2,5,1,4,0],[9],[],[]⟩]),
 (8,[⟨[],[],[6,7,8],[6,7]⟩,⟨[],[6],[38],[]⟩,⟨[1],[7],[38],[]⟩,⟨[2,1],[],[38],[]⟩,⟨[0,3,2,1],[9],[],[]⟩]),
 (3,[⟨[],[],[6,7,8],[6,7]⟩,⟨[],[6],[22],[]⟩,⟨[1],[7],[22],[]⟩,⟨[2,1],[],[22],[]⟩,⟨[0,3,2,1],[9],[],[]⟩])],[(32,jo.c32r),(100013,jo.c100013r),(261496,jo.c261496r),(22,jo.c22r),(8,jo.c8r),(4,jo.c4r),(3,jo.c3r)],[],jZ⟩
theorem jo.eq (x_:dens jo.ce.params):den jo.G Try.f14 jo.ce.params jo.ce.res x_=jo.ce.F x_:=by kernel_rfl
theorem jo.p0:PcA jo.G Try.f14 0:=
 ju (s:=jo.c3r) (by kernel_rfl) (by kernel_rfl) (jt (sh:=jo.c3s) (fun ρ x_ k_=>jd) (fun ρ x_ t k=>(by kernel_rfl)) (fun x_=>by kernel_rfl))
theorem jo.p1:PcA jo.G Try.f14 1:=
 ju (s:=jo.c4r) (by kernel_rfl) (by kernel_rfl) (jt (sh:=jo.c4s) (fun ρ x_ k_=>(jm jd (jc fun _=>jd))) (fun ρ x_ t k=>(by kernel_rfl)) (fun x_=>by kernel_rfl))
theorem jo.p2:PcA jo.G Try.f14 2:=
 ju (s:=jo.c8r) (by kernel_rfl) (by kernel_rfl) (jt (sh:=jo.c8s) (fun ρ x_ k_=>jd) (fun ρ x_ t k=>(by kernel_rfl)) (fun x_=>by kernel_rfl))
theorem jo.p3:PcA jo.G Try.f14 3:=
 Jk (s:=jo.c100013r) (by kernel_rfl) (by kernel_rfl) (Jc (sh:=jo.c100013s) (I:=fun x_ s_=>(x_.1,x_.2.1,x_.2.2.1,x_.2.2.2.1,x_.2.2.2.2.1,x_.2.2.2.2.2.1,s_.1,s_.2.1,s_.2.2.1,x_.2.2.2.2.2.2.2.2.2.1,x_.2.2.2.2.2.2.2.2.2.2.1,x_.2.2.2.2.2.2.2.2.2.2.2.1,x_.2.2.2.2.2.2.2.2.2.2.2.2.1,x_.2.2.2.2.2.2.2.2.2.2.2.2.2.1,x_.2.2.2.2.2.2.2.2.2.2.2.2.2.2.1,x_.2.2.2.2.2.2.2.2.2.2.2.2.2.2.2.1,s_.2.2.2,())) (fun x_=>rfl) (fun ρ x_ s_ k_=>(jm (jc fun _=>(ka (fun _=>jd) (fun _=>jd))) jd)) (fun ρ x_ t k=>(ka (fun _=>(by kernel_rfl)) (fun _=>(by kernel_rfl)))) (fun x_ s=>by kernel_rfl))
theorem jo.p4:PcA jo.G Try.f14 4:=
 JV (s:=jo.c261496r) (by kernel_rfl) (by kernel_rfl) (jt (sh:=jo.c261496s) (fun ρ x_ k_=>(jc fun _=>(jc fun _=>(jm jd (jm (jc fun _=>jd) (jm (jc fun _=>jd) (jc fun _=>(jc fun _=>(jm (jc fun _=>jd) (jc fun _=>(jc fun _=>(jc fun _=>(jm (jc fun _=>jd) (jm (jc fun _=>(jc fun _=>jd)) (jm (jc fun _=>jd) jd))))))))))))))) (fun ρ x_ t k=>(ka (fun _=>(by kernel_rfl)) (fun _=>(by kernel_rfl)))) (fun x_=>by kernel_rfl))
theorem jo.p5:PcA jo.G Try.f14 5:=
 ju (s:=jo.c22r) (by kernel_rfl) (by kernel_rfl) (jt (sh:=jo.c22s) (fun ρ x_ k_=>(jm jd jd)) (fun ρ x_ t k=>(by kernel_rfl)) (fun x_=>by kernel_rfl))
theorem jo.p6:PcA jo.G Try.f14 6:=
 ju (s:=jo.c32r) (by kernel_rfl) (by kernel_rfl) (jt (sh:=jo.c32s) (fun ρ x_ k_=>jd) (fun ρ x_ t k=>(by kernel_rfl)) (fun x_=>by kernel_rfl))
theorem jo.ok:CalleeOk Try.prog 14 jo.ce:=fn_ok (G:=jo.G) Jj mixed Try.func14 ⟨(jx jV.ok (jx JX.ok (jx Jh.ok (jx kO.ok (jx jD.ok (jx jv.ok (jx Jm.ok (jx Js.ok (jx Jn.ok Ja))))))))),jR,jA⟩ (m:=7) (by kernel_rfl) ⟨⟨⟨⟨⟨⟨⟨trivial,jo.p0⟩,jo.p1⟩,jo.p2⟩,jo.p3⟩,jo.p4⟩,jo.p5⟩,jo.p6⟩ (by kernel_rfl) jo.eq
def kQ (a:YN) (b:YN):Option Bool:=
 bnd (W.ke a b) fun y=>
 bnd (W.Jn y) fun y_1=>
 some y_1
def kQ.ce:Go.Ql.Callee:=⟨[(.st (.pair (.ar 8 (.st (.pair .bool (.sl (.int .i64))))) (.int .i64))),(.st (.pair (.ar 8 (.st (.pair .bool (.sl (.int .i64))))) (.int .i64)))],[.bool],fun x_=>kQ x_.1 x_.2⟩
def kQ.G:Env:=⟨9,tab,[(100,ke.ce),(48,Jn.ce)],[0,1,2,3,4],[8000002,8000003],[],[],[],jZ⟩
theorem kQ.eq (x_:dens kQ.ce.params):den kQ.G Try.f92 kQ.ce.params kQ.ce.res x_=kQ.ce.F x_:=by kernel_rfl
theorem kQ.ok:CalleeOk Try.prog 92 kQ.ce:=fn_ok (G:=kQ.G) Jj mixed Try.func92 ⟨(jx ke.ok (jx Jn.ok Ja)),jR,jA⟩ (m:=0) (by kernel_rfl) trivial (by kernel_rfl) kQ.eq
def jW.c4 {ρ:Type} (a:List YN) (b:List YN) (x:Int) (k_:Bool→Option ρ):Option ρ:=
 bnd (idx a x) fun y=>
 bnd (idx b x) fun y_1=>
 bnd (W.kQ y y_1) fun y_2=>
 k_ (!y_2)
def jW.c4s:Shape:=⟨[(0,te15),(1,te15),(4,te12),(5,te4)],[]⟩
def jW.c4x0:Shape:=⟨[(0,te15),(1,te15),(4,te12),(5,te4),(21,te12)],[]⟩
def jW.c4r:Ck:=Ck.of (T:=Bool) jW.c4s (fun ρ x_ k_=>jW.c4 x_.1 x_.2.1 x_.2.2.2.1 k_) (fun ρ x_ r_ k_=>k_ 0 (Shape.inj jW.c4x0 (x_.1,x_.2.1,x_.2.2.1,x_.2.2.2.1,r_,())))
def jW.c100002 {ρ:Type} (a:List YN) (b:List YN) (x:Int) (k_:Int⊕(Int⊕Int)→Option ρ):Option ρ:=
 br (decide (x < (↑(List.length a):Int)))
 (bnd (W.jW.c4 a b x some) fun y=>
 br y
 (k_ (.inr (.inl x)))
 (k_ (.inl (IntKind.i64.wrap (x+(1:Int))))))
 (k_ (.inr (.inr x)))
def jW.c100002s:Shape:=jW.c4s
def jW.c100002x0:Shape:=jW.c4s
def jW.c100002x1:Shape:=jW.c4s
def jW.c100002r:Ck:=Ck.ofLoop (S:=Int) (T:=Int⊕Int) jW.c100002s (fun x_=>x_.2.2.2.1) (fun ρ x_ s_ k_=>jW.c100002 x_.1 x_.2.1 s_ k_) (fun ρ x_ r_ k_=>sel r_ (fun r_=>k_ 1 (Shape.inj jW.c100002x0 (x_.1,x_.2.1,false,r_,()))) (fun r_=>k_ 2 (Shape.inj jW.c100002x1 (x_.1,x_.2.1,x_.2.2.1,r_,()))))
def jW (a:List YN) (b:List YN):Option Bool:=
 bnd (iter (fun s↦W.jW.c100002 a b s some) (0:Int)) fun y=>
 sel y
 (fun u=>some false)
 (fun v=>some true)
def jW.ce:Go.Ql.Callee:=⟨[(.sl (.st (.pair (.ar 8 (.st (.pair .bool (.sl (.int .i64))))) (.int .i64)))),(.sl (.st (.pair (.ar 8 (.st (.pair .bool (.sl (.int .i64))))) (.int .i64))))],[.bool],fun x_=>jW x_.1 x_.2⟩
def jW.G:Env:=⟨22,tab,[(92,kQ.ce)],[0,1,4,5,9,21],[],[(4,[⟨[],[],[13,16,17,18,19],[]⟩,⟨[],[],[12,16,17,18,19],[]⟩,⟨[0,1],[],[16,17,18,19],[]⟩,⟨[2,0,1],[],[16,17,18,19],[]⟩,⟨[],[],[12,13,14,15,17],[]⟩,⟨[],[],[12,13,14,15,16],[]⟩,⟨[4,5],[],[12,13,14,15],[]⟩,⟨[6,4,5],[],[12,13,14,15],[]⟩,⟨[3,2,0,1,7,6,4,5],[],[],[]⟩,⟨[8,3,2,0,1,7,6,4,5],[],[],[]⟩])],[(100002,jW.c100002r),(4,jW.c4r)],[],jZ⟩
theorem jW.eq (x_:dens jW.ce.params):den jW.G Try.f51 jW.ce.params jW.ce.res x_=jW.ce.F x_:=by kernel_rfl
theorem jW.p0:PcA jW.G Try.f51 0:=
 Jk (s:=jW.c100002r) (by kernel_rfl) (by kernel_rfl) (Jc (sh:=jW.c100002s) (I:=fun x_ s_=>(x_.1,x_.2.1,x_.2.2.1,s_,())) (fun x_=>rfl) (fun ρ x_ s_ k_=>(jm (jc fun _=>(jm jd jd)) jd)) (fun ρ x_ t k=>(ka (fun _=>(by kernel_rfl)) (fun _=>(by kernel_rfl)))) (fun x_ s=>by kernel_rfl))
theorem jW.p1:PcA jW.G Try.f51 1:=
 ju (s:=jW.c4r) (by kernel_rfl) (by kernel_rfl) (jt (sh:=jW.c4s) (fun ρ x_ k_=>(jc fun _=>(jc fun _=>(jc fun _=>jd)))) (fun ρ x_ t k=>(by kernel_rfl)) (fun x_=>by kernel_rfl))
theorem jW.ok:CalleeOk Try.prog 51 jW.ce:=fn_ok (G:=jW.G) Jj mixed Try.func51 ⟨(jx kQ.ok Ja),jR,jA⟩ (m:=2) (by kernel_rfl) ⟨⟨trivial,jW.p0⟩,jW.p1⟩ (by kernel_rfl) jW.eq
abbrev te26:SD:=.one (.val (.st (.pair .bool .str)))
abbrev te27:SO:=.box [.val .bool,.val .str]
def jC.c3 {ρ:Type} (c:Int) (p1:List UInt8) (k_:Bool→Option ρ):Option ρ:=
 bnd (idx p1 c) fun y=>
 br ((↑(UInt8.toNat y):Int) == (88:Int))
 (k_ true)
 (bnd (idx p1 c) fun y_1=>
 k_ ((↑(UInt8.toNat y_1):Int) == (89:Int)))
def jC.c3s:Shape:=⟨[(0,te26),(1,te4),(2,te7),(4,te12),(5,te4)],[(2,te27)]⟩
def jC.c3x0:Shape:=jC.c3s
def jC.c3r:Ck:=Ck.of (T:=Bool) jC.c3s (fun ρ x_ k_=>jC.c3 x_.2.1 x_.2.2.2.2.2.1 k_) (fun ρ x_ r_ k_=>k_ 0 (Shape.inj jC.c3x0 (x_.1,x_.2.1,r_,x_.2.2.2)))
def jC.c4 {ρ:Type} (c:Int) (n:Int) (p1:List UInt8) (k_:Bool→Option ρ):Option ρ:=
 bnd (idx p1 (IntKind.i64.wrap (c - n))) fun y=>
 br ((↑(UInt8.toNat y):Int) == (90:Int))
 (k_ true)
 (bnd (idx p1 (IntKind.i64.wrap (c - n))) fun y_1=>
 k_ ((↑(UInt8.toNat y_1):Int) == (89:Int)))
def jC.c4s:Shape:=jC.c3s
def jC.c4x0:Shape:=jC.c3s
def jC.c4r:Ck:=Ck.of (T:=Bool) jC.c4s (fun ρ x_ k_=>jC.c4 x_.2.1 x_.2.2.2.1 x_.2.2.2.2.2.1 k_) (fun ρ x_ r_ k_=>k_ 0 (Shape.inj jC.c4x0 (x_.1,x_.2.1,r_,x_.2.2.2)))
def jC (p:Bool×(List UInt8)) (c:Int):Option Bool:=
 br (decide (c < (↑(List.length p.2):Int)))
 (bnd (W.jC.c3 c p.2 some) fun y=>
 some y)
 (bnd (W.jC.c4 c (↑(List.length p.2):Int) p.2 some) fun y_1=>
 some y_1)
def jC.ce:Go.Ql.Callee:=⟨[(.st (.pair .bool .str)),(.int .i64)],[.bool],fun x_=>jC x_.1 x_.2⟩
def jC.G:Env:=⟨40,tab,[],[0,1,2,4,5,11],[],[],[(4,jC.c4r),(3,jC.c3r)],[],jZ⟩
theorem jC.eq (x_:dens jC.ce.params):den jC.G Try.f53 jC.ce.params jC.ce.res x_=jC.ce.F x_:=by kernel_rfl
theorem jC.p0:PcA jC.G Try.f53 0:=
 ju (s:=jC.c3r) (by kernel_rfl) (by kernel_rfl) (jt (sh:=jC.c3s) (fun ρ x_ k_=>(jc fun _=>(jm jd (jc fun _=>jd)))) (fun ρ x_ t k=>(by kernel_rfl)) (fun x_=>by kernel_rfl))
theorem jC.p1:PcA jC.G Try.f53 1:=
 ju (s:=jC.c4r) (by kernel_rfl) (by kernel_rfl) (jt (sh:=jC.c4s) (fun ρ x_ k_=>(jc fun _=>(jm jd (jc fun _=>jd)))) (fun ρ x_ t k=>(by kernel_rfl)) (fun x_=>by kernel_rfl))
theorem jC.ok:CalleeOk Try.prog 53 jC.ce:=fn_ok (G:=jC.G) Jj mixed Try.func53 ⟨Ja,jR,jA⟩ (m:=2) (by kernel_rfl) ⟨⟨trivial,jC.p0⟩,jC.p1⟩ (by kernel_rfl) jC.eq
abbrev te28:SD:=.one (.ref 1 0)
def jT.c100002 {ρ:Type} (c:Int) (p0:Bool) (p1:List UInt8) (k_:Int⊕((Int×Int)⊕Int)→Option ρ):Option ρ:=
 br (decide (c < IntKind.i64.wrap ((2:Int)*(↑(List.length p1):Int))))
 (bnd (W.jC (p0,p1) c) fun y=>
 br y
 (k_ (.inr (.inl (c,c))))
 (k_ (.inl (IntKind.i64.wrap (c+(1:Int))))))
 (k_ (.inr (.inr c)))
def jT.c100002s:Shape:=⟨[(0,te26),(1,te28),(2,te4),(3,te4)],[(1,te27)]⟩
def jT.c100002x0:Shape:=jT.c100002s
def jT.c100002x1:Shape:=jT.c100002s
def jT.c100002r:Ck:=Ck.ofLoop (S:=Int) (T:=(Int×Int)⊕Int) jT.c100002s (fun x_=>x_.2.2.1) (fun ρ x_ s_ k_=>jT.c100002 s_ x_.2.2.2.1 x_.2.2.2.2.1 k_) (fun ρ x_ r_ k_=>sel r_ (fun r_=>k_ 1 (Shape.inj jT.c100002x0 (x_.1,r_.1,r_.2,x_.2.2.2))) (fun r_=>k_ 2 (Shape.inj jT.c100002x1 (x_.1,x_.2.1,r_,x_.2.2.2))))
def jT (p:Bool×(List UInt8)):Option Int:=
 bnd (iter (fun s↦W.jT.c100002 s p.1 p.2 some) (0:Int)) fun y=>
 sel y
 (fun u=>some u.1)
 (fun v=>some (-1:Int))
def jT.ce:Go.Ql.Callee:=⟨[(.st (.pair .bool .str))],[(.int .i64)],fun x_=>jT x_⟩
def jT.G:Env:=⟨16,tab,[(53,jC.ce)],[0,1,2,3,9,14],[],[],[(100002,jT.c100002r)],[],jZ⟩
theorem jT.eq (x_:dens jT.ce.params):den jT.G Try.f52 jT.ce.params jT.ce.res x_=jT.ce.F x_:=by kernel_rfl
theorem jT.p0:PcA jT.G Try.f52 0:=
 Jk (s:=jT.c100002r) (by kernel_rfl) (by kernel_rfl) (Jc (sh:=jT.c100002s) (I:=fun x_ s_=>(x_.1,x_.2.1,s_,x_.2.2.2)) (fun x_=>rfl) (fun ρ x_ s_ k_=>(jm (jc fun _=>(jm jd jd)) jd)) (fun ρ x_ t k=>(ka (fun _=>(by kernel_rfl)) (fun _=>(by kernel_rfl)))) (fun x_ s=>by kernel_rfl))
theorem jT.ok:CalleeOk Try.prog 52 jT.ce:=fn_ok (G:=jT.G) Jj mixed Try.func52 ⟨(jx jC.ok Ja),jR,jA⟩ (m:=1) (by kernel_rfl) ⟨trivial,jT.p0⟩ (by kernel_rfl) jT.eq
def kc (p:Bool×(List UInt8)):Option (List UInt8):=
 br p.1
 (bnd (okIf (decide (List.length (Array.toList (ByteArray.data (ByteArray.mk #[(45:UInt8)])))+List.length p.2≤(9223372036854775807:Nat)))) fun y=>
 some (Array.toList (ByteArray.data (ByteArray.mk #[(45:UInt8)]))++p.2))
 (bnd (okIf (decide (List.length (Array.toList (ByteArray.data (ByteArray.mk #[(43:UInt8)])))+List.length p.2≤(9223372036854775807:Nat)))) fun y_1=>
 some (Array.toList (ByteArray.data (ByteArray.mk #[(43:UInt8)]))++p.2))
def kc.ce:Go.Ql.Callee:=⟨[(.st (.pair .bool .str))],[.str],fun x_=>kc x_⟩
def kc.G:Env:=⟨11,tab,[],[0,1,2,4],[],[],[],[],jZ⟩
theorem kc.eq (x_:dens kc.ce.params):den kc.G Try.f54 kc.ce.params kc.ce.res x_=kc.ce.F x_:=by kernel_rfl
theorem kc.ok:CalleeOk Try.prog 54 kc.ce:=fn_ok (G:=kc.G) Jj mixed Try.func54 ⟨Ja,jR,jA⟩ (m:=0) (by kernel_rfl) trivial (by kernel_rfl) kc.eq
abbrev te29:SD:=.one (.val (.sl .str))
abbrev te30:SD:=.one (.own 5 0)
abbrev te31:SD:=.one (.val .str)
abbrev te32:SO:=.arr 0 false 40 (.st (.pair .bool .str))
abbrev te33:SD:=.one (.own 62 0)
abbrev te34:SO:=.arr 0 false 4 .bool
abbrev te35:SD:=.one (.own 15 0)
abbrev te36:SO:=.arr 0 false 9 .str
def jf.c100007 {ρ:Type} (n:Int) (t6:Int) (t7:List UInt8) (q:Int) (k_:((List UInt8)×Int)⊕((List UInt8)×Int)→Option ρ):Option ρ:=
 br (decide (q < n))
 (bnd (okIf (decide ((0:Int)≤IntKind.i64.wrap ((2:Int)*q)))) fun y=>
 bnd (okIf (decide ((0:Int)≤ibits BinOp.and IntKind.i64 (Int.fdiv t6 ((2:Int) ^ Min.min (Int.toNat (IntKind.i64.wrap ((2:Int)*q))) (64:Nat))) (3:Int)) && decide (ibits BinOp.and IntKind.i64 (Int.fdiv t6 ((2:Int) ^ Min.min (Int.toNat (IntKind.i64.wrap ((2:Int)*q))) (64:Nat))) (3:Int)≤IntKind.i64.wrap (ibits BinOp.and IntKind.i64 (Int.fdiv t6 ((2:Int) ^ Min.min (Int.toNat (IntKind.i64.wrap ((2:Int)*q))) (64:Nat))) (3:Int)+(1:Int))) && decide (IntKind.i64.wrap (ibits BinOp.and IntKind.i64 (Int.fdiv t6 ((2:Int) ^ Min.min (Int.toNat (IntKind.i64.wrap ((2:Int)*q))) (64:Nat))) (3:Int)+(1:Int))≤(↑(List.length (Array.toList (ByteArray.data (ByteArray.mk #[(73:UInt8),(88:UInt8),(89:UInt8),(90:UInt8)])))):Int)))) fun y_1=>
 bnd (okIf (decide (List.length t7+List.length (List.drop (Int.toNat (ibits BinOp.and IntKind.i64 (Int.fdiv t6 ((2:Int) ^ Min.min (Int.toNat (IntKind.i64.wrap ((2:Int)*q))) (64:Nat))) (3:Int))) (List.take (Int.toNat (IntKind.i64.wrap (ibits BinOp.and IntKind.i64 (Int.fdiv t6 ((2:Int) ^ Min.min (Int.toNat (IntKind.i64.wrap ((2:Int)*q))) (64:Nat))) (3:Int)+(1:Int)))) (Array.toList (ByteArray.data (ByteArray.mk #[(73:UInt8),(88:UInt8),(89:UInt8),(90:UInt8)])))))≤(9223372036854775807:Nat)))) fun y_2=>
 k_ (.inl ((t7++List.drop (Int.toNat (ibits BinOp.and IntKind.i64 (Int.fdiv t6 ((2:Int) ^ Min.min (Int.toNat (IntKind.i64.wrap ((2:Int)*q))) (64:Nat))) (3:Int))) (List.take (Int.toNat (IntKind.i64.wrap (ibits BinOp.and IntKind.i64 (Int.fdiv t6 ((2:Int) ^ Min.min (Int.toNat (IntKind.i64.wrap ((2:Int)*q))) (64:Nat))) (3:Int)+(1:Int)))) (Array.toList (ByteArray.data (ByteArray.mk #[(73:UInt8),(88:UInt8),(89:UInt8),(90:UInt8)]))))),(IntKind.i64.wrap (q+(1:Int))))))
 (k_ (.inr (t7,q)))
def jf.c100007s:Shape:=⟨[(0,te15),(1,te4),(4,te29),(5,te30),(6,te4),(7,te31),(8,te4)],[(5,te32)]⟩
def jf.c100007x0:Shape:=jf.c100007s
def jf.c100007r:Ck:=Ck.ofLoop (S:=(List UInt8)×Int) (T:=(List UInt8)×Int) jf.c100007s (fun x_=>(x_.2.2.2.2.1,x_.2.2.2.2.2.1)) (fun ρ x_ s_ k_=>jf.c100007 x_.2.1 x_.2.2.2.1 s_.1 s_.2 k_) (fun ρ x_ r_ k_=>k_ 4 (Shape.inj jf.c100007x0 (x_.1,x_.2.1,x_.2.2.1,x_.2.2.2.1,r_.1,r_.2,x_.2.2.2.2.2.2)))
def jf.c257352 {ρ:Type} (v:List YN) (t7:List UInt8) (s:Int) (all:List (Bool×(List UInt8))) (k_:List (Bool×(List UInt8))→Option ρ):Option ρ:=
 bnd (W.jG (s == (1:Int),t7) v) fun y=>
 bnd (W.jW y v) fun y_1=>
 br y_1
 (bnd (okIf (decide ((List.length all+(1:Nat))*(24:Nat)≤(140737488355328:Nat)) && decide (List.length all+(1:Nat)≤(140737488355328:Nat)))) fun y_2=>
 k_ (all++[(s == (1:Int),t7)]))
 (k_ all)
def jf.c257352s:Shape:=⟨[(0,te15),(1,te4),(4,te29),(5,te30),(6,te4),(7,te31),(8,te4),(10,te4)],[(5,te32)]⟩
def jf.c257352x0:Shape:=jf.c257352s
def jf.c257352r:Ck:=Ck.of (T:=List (Bool×(List UInt8))) jf.c257352s (fun ρ x_ k_=>jf.c257352 x_.1 x_.2.2.2.2.1 x_.2.2.2.2.2.2.1 x_.2.2.2.2.2.2.2.1 k_) (fun ρ x_ r_ k_=>k_ 0 (Shape.inj jf.c257352x0 (x_.1,x_.2.1,x_.2.2.1,x_.2.2.2.1,x_.2.2.2.2.1,x_.2.2.2.2.2.1,x_.2.2.2.2.2.2.1,r_,())))
def jf.c100012 {ρ:Type} (v:List YN) (t7:List UInt8) (s:Int) (all:List (Bool×(List UInt8))) (k_:(Int×(List (Bool×(List UInt8))))⊕(Int×(List (Bool×(List UInt8))))→Option ρ):Option ρ:=
 br (decide (s < (2:Int)))
 (bnd (W.jf.c257352 v t7 s all some) fun y=>
 k_ (.inl ((IntKind.i64.wrap (s+(1:Int))),y)))
 (k_ (.inr (s,all)))
def jf.c100012s:Shape:=jf.c257352s
def jf.c100012x0:Shape:=jf.c257352s
def jf.c100012r:Ck:=Ck.ofLoop (S:=Int×(List (Bool×(List UInt8)))) (T:=Int×(List (Bool×(List UInt8)))) jf.c100012s (fun x_=>(x_.2.2.2.2.2.2.1,x_.2.2.2.2.2.2.2.1)) (fun ρ x_ s_ k_=>jf.c100012 x_.1 x_.2.2.2.2.1 s_.1 s_.2 k_) (fun ρ x_ r_ k_=>k_ 6 (Shape.inj jf.c100012x0 (x_.1,x_.2.1,x_.2.2.1,x_.2.2.2.1,x_.2.2.2.2.1,x_.2.2.2.2.2.1,r_.1,r_.2,())))
def jf.c100003 {ρ:Type} (v:List YN) (n:Int) (t6:Int) (all:List (Bool×(List UInt8))) (k_:(Int×(List (Bool×(List UInt8))))⊕(Int×(List (Bool×(List UInt8))))→Option ρ):Option ρ:=
 bnd (okIf (decide ((0:Int)≤IntKind.i64.wrap ((2:Int)*n)))) fun y=>
 br (decide (t6 < IntKind.i64.wrap ((1:Int)*(2:Int) ^ Min.min (Int.toNat (IntKind.i64.wrap ((2:Int)*n))) (64:Nat))))
 (bnd (iter (fun s↦W.jf.c100007 n t6 s.1 s.2 some) (Array.toList (ByteArray.data (ByteArray.mk #[])),(0:Int))) fun y_1=>
 bnd (iter (fun s↦W.jf.c100012 v y_1.1 s.1 s.2 some) ((0:Int),all)) fun y_2=>
 k_ (.inl ((IntKind.i64.wrap (t6+(1:Int))),y_2.2)))
 (k_ (.inr (t6,all)))
def jf.c100003s:Shape:=⟨[(0,te15),(1,te4),(4,te29),(5,te30),(6,te4)],[(5,te32)]⟩
def jf.c100003x0:Shape:=jf.c100003s
def jf.c100003r:Ck:=Ck.ofLoop (S:=Int×(List (Bool×(List UInt8)))) (T:=Int×(List (Bool×(List UInt8)))) jf.c100003s (fun x_=>(x_.2.2.2.1,x_.2.2.2.2.1)) (fun ρ x_ s_ k_=>jf.c100003 x_.1 x_.2.1 s_.1 s_.2 k_) (fun ρ x_ r_ k_=>k_ 2 (Shape.inj jf.c100003x0 (x_.1,x_.2.1,x_.2.2.1,r_.1,r_.2,())))
def jf.c286024 {ρ:Type} (i:Int) (all:List (Bool×(List UInt8))) (t62:List Bool) (k_:List Bool→Option ρ):Option ρ:=
 bnd (inR (List.length all) i) fun y=>
 bnd (idx all i) fun y_1=>
 bnd (W.jT y_1) fun y_2=>
 br (decide (y_2≥(0:Int)))
 (bnd (inR (List.length t62) y_2) fun y_3=>
 bnd (idx t62 y_2) fun y_4=>
 k_ (List.set t62 (Int.toNat y_2) true))
 (k_ t62)
def jf.c286024s:Shape:=⟨[(0,te15),(1,te4),(4,te29),(5,te30),(6,te4),(12,te33),(13,te4)],[(5,te32),(62,te34)]⟩
def jf.c286024x0:Shape:=jf.c286024s
def jf.c286024r:Ck:=Ck.of (T:=List Bool) jf.c286024s (fun ρ x_ k_=>jf.c286024 x_.2.2.2.2.1 x_.2.2.2.2.2.1 x_.2.2.2.2.2.2.1 k_) (fun ρ x_ r_ k_=>k_ 0 (Shape.inj jf.c286024x0 (x_.1,x_.2.1,x_.2.2.1,x_.2.2.2.1,x_.2.2.2.2.1,x_.2.2.2.2.2.1,r_,())))
def jf.c100019 {ρ:Type} (i:Int) (all:List (Bool×(List UInt8))) (t62:List Bool) (k_:(Int×(List Bool))⊕(Int×(List Bool))→Option ρ):Option ρ:=
 br (decide (i < (↑(List.length all):Int)))
 (bnd (W.jf.c286024 i all t62 some) fun y=>
 k_ (.inl ((IntKind.i64.wrap (i+(1:Int))),y)))
 (k_ (.inr (i,t62)))
def jf.c100019s:Shape:=jf.c286024s
def jf.c100019x0:Shape:=jf.c286024s
def jf.c100019r:Ck:=Ck.ofLoop (S:=Int×(List Bool)) (T:=Int×(List Bool)) jf.c100019s (fun x_=>(x_.2.2.2.2.1,x_.2.2.2.2.2.2.1)) (fun ρ x_ s_ k_=>jf.c100019 s_.1 x_.2.2.2.2.2.1 s_.2 k_) (fun ρ x_ r_ k_=>k_ 8 (Shape.inj jf.c100019x0 (x_.1,x_.2.1,x_.2.2.1,x_.2.2.2.1,r_.1,x_.2.2.2.2.2.1,r_.2,())))
def jf.c29 {ρ:Type} (c:Int) (i_1:Int) (all:List (Bool×(List UInt8))) (t62:List Bool) (k_:Bool→Option ρ):Option ρ:=
 br (decide (i_1 < (↑(List.length all):Int)))
 (bnd (inR (List.length t62) c) fun y=>
 bnd (idx t62 c) fun y_1=>
 k_ y_1)
 (k_ false)
def jf.c29s:Shape:=⟨[(0,te15),(1,te4),(4,te29),(5,te30),(6,te4),(12,te33),(13,te4),(15,te35),(16,te4),(17,te4)],[(5,te32),(15,te36),(62,te34)]⟩
def jf.c29x0:Shape:=⟨[(0,te15),(1,te4),(4,te29),(5,te30),(6,te4),(12,te33),(13,te4),(15,te35),(16,te4),(17,te4),(94,te12)],[(5,te32),(15,te36),(62,te34)]⟩
def jf.c29r:Ck:=Ck.of (T:=Bool) jf.c29s (fun ρ x_ k_=>jf.c29 x_.2.2.2.2.2.1 x_.2.2.2.2.2.2.1 x_.2.2.2.2.2.2.2.1 x_.2.2.2.2.2.2.2.2.2.1 k_) (fun ρ x_ r_ k_=>k_ 0 (Shape.inj jf.c29x0 (x_.1,x_.2.1,x_.2.2.1,x_.2.2.2.1,x_.2.2.2.2.1,x_.2.2.2.2.2.1,x_.2.2.2.2.2.2.1,r_,x_.2.2.2.2.2.2.2)))
def jf.c35 {ρ:Type} (i_1:Int) (fits:Bool) (d:Int) (all:List (Bool×(List UInt8))) (t62:List Bool) (k_:Bool→Option ρ):Option ρ:=
 br fits
 (bnd (inR (List.length t62) d) fun y=>
 bnd (idx t62 d) fun y_1=>
 br y_1
 (bnd (inR (List.length all) i_1) fun y_2=>
 bnd (idx all i_1) fun y_3=>
 bnd (W.jC y_3 d) fun y_4=>
 k_ (!y_4))
 (k_ (!false)))
 (k_ false)
def jf.c35s:Shape:=⟨[(0,te15),(1,te4),(4,te29),(5,te30),(6,te4),(12,te33),(13,te4),(15,te35),(16,te4),(17,te4),(18,te12),(19,te4)],[(5,te32),(15,te36),(62,te34)]⟩
def jf.c35x0:Shape:=jf.c35s
def jf.c35r:Ck:=Ck.of (T:=Bool) jf.c35s (fun ρ x_ k_=>jf.c35 x_.2.2.2.2.2.2.1 x_.2.2.2.2.2.2.2.1 x_.2.2.2.2.2.2.2.2.1 x_.2.2.2.2.2.2.2.2.2.1 x_.2.2.2.2.2.2.2.2.2.2.2.1 k_) (fun ρ x_ r_ k_=>k_ 0 (Shape.inj jf.c35x0 (x_.1,x_.2.1,x_.2.2.1,x_.2.2.2.1,x_.2.2.2.2.1,x_.2.2.2.2.2.1,x_.2.2.2.2.2.2.1,r_,x_.2.2.2.2.2.2.2.2)))
def jf.c100033 {ρ:Type} (n:Int) (i_1:Int) (fits:Bool) (d:Int) (all:List (Bool×(List UInt8))) (t62:List Bool) (k_:(Bool×Int)⊕(Bool×Int)→Option ρ):Option ρ:=
 br (decide (d < IntKind.i64.wrap ((2:Int)*n)))
 (bnd (W.jf.c35 i_1 fits d all t62 some) fun y=>
 k_ (.inl (y,(IntKind.i64.wrap (d+(1:Int))))))
 (k_ (.inr (fits,d)))
def jf.c100033s:Shape:=jf.c35s
def jf.c100033x0:Shape:=jf.c35s
def jf.c100033r:Ck:=Ck.ofLoop (S:=Bool×Int) (T:=Bool×Int) jf.c100033s (fun x_=>(x_.2.2.2.2.2.2.2.1,x_.2.2.2.2.2.2.2.2.1)) (fun ρ x_ s_ k_=>jf.c100033 x_.2.1 x_.2.2.2.2.2.2.1 s_.1 s_.2 x_.2.2.2.2.2.2.2.2.2.1 x_.2.2.2.2.2.2.2.2.2.2.2.1 k_) (fun ρ x_ r_ k_=>k_ 14 (Shape.inj jf.c100033x0 (x_.1,x_.2.1,x_.2.2.1,x_.2.2.2.1,x_.2.2.2.2.1,x_.2.2.2.2.2.1,x_.2.2.2.2.2.2.1,r_.1,r_.2,x_.2.2.2.2.2.2.2.2.2)))
def jf.c326999 {ρ:Type} (n:Int) (c:Int) (i_1:Int) (all:List (Bool×(List UInt8))) (out:List (List UInt8)) (t62:List Bool) (k_:List (List UInt8)→Option ρ):Option ρ:=
 bnd (inR (List.length all) i_1) fun y=>
 bnd (idx all i_1) fun y_1=>
 bnd (W.jT y_1) fun y_2=>
 bnd (iter (fun s↦W.jf.c100033 n i_1 s.1 s.2 all t62 some) (y_2 == c,IntKind.i64.wrap (c+(1:Int)))) fun y_3=>
 br y_3.1
 (bnd (inR (List.length all) i_1) fun y_4=>
 bnd (idx all i_1) fun y_5=>
 bnd (W.kc y_5) fun y_6=>
 bnd (okIf (decide ((List.length out+(1:Nat))*(16:Nat)≤(140737488355328:Nat)) && decide (List.length out+(1:Nat)≤(140737488355328:Nat)))) fun y_7=>
 k_ (out++[y_6]))
 (k_ out)
def jf.c326999s:Shape:=jf.c29s
def jf.c326999x0:Shape:=jf.c29s
def jf.c326999r:Ck:=Ck.of (T:=List (List UInt8)) jf.c326999s (fun ρ x_ k_=>jf.c326999 x_.2.1 x_.2.2.2.2.2.1 x_.2.2.2.2.2.2.1 x_.2.2.2.2.2.2.2.1 x_.2.2.2.2.2.2.2.2.1 x_.2.2.2.2.2.2.2.2.2.1 k_) (fun ρ x_ r_ k_=>k_ 0 (Shape.inj jf.c326999x0 (x_.1,x_.2.1,x_.2.2.1,x_.2.2.2.1,x_.2.2.2.2.1,x_.2.2.2.2.2.1,x_.2.2.2.2.2.2.1,x_.2.2.2.2.2.2.2.1,r_,x_.2.2.2.2.2.2.2.2.2)))
def jf.c100029 {ρ:Type} (n:Int) (c:Int) (i_1:Int) (all:List (Bool×(List UInt8))) (out:List (List UInt8)) (t62:List Bool) (k_:(Int×(List (List UInt8)))⊕(Int×(List (List UInt8)))→Option ρ):Option ρ:=
 bnd (W.jf.c29 c i_1 all t62 some) fun y=>
 br y
 (bnd (W.jf.c326999 n c i_1 all out t62 some) fun y_1=>
 k_ (.inl ((IntKind.i64.wrap (i_1+(1:Int))),y_1)))
 (k_ (.inr (i_1,out)))
def jf.c100029s:Shape:=jf.c29s
def jf.c100029x0:Shape:=jf.c29s
def jf.c100029r:Ck:=Ck.ofLoop (S:=Int×(List (List UInt8))) (T:=Int×(List (List UInt8))) jf.c100029s (fun x_=>(x_.2.2.2.2.2.2.1,x_.2.2.2.2.2.2.2.2.1)) (fun ρ x_ s_ k_=>jf.c100029 x_.2.1 x_.2.2.2.2.2.1 s_.1 x_.2.2.2.2.2.2.2.1 s_.2 x_.2.2.2.2.2.2.2.2.2.1 k_) (fun ρ x_ r_ k_=>k_ 12 (Shape.inj jf.c100029x0 (x_.1,x_.2.1,x_.2.2.1,x_.2.2.2.1,x_.2.2.2.2.1,x_.2.2.2.2.2.1,r_.1,x_.2.2.2.2.2.2.2.1,r_.2,x_.2.2.2.2.2.2.2.2.2)))
def jf.c100026 {ρ:Type} (n:Int) (c:Int) (all:List (Bool×(List UInt8))) (out:List (List UInt8)) (t62:List Bool) (k_:(Int×(List (List UInt8)))⊕(Int×(List (List UInt8)))→Option ρ):Option ρ:=
 br (decide (c < IntKind.i64.wrap ((2:Int)*n)))
 (bnd (iter (fun s↦W.jf.c100029 n c s.1 all s.2 t62 some) ((0:Int),out)) fun y=>
 k_ (.inl ((IntKind.i64.wrap (c+(1:Int))),y.2)))
 (k_ (.inr (c,out)))
def jf.c100026s:Shape:=⟨[(0,te15),(1,te4),(4,te29),(5,te30),(6,te4),(12,te33),(13,te4),(15,te35),(16,te4)],[(5,te32),(15,te36),(62,te34)]⟩
def jf.c100026x0:Shape:=jf.c100026s
def jf.c100026r:Ck:=Ck.ofLoop (S:=Int×(List (List UInt8))) (T:=Int×(List (List UInt8))) jf.c100026s (fun x_=>(x_.2.2.2.2.2.1,x_.2.2.2.2.2.2.2.1)) (fun ρ x_ s_ k_=>jf.c100026 x_.2.1 s_.1 x_.2.2.2.2.2.2.1 s_.2 x_.2.2.2.2.2.2.2.2.1 k_) (fun ρ x_ r_ k_=>k_ 10 (Shape.inj jf.c100026x0 (x_.1,x_.2.1,x_.2.2.1,x_.2.2.2.1,x_.2.2.2.2.1,r_.1,x_.2.2.2.2.2.2.1,r_.2,x_.2.2.2.2.2.2.2.2)))
def jf (v:List YN) (n:Int):Option (List (List UInt8)):=
 bnd (iter (fun s↦W.jf.c100003 v n s.1 s.2 some) ((0:Int),[])) fun y=>
 bnd (okIf (decide ((0:Int)≤IntKind.i64.wrap ((2:Int)*n)) && decide (IntKind.i64.wrap ((2:Int)*n)≤IntKind.i64.wrap ((2:Int)*n)) && decide (IntKind.i64.wrap ((2:Int)*n)*(↑(1:Nat):Int)≤(140737488355328:Int)) && decide (IntKind.i64.wrap ((2:Int)*n)≤(140737488355328:Int)))) fun y_1=>
 bnd (iter (fun s↦W.jf.c100019 s.1 y.2 s.2 some) ((0:Int),List.replicate (Int.toNat (IntKind.i64.wrap ((2:Int)*n))) false)) fun y_2=>
 bnd (iter (fun s↦W.jf.c100026 n s.1 y.2 s.2 y_2.2 some) ((0:Int),[])) fun y_3=>
 some y_3.2
def jf.ce:Go.Ql.Callee:=⟨[(.sl (.st (.pair (.ar 8 (.st (.pair .bool (.sl (.int .i64))))) (.int .i64)))),(.int .i64)],[(.sl .str)],fun x_=>jf x_.1 x_.2⟩
def jf.G:Env:=⟨138,tab,[(18,jG.ce),(51,jW.ce),(52,jT.ce),(53,jC.ce),(54,kc.ce)],[0,1,4,5,6,7,8,9,10,11,12,13,14,15,16,17,18,19,24,29,44,55,66,75,82,94,109,128],[5,15,62],[],[(100026,jf.c100026r),(100029,jf.c100029r),(326999,jf.c326999r),(100033,jf.c100033r),(35,jf.c35r),(29,jf.c29r),(100019,jf.c100019r),(286024,jf.c286024r),(100003,jf.c100003r),(100012,jf.c100012r),(257352,jf.c257352r),(100007,jf.c100007r)],[],jZ⟩
theorem jf.eq (x_:dens jf.ce.params):den jf.G Try.f19 jf.ce.params jf.ce.res x_=jf.ce.F x_:=by kernel_rfl
theorem jf.p0:PcA jf.G Try.f19 0:=
 Jk (s:=jf.c100003r) (by kernel_rfl) (by kernel_rfl) (Jc (sh:=jf.c100003s) (I:=fun x_ s_=>(x_.1,x_.2.1,x_.2.2.1,s_.1,s_.2,())) (fun x_=>rfl) (fun ρ x_ s_ k_=>(jc fun _=>(jm (jc fun _=>(jc fun _=>jd)) jd))) (fun ρ x_ t k=>(by kernel_rfl)) (fun x_ s=>by kernel_rfl))
theorem jf.p1:PcA jf.G Try.f19 1:=
 Jk (s:=jf.c100007r) (by kernel_rfl) (by kernel_rfl) (Jc (sh:=jf.c100007s) (I:=fun x_ s_=>(x_.1,x_.2.1,x_.2.2.1,x_.2.2.2.1,s_.1,s_.2,x_.2.2.2.2.2.2)) (fun x_=>rfl) (fun ρ x_ s_ k_=>(jm (jc fun _=>(jc fun _=>(jc fun _=>jd))) jd)) (fun ρ x_ t k=>(by kernel_rfl)) (fun x_ s=>by kernel_rfl))
theorem jf.p2:PcA jf.G Try.f19 2:=
 Jk (s:=jf.c100012r) (by kernel_rfl) (by kernel_rfl) (Jc (sh:=jf.c100012s) (I:=fun x_ s_=>(x_.1,x_.2.1,x_.2.2.1,x_.2.2.2.1,x_.2.2.2.2.1,x_.2.2.2.2.2.1,s_.1,s_.2,())) (fun x_=>rfl) (fun ρ x_ s_ k_=>(jm (jc fun _=>jd) jd)) (fun ρ x_ t k=>(by kernel_rfl)) (fun x_ s=>by kernel_rfl))
theorem jf.p3:PcA jf.G Try.f19 3:=
 JV (s:=jf.c257352r) (by kernel_rfl) (by kernel_rfl) (jt (sh:=jf.c257352s) (fun ρ x_ k_=>(jc fun _=>(jc fun _=>(jm (jc fun _=>jd) jd)))) (fun ρ x_ t k=>(by kernel_rfl)) (fun x_=>by kernel_rfl))
theorem jf.p4:PcA jf.G Try.f19 4:=
 Jk (s:=jf.c100019r) (by kernel_rfl) (by kernel_rfl) (Jc (sh:=jf.c100019s) (I:=fun x_ s_=>(x_.1,x_.2.1,x_.2.2.1,x_.2.2.2.1,s_.1,x_.2.2.2.2.2.1,s_.2,())) (fun x_=>rfl) (fun ρ x_ s_ k_=>(jm (jc fun _=>jd) jd)) (fun ρ x_ t k=>(by kernel_rfl)) (fun x_ s=>by kernel_rfl))
theorem jf.p5:PcA jf.G Try.f19 5:=
 JV (s:=jf.c286024r) (by kernel_rfl) (by kernel_rfl) (jt (sh:=jf.c286024s) (fun ρ x_ k_=>(jc fun _=>(jc fun _=>(jc fun _=>(jm (jc fun _=>(jc fun _=>jd)) jd))))) (fun ρ x_ t k=>(by kernel_rfl)) (fun x_=>by kernel_rfl))
theorem jf.p6:PcA jf.G Try.f19 6:=
 Jk (s:=jf.c100026r) (by kernel_rfl) (by kernel_rfl) (Jc (sh:=jf.c100026s) (I:=fun x_ s_=>(x_.1,x_.2.1,x_.2.2.1,x_.2.2.2.1,x_.2.2.2.2.1,s_.1,x_.2.2.2.2.2.2.1,s_.2,x_.2.2.2.2.2.2.2.2)) (fun x_=>rfl) (fun ρ x_ s_ k_=>(jm (jc fun _=>jd) jd)) (fun ρ x_ t k=>(by kernel_rfl)) (fun x_ s=>by kernel_rfl))
theorem jf.p7:PcA jf.G Try.f19 7:=
 Jk (s:=jf.c100029r) (by kernel_rfl) (by kernel_rfl) (Jc (sh:=jf.c100029s) (I:=fun x_ s_=>(x_.1,x_.2.1,x_.2.2.1,x_.2.2.2.1,x_.2.2.2.2.1,x_.2.2.2.2.2.1,s_.1,x_.2.2.2.2.2.2.2.1,s_.2,x_.2.2.2.2.2.2.2.2.2)) (fun x_=>rfl) (fun ρ x_ s_ k_=>(jc fun _=>(jm (jc fun _=>jd) jd))) (fun ρ x_ t k=>(by kernel_rfl)) (fun x_ s=>by kernel_rfl))
theorem jf.p8:PcA jf.G Try.f19 8:=
 ju (s:=jf.c29r) (by kernel_rfl) (by kernel_rfl) (jt (sh:=jf.c29s) (fun ρ x_ k_=>(jm (jc fun _=>(jc fun _=>jd)) jd)) (fun ρ x_ t k=>(by kernel_rfl)) (fun x_=>by kernel_rfl))
theorem jf.p9:PcA jf.G Try.f19 9:=
 JV (s:=jf.c326999r) (by kernel_rfl) (by kernel_rfl) (jt (sh:=jf.c326999s) (fun ρ x_ k_=>(jc fun _=>(jc fun _=>(jc fun _=>(jc fun _=>(jm (jc fun _=>(jc fun _=>(jc fun _=>(jc fun _=>jd)))) jd)))))) (fun ρ x_ t k=>(by kernel_rfl)) (fun x_=>by kernel_rfl))
theorem jf.p10:PcA jf.G Try.f19 10:=
 Jk (s:=jf.c100033r) (by kernel_rfl) (by kernel_rfl) (Jc (sh:=jf.c100033s) (I:=fun x_ s_=>(x_.1,x_.2.1,x_.2.2.1,x_.2.2.2.1,x_.2.2.2.2.1,x_.2.2.2.2.2.1,x_.2.2.2.2.2.2.1,s_.1,s_.2,x_.2.2.2.2.2.2.2.2.2)) (fun x_=>rfl) (fun ρ x_ s_ k_=>(jm (jc fun _=>jd) jd)) (fun ρ x_ t k=>(by kernel_rfl)) (fun x_ s=>by kernel_rfl))
theorem jf.p11:PcA jf.G Try.f19 11:=
 ju (s:=jf.c35r) (by kernel_rfl) (by kernel_rfl) (jt (sh:=jf.c35s) (fun ρ x_ k_=>(jm (jc fun _=>(jc fun _=>(jm (jc fun _=>(jc fun _=>(jc fun _=>jd))) jd))) jd)) (fun ρ x_ t k=>(by kernel_rfl)) (fun x_=>by kernel_rfl))
theorem jf.ok:CalleeOk Try.prog 19 jf.ce:=fn_ok (G:=jf.G) Jj mixed Try.func19 ⟨(jx jG.ok (jx jW.ok (jx jT.ok (jx jC.ok (jx kc.ok Ja))))),jR,jA⟩ (m:=12) (by kernel_rfl) ⟨⟨⟨⟨⟨⟨⟨⟨⟨⟨⟨⟨trivial,jf.p0⟩,jf.p1⟩,jf.p2⟩,jf.p3⟩,jf.p4⟩,jf.p5⟩,jf.p6⟩,jf.p7⟩,jf.p8⟩,jf.p9⟩,jf.p10⟩,jf.p11⟩ (by kernel_rfl) jf.eq
abbrev te37:SD:=.one (.ref 7 0)
abbrev te38:SD:=.one (.ref 12 0)
abbrev te39:SD:=.one (.ref 13 0)
abbrev te40:SD:=.one (.ref 18 0)
def jh.c4 {ρ:Type} (tape:List Int) (list:List Int) (c0:Int) (c1:Int) (c2:List YO) (given0:Int) (given1:Int) (given2:List YO) (k_:Bool→Option ρ):Option ρ:=
 bnd W.Jb fun y=>
 br (!y)
 (k_ true)
 (bnd (W.jy (given0,given1,given2) (c0,c1,c2)) fun y_1=>
 br (!y_1)
 (k_ true)
 (bnd (W.jO list tape) fun y_2=>
 k_ (!y_2)))
def jh.c4s:Shape:=⟨[(0,te16),(1,te4),(2,te17),(3,te8),(6,te12),(7,te37),(8,te17),(9,te29),(10,te17),(11,te4),(12,te38)],[(3,te20),(7,te20),(12,te21)]⟩
def jh.c4x0:Shape:=⟨[(0,te16),(1,te4),(2,te17),(3,te8),(6,te12),(7,te37),(8,te17),(9,te29),(10,te17),(11,te4),(12,te38),(46,te12)],[(3,te20),(7,te20),(12,te21)]⟩
def jh.c4r:Ck:=Ck.of (T:=Bool) jh.c4s (fun ρ x_ k_=>jh.c4 x_.2.2.1 x_.2.2.2.2.1 x_.2.2.2.2.2.2.2.2.1 x_.2.2.2.2.2.2.2.2.2.1 x_.2.2.2.2.2.2.2.2.2.2.1 x_.2.2.2.2.2.2.2.2.2.2.2.1 x_.2.2.2.2.2.2.2.2.2.2.2.2.1 x_.2.2.2.2.2.2.2.2.2.2.2.2.2.1 k_) (fun ρ x_ r_ k_=>k_ 0 (Shape.inj jh.c4x0 (x_.1,x_.2.1,x_.2.2.1,x_.2.2.2.1,x_.2.2.2.2.1,x_.2.2.2.2.2.1,x_.2.2.2.2.2.2.1,x_.2.2.2.2.2.2.2.1,r_,x_.2.2.2.2.2.2.2.2)))
def jh.c7 {ρ:Type} (c0:Int) (g0:Int) (k_:Bool→Option ρ):Option ρ:=
 br (g0 == (0:Int))
 (k_ (decide (c0 > (8:Int))))
 (k_ false)
def jh.c7s:Shape:=⟨[(0,te16),(1,te4),(2,te17),(3,te8),(6,te12),(7,te37),(8,te17),(9,te29),(10,te17),(11,te4),(12,te38),(13,te39)],[(3,te20),(7,te20),(12,te21),(13,te21)]⟩
def jh.c7x0:Shape:=⟨[(0,te16),(1,te4),(2,te17),(3,te8),(6,te12),(7,te37),(8,te17),(9,te29),(10,te17),(11,te4),(12,te38),(13,te39),(56,te12)],[(3,te20),(7,te20),(12,te21),(13,te21)]⟩
def jh.c7r:Ck:=Ck.of (T:=Bool) jh.c7s (fun ρ x_ k_=>jh.c7 x_.2.2.2.2.2.2.2.2.1 x_.2.2.2.2.2.2.2.2.2.2.2.2.2.2.2.2.1 k_) (fun ρ x_ r_ k_=>k_ 0 (Shape.inj jh.c7x0 (x_.1,x_.2.1,x_.2.2.1,x_.2.2.2.1,x_.2.2.2.2.1,x_.2.2.2.2.2.1,x_.2.2.2.2.2.2.1,x_.2.2.2.2.2.2.2.1,r_,x_.2.2.2.2.2.2.2.2)))
def jh.c8 {ρ:Type} (l:List (List UInt8)) (c0:Int) (f0:Int) (k_:Bool→Option ρ):Option ρ:=
 br (f0 != (0:Int))
 (k_ true)
 (k_ ((↑(List.length l):Int) == c0))
def jh.c8s:Shape:=jh.c7s
def jh.c8x0:Shape:=jh.c7s
def jh.c8r:Ck:=Ck.of (T:=Bool) jh.c8s (fun ρ x_ k_=>jh.c8 x_.2.2.2.2.2.1 x_.2.2.2.2.2.2.2.2.1 x_.2.2.2.2.2.2.2.2.2.2.2.2.2.2.1 k_) (fun ρ x_ r_ k_=>k_ 0 (Shape.inj jh.c8x0 (x_.1,x_.2.1,x_.2.2.1,r_,x_.2.2.2.2)))
def jh.c10 {ρ:Type} (bits:List Int) (used:Int) (rbits:List Int) (rused:Int) (f0:Int) (f1:Int) (g0:Int) (g1:Int) (k_:Bool→Option ρ):Option ρ:=
 br (!Ty.eqT (Ty.pair (Ty.int IntKind.i64) (Ty.int IntKind.i64)) (f0,f1) (g0,g1))
 (k_ true)
 (bnd (W.jO bits rbits) fun y=>
 br (!y)
 (k_ true)
 (k_ (used != rused)))
def jh.c10s:Shape:=⟨[(0,te16),(1,te4),(2,te17),(3,te8),(6,te12),(7,te37),(8,te17),(9,te29),(10,te17),(11,te4),(12,te38),(13,te39),(14,te15),(15,te17),(16,te4)],[(3,te20),(7,te20),(12,te21),(13,te21)]⟩
def jh.c10x0:Shape:=⟨[(0,te16),(1,te4),(2,te17),(3,te8),(6,te12),(7,te37),(8,te17),(9,te29),(10,te17),(11,te4),(12,te38),(13,te39),(14,te15),(15,te17),(16,te4),(89,te12)],[(3,te20),(7,te20),(12,te21),(13,te21)]⟩
def jh.c10r:Ck:=Ck.of (T:=Bool) jh.c10s (fun ρ x_ k_=>jh.c10 x_.2.2.2.2.2.2.1 x_.2.2.2.2.2.2.2.1 x_.2.2.2.2.2.2.2.2.2.1 x_.2.2.2.2.2.2.2.2.2.2.1 x_.2.2.2.2.2.2.2.2.2.2.2.2.2.2.2.2.2.1 x_.2.2.2.2.2.2.2.2.2.2.2.2.2.2.2.2.2.2.1 x_.2.2.2.2.2.2.2.2.2.2.2.2.2.2.2.2.2.2.2.1 x_.2.2.2.2.2.2.2.2.2.2.2.2.2.2.2.2.2.2.2.2.1 k_) (fun ρ x_ r_ k_=>k_ 0 (Shape.inj jh.c10x0 (x_.1,x_.2.1,x_.2.2.1,x_.2.2.2.1,x_.2.2.2.2.1,x_.2.2.2.2.2.1,x_.2.2.2.2.2.2.1,x_.2.2.2.2.2.2.2.1,x_.2.2.2.2.2.2.2.2.1,x_.2.2.2.2.2.2.2.2.2.1,x_.2.2.2.2.2.2.2.2.2.2.1,r_,x_.2.2.2.2.2.2.2.2.2.2.2)))
def jh.c18 {ρ:Type} (l:List (List UInt8)) (i:Int) (c0:Int) (k_:Bool×Bool×(List UInt8)→Option ρ):Option ρ:=
 bnd (idx l i) fun y=>
 bnd (W.jB y c0) fun y_1=>
 k_ (y_1.2,y_1.1.1,y_1.1.2)
def jh.c18s:Shape:=⟨[(0,te16),(1,te4),(2,te17),(3,te8),(6,te12),(7,te37),(8,te17),(9,te29),(10,te17),(11,te4),(12,te38),(13,te39),(14,te15),(15,te17),(16,te4),(17,te4)],[(3,te20),(7,te20),(12,te21),(13,te21)]⟩
def jh.c18x0:Shape:=⟨[(0,te16),(1,te4),(2,te17),(3,te8),(6,te12),(7,te37),(8,te17),(9,te29),(10,te17),(11,te4),(12,te38),(13,te39),(14,te15),(15,te17),(16,te4),(17,te4),(18,te40),(19,te12)],[(3,te20),(7,te20),(12,te21),(13,te21),(18,te27)]⟩
def jh.c18r:Ck:=Ck.of (T:=Bool×Bool×(List UInt8)) jh.c18s (fun ρ x_ k_=>jh.c18 x_.2.2.2.2.2.1 x_.2.2.2.2.2.2.2.2.2.2.2.1 x_.2.2.2.2.2.2.2.2.2.2.2.2.1 k_) (fun ρ x_ r_ k_=>uP x_ fun c x_=>uP x_ fun t1 x_=>uP x_ fun tape x_=>uP x_ fun t6 x_=>uP x_ fun list x_=>uP x_ fun l x_=>uP x_ fun bits x_=>uP x_ fun used x_=>uP x_ fun v x_=>uP x_ fun rbits x_=>uP x_ fun rused x_=>uP x_ fun i x_=>uP x_ fun c0 x_=>uP x_ fun c1 x_=>uP x_ fun c2 x_=>uP x_ fun given0 x_=>uP x_ fun given1 x_=>uP x_ fun given2 x_=>uP x_ fun f0 x_=>uP x_ fun f1 x_=>uP x_ fun g0 x_=>uP x_ fun g1 x_=>k_ 0 (Shape.inj jh.c18x0 (c,t1,tape,t6,list,l,bits,used,v,rbits,rused,i,r_.1,c0,c1,c2,given0,given1,given2,f0,f1,g0,g1,r_.2.1,r_.2.2,())))
def jh.c19 {ρ:Type} (v:List YN) (is:Bool) (p0:Bool) (p1:List UInt8) (k_:Bool→Option ρ):Option ρ:=
 br (!is)
 (k_ true)
 (bnd (W.jG (p0,p1) v) fun y=>
 bnd (W.JO y) fun y_1=>
 bnd (W.JO v) fun y_2=>
 bnd (W.jS y_1 y_2) fun y_3=>
 k_ (!y_3))
def jh.c19s:Shape:=jh.c18x0
def jh.c19x0:Shape:=⟨[(0,te16),(1,te4),(2,te17),(3,te8),(6,te12),(7,te37),(8,te17),(9,te29),(10,te17),(11,te4),(12,te38),(13,te39),(14,te15),(15,te17),(16,te4),(17,te4),(18,te40),(19,te12),(126,te12)],[(3,te20),(7,te20),(12,te21),(13,te21),(18,te27)]⟩
def jh.c19r:Ck:=Ck.of (T:=Bool) jh.c19s (fun ρ x_ k_=>jh.c19 x_.2.2.2.2.2.2.2.2.1 x_.2.2.2.2.2.2.2.2.2.2.2.2.1 x_.2.2.2.2.2.2.2.2.2.2.2.2.2.2.2.2.2.2.2.2.2.2.2.1 x_.2.2.2.2.2.2.2.2.2.2.2.2.2.2.2.2.2.2.2.2.2.2.2.2.1 k_) (fun ρ x_ r_ k_=>k_ 0 (Shape.inj jh.c19x0 (x_.1,x_.2.1,x_.2.2.1,x_.2.2.2.1,x_.2.2.2.2.1,x_.2.2.2.2.2.1,x_.2.2.2.2.2.2.1,x_.2.2.2.2.2.2.2.1,x_.2.2.2.2.2.2.2.2.1,x_.2.2.2.2.2.2.2.2.2.1,x_.2.2.2.2.2.2.2.2.2.2.1,x_.2.2.2.2.2.2.2.2.2.2.2.1,x_.2.2.2.2.2.2.2.2.2.2.2.2.1,r_,x_.2.2.2.2.2.2.2.2.2.2.2.2.2)))
def jh.c100016 {ρ:Type} (l:List (List UInt8)) (v:List YN) (i:Int) (c0:Int) (k_:Int⊕(Int⊕Int)→Option ρ):Option ρ:=
 br (decide (i < (↑(List.length l):Int)))
 (bnd (W.jh.c18 l i c0 some) fun y=>
 bnd (W.jh.c19 v y.1 y.2.1 y.2.2 some) fun y_1=>
 br y_1
 (k_ (.inr (.inl i)))
 (k_ (.inl (IntKind.i64.wrap (i+(1:Int))))))
 (k_ (.inr (.inr i)))
def jh.c100016s:Shape:=jh.c18s
def jh.c100016x0:Shape:=jh.c18s
def jh.c100016x1:Shape:=jh.c18s
def jh.c100016r:Ck:=Ck.ofLoop (S:=Int) (T:=Int⊕Int) jh.c100016s (fun x_=>x_.2.2.2.2.2.2.2.2.2.2.2.1) (fun ρ x_ s_ k_=>jh.c100016 x_.2.2.2.2.2.1 x_.2.2.2.2.2.2.2.2.1 s_ x_.2.2.2.2.2.2.2.2.2.2.2.2.1 k_) (fun ρ x_ r_ k_=>sel r_ (fun r_=>k_ 1 (Shape.inj jh.c100016x0 (x_.1,x_.2.1,x_.2.2.1,false,x_.2.2.2.2.1,x_.2.2.2.2.2.1,x_.2.2.2.2.2.2.1,x_.2.2.2.2.2.2.2.1,x_.2.2.2.2.2.2.2.2.1,x_.2.2.2.2.2.2.2.2.2.1,x_.2.2.2.2.2.2.2.2.2.2.1,r_,x_.2.2.2.2.2.2.2.2.2.2.2.2))) (fun r_=>k_ 2 (Shape.inj jh.c100016x1 (x_.1,x_.2.1,x_.2.2.1,x_.2.2.2.1,x_.2.2.2.2.1,x_.2.2.2.2.2.1,x_.2.2.2.2.2.2.1,x_.2.2.2.2.2.2.2.1,x_.2.2.2.2.2.2.2.2.1,x_.2.2.2.2.2.2.2.2.2.1,x_.2.2.2.2.2.2.2.2.2.2.1,r_,x_.2.2.2.2.2.2.2.2.2.2.2.2))))
def jh (c:Int×(Int×(List YO))) (t1:Int) (tape:List Int):Option Bool:=
 bnd (W.jM (c.1,c.2.1,c.2.2)) fun y=>
 bnd (okIf (decide (((0:Nat)+List.length tape)*(8:Nat)≤(140737488355328:Nat)) && decide ((0:Nat)+List.length tape≤(140737488355328:Nat)))) fun y_1=>
 bnd (W.ji (y.1,y.2.1,y.2.2) t1 tape) fun y_2=>
 bnd (W.jh.c4 tape tape c.1 c.2.1 c.2.2 y.1 y.2.1 y.2.2 some) fun y_3=>
 br y_3
 (some false)
 (bnd (W.jV (c.1,c.2.1,c.2.2)) fun y_4=>
 bnd (W.jh.c7 c.1 y_4.1 some) fun y_5=>
 br y_5
 (bnd (W.jh.c8 y_2.1 c.1 y_2.2.2.2.1 some) fun y_6=>
 some y_6)
 (bnd (W.jo (c.1,c.2.1,c.2.2) t1 tape) fun y_7=>
 bnd (W.jh.c10 y_2.2.1 y_2.2.2.1 y_7.2.1 y_7.2.2.1 y_2.2.2.2.1 y_2.2.2.2.2 y_7.2.2.2.1 y_7.2.2.2.2 some) fun y_8=>
 br y_8
 (some false)
 (br (y_7.2.2.2.1 != (0:Int))
 (some ((↑(List.length y_2.1):Int) == (0:Int)))
 (br (decide (c.1 > (4:Int)))
 (bnd (iter (fun s↦W.jh.c100016 y_2.1 y_7.1 s c.1 some) (0:Int)) fun y_9=>
 sel y_9
 (fun u=>some false)
 (fun v=>some ((↑(List.length y_2.1):Int) == c.1)))
 (bnd (W.jf y_7.1 c.1) fun y_10=>
 bnd (W.jS y_2.1 y_10) fun y_11=>
 some y_11)))))
def jh.ce:Go.Ql.Callee:=⟨[(.st (.pair (.int .i64) (.pair (.int .i64) (.sl (.st (.pair (.int .i64) (.pair (.int .i64) (.pair (.sl (.int .i64)) (.pair (.int .i64) (.pair (.int .i64) (.sl (.int .i64)))))))))))),(.int .i64),(.sl (.int .i64))],[.bool],fun x_=>jh x_.1 x_.2.1 x_.2.2⟩
def jh.G:Env:=⟨138,tab,[(8,jM.ce),(9,ji.ce),(10,Jb.ce),(11,jy.ce),(12,jO.ce),(13,jV.ce),(14,jo.ce),(15,jB.ce),(18,jG.ce),(17,JO.ce),(16,jS.ce),(19,jf.ce)],[0,1,2,3,6,7,8,9,10,11,12,13,14,15,16,17,18,19,46,56,89,92,98,102,126],[],[(18,[⟨[],[],[107,110,111,18],[18]⟩,⟨[],[],[106,110,111,18],[18]⟩,⟨[0,1],[],[110,111,18],[18]⟩,⟨[2,0,1],[],[110,111,18],[18]⟩,⟨[],[],[106,107,108,109,18],[18]⟩,⟨[4],[],[106,107,108,109,18],[18]⟩,⟨[3,2,0,1,5,4],[],[18],[18]⟩,⟨[6,3,2,0,1,5,4],[],[18],[18]⟩,⟨[7,6,3,2,0,1,5,4],[],[114,18],[18]⟩,⟨[7,6,3,2,0,1,5,4],[],[113,18],[18]⟩,⟨[],[18],[106,107,108,109,110,111,112,105,113,114],[]⟩,⟨[10,8,7,6,3,2,0,1,5,4],[18],[114],[]⟩,⟨[9,7,6,3,2,0,1,5,4,11,10,8],[],[],[]⟩])],[(100016,jh.c100016r),(19,jh.c19r),(18,jh.c18r),(10,jh.c10r),(8,jh.c8r),(7,jh.c7r),(4,jh.c4r)],[],jZ⟩
theorem jh.eq (x_:dens jh.ce.params):den jh.G Try.f3 jh.ce.params jh.ce.res x_=jh.ce.F x_:=by kernel_rfl
theorem jh.p0:PcA jh.G Try.f3 0:=
 ju (s:=jh.c4r) (by kernel_rfl) (by kernel_rfl) (jt (sh:=jh.c4s) (fun ρ x_ k_=>(jc fun _=>(jm jd (jc fun _=>(jm jd (jc fun _=>jd)))))) (fun ρ x_ t k=>(by kernel_rfl)) (fun x_=>by kernel_rfl))
theorem jh.p1:PcA jh.G Try.f3 1:=
 ju (s:=jh.c7r) (by kernel_rfl) (by kernel_rfl) (jt (sh:=jh.c7s) (fun ρ x_ k_=>(jm jd jd)) (fun ρ x_ t k=>(by kernel_rfl)) (fun x_=>by kernel_rfl))
theorem jh.p2:PcA jh.G Try.f3 2:=
 ju (s:=jh.c8r) (by kernel_rfl) (by kernel_rfl) (jt (sh:=jh.c8s) (fun ρ x_ k_=>(jm jd jd)) (fun ρ x_ t k=>(by kernel_rfl)) (fun x_=>by kernel_rfl))
theorem jh.p3:PcA jh.G Try.f3 3:=
 ju (s:=jh.c10r) (by kernel_rfl) (by kernel_rfl) (jt (sh:=jh.c10s) (fun ρ x_ k_=>(jm jd (jc fun _=>(jm jd jd)))) (fun ρ x_ t k=>(by kernel_rfl)) (fun x_=>by kernel_rfl))
theorem jh.p4:PcA jh.G Try.f3 4:=
 Jk (s:=jh.c100016r) (by kernel_rfl) (by kernel_rfl) (Jc (sh:=jh.c100016s) (I:=fun x_ s_=>(x_.1,x_.2.1,x_.2.2.1,x_.2.2.2.1,x_.2.2.2.2.1,x_.2.2.2.2.2.1,x_.2.2.2.2.2.2.1,x_.2.2.2.2.2.2.2.1,x_.2.2.2.2.2.2.2.2.1,x_.2.2.2.2.2.2.2.2.2.1,x_.2.2.2.2.2.2.2.2.2.2.1,s_,x_.2.2.2.2.2.2.2.2.2.2.2.2)) (fun x_=>rfl) (fun ρ x_ s_ k_=>(jm (jc fun _=>(jc fun _=>(jm jd jd))) jd)) (fun ρ x_ t k=>(ka (fun _=>(by kernel_rfl)) (fun _=>(by kernel_rfl)))) (fun x_ s=>by kernel_rfl))
theorem jh.p5:PcA jh.G Try.f3 5:=
 ju (s:=jh.c18r) (by kernel_rfl) (by kernel_rfl) (jt (sh:=jh.c18s) (fun ρ x_ k_=>(jc fun _=>(jc fun _=>jd))) (fun ρ x_ t k=>(by kernel_rfl)) (fun x_=>by kernel_rfl))
theorem jh.p6:PcA jh.G Try.f3 6:=
 ju (s:=jh.c19r) (by kernel_rfl) (by kernel_rfl) (jt (sh:=jh.c19s) (fun ρ x_ k_=>(jm jd (jc fun _=>(jc fun _=>(jc fun _=>(jc fun _=>jd)))))) (fun ρ x_ t k=>(by kernel_rfl)) (fun x_=>by kernel_rfl))
theorem jh.ok:CalleeOk Try.prog 3 jh.ce:=fn_ok (G:=jh.G) Jj mixed Try.func3 ⟨(jx jM.ok (jx ji.ok (jx Jb.ok (jx jy.ok (jx jO.ok (jx jV.ok (jx jo.ok (jx jB.ok (jx jG.ok (jx JO.ok (jx jS.ok (jx jf.ok Ja)))))))))))),jR,jA⟩ (m:=7) (by kernel_rfl) ⟨⟨⟨⟨⟨⟨⟨trivial,jh.p0⟩,jh.p1⟩,jh.p2⟩,jh.p3⟩,jh.p4⟩,jh.p5⟩,jh.p6⟩ (by kernel_rfl) jh.eq
end
end W
end
