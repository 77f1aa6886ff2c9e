/- Lifted functions, part 3: each with its contract. -/
import Derived.Test.YtjlbeiadpdgchaaWb
import Derived.Test.YtjlbeiadpdgchaaProg
set_option linter.all false
section
set_option maxHeartbeats 4000000
set_option maxRecDepth 100000
set_option linter.unusedVariables false
namespace W
open Go Go.Ql Go.Proofs
noncomputable section
abbrev tb84:SD:=.one (.own 1000702 0)
abbrev tb85:SO:=.clo 84 [] [.ref 7 0]
def tableau_table_measure.pre:Shape:=⟨[(0,tb28),(1,tb5),(2,tb5)],[(1000700,tb81),(1000701,tb22),(1000702,tb22)]⟩
def tableau_table_measure.post:Shape:=⟨[(0,tb7)],[(1000701,tb22),(1000702,tb22),(1000700,tb81)]⟩
def tableau_table_measure.c9 {ρ:Type} (i:Int) (sum0:Int) (sum1:Int) (sum2:Bool) (t1000701:List (Int×(Int×(Bool)))) (k_:Int×Int×(Bool) → Option ρ):Option ρ :=
 bnd (inR (List.length t1000701) i) fun y =>
 bnd (idx t1000701 i) fun y_1 =>
 bnd (W.tableau_pauli_times (sum0,sum1,sum2) y_1) fun y_2 =>
 k_ ((Prod.fst y_2),(Prod.fst (Prod.snd y_2)),(Prod.snd (Prod.snd y_2)))
def tableau_table_measure.c9s:Shape:=⟨[(0,tb28),(1,tb5),(2,tb5),(6,tb7),(7,tb42),(8,tb5),(9,tb79),(10,tb5),(11,tb23),(29,tb84),(30,tb5),(31,tb5)],[(7,tb9),(9,tb9),(11,tb9),(21,tb85),(1000700,tb81),(1000701,tb22),(1000702,tb22)]⟩
def tableau_table_measure.c9x0:Shape:=tableau_table_measure.c9s
def tableau_table_measure.c9r:Ck:=Ck.of (T:=Int×Int×(Bool)) tableau_table_measure.c9s (fun ρ x_ k_=>tableau_table_measure.c9 x_.2.2.2.2.1 x_.2.2.2.2.2.2.2.2.2.2.1 x_.2.2.2.2.2.2.2.2.2.2.2.1 x_.2.2.2.2.2.2.2.2.2.2.2.2.1 x_.2.2.2.2.2.2.2.2.2.2.2.2.2.2.2.2.2.1 k_) (fun ρ x_ r_ k_=>k_ 0 (Shape.inj tableau_table_measure.c9x0 (x_.1,x_.2.1,x_.2.2.1,x_.2.2.2.1,x_.2.2.2.2.1,x_.2.2.2.2.2.1,x_.2.2.2.2.2.2.1,x_.2.2.2.2.2.2.2.1,x_.2.2.2.2.2.2.2.2.1,x_.2.2.2.2.2.2.2.2.2.1,r_.1,r_.2.1,r_.2.2,x_.2.2.2.2.2.2.2.2.2.2.2.2.2)))
def tableau_table_measure.c228680 {ρ:Type} (t31:Int) (z0:Int) (z1:Int) (z2:Bool) (sum0:Int) (sum1:Int) (sum2:Bool) (t1000701:List (Int×(Int×(Bool)))) (t1000702:List (Int×(Int×(Bool)))) (k_:Int×Int×(Bool) → Option ρ):Option ρ :=
 bnd (inR (List.length t1000702) t31) fun y =>
 bnd (idx t1000702 t31) fun y_1 =>
 bnd (W.tableau_pauli_meets (Prod.fst y_1,Prod.fst (Prod.snd y_1),Prod.snd (Prod.snd y_1)) (z0,z1,z2)) fun y_2 =>
 br y_2
 (bnd (W.tableau_table_measure.c9 t31 sum0 sum1 sum2 t1000701 some) fun y_3 =>
 k_ ((Prod.fst y_3),(Prod.fst (Prod.snd y_3)),(Prod.snd (Prod.snd y_3))))
 (k_ (sum0,sum1,sum2))
def tableau_table_measure.c228680s:Shape:=⟨[(0,tb28),(1,tb5),(2,tb5),(6,tb7),(7,tb42),(8,tb5),(9,tb79),(29,tb84),(30,tb5),(31,tb5)],[(7,tb9),(9,tb9),(21,tb85),(1000700,tb81),(1000701,tb22),(1000702,tb22)]⟩
def tableau_table_measure.c228680x0:Shape:=tableau_table_measure.c228680s
def tableau_table_measure.c228680r:Ck:=Ck.of (T:=Int×Int×(Bool)) tableau_table_measure.c228680s (fun ρ x_ k_=>tableau_table_measure.c228680 x_.2.2.2.2.2.1 x_.2.2.2.2.2.2.1 x_.2.2.2.2.2.2.2.1 x_.2.2.2.2.2.2.2.2.1 x_.2.2.2.2.2.2.2.2.2.1 x_.2.2.2.2.2.2.2.2.2.2.1 x_.2.2.2.2.2.2.2.2.2.2.2.1 x_.2.2.2.2.2.2.2.2.2.2.2.2.2.1 x_.2.2.2.2.2.2.2.2.2.2.2.2.2.2.1 k_) (fun ρ x_ r_ k_=>k_ 0 (Shape.inj tableau_table_measure.c228680x0 (x_.1,x_.2.1,x_.2.2.1,x_.2.2.2.1,x_.2.2.2.2.1,x_.2.2.2.2.2.1,x_.2.2.2.2.2.2.1,x_.2.2.2.2.2.2.2.1,x_.2.2.2.2.2.2.2.2.1,r_.1,r_.2.1,r_.2.2,x_.2.2.2.2.2.2.2.2.2.2.2.2)))
def tableau_table_measure.c100006 {ρ:Type} (t30:Int) (t31:Int) (z0:Int) (z1:Int) (z2:Bool) (sum0:Int) (sum1:Int) (sum2:Bool) (t1000701:List (Int×(Int×(Bool)))) (t1000702:List (Int×(Int×(Bool)))) (k_:(Int×Int×Int×(Bool)) ⊕ (Int×Int×Int×(Bool)) → Option ρ):Option ρ :=
 br (decide (t31 < t30))
 (bnd (W.tableau_table_measure.c228680 t31 z0 z1 z2 sum0 sum1 sum2 t1000701 t1000702 some) fun y =>
 k_ (.inl ((IntKind.wrap IntKind.i64 (t31 + (1:Int))),(Prod.fst y),(Prod.fst (Prod.snd y)),(Prod.snd (Prod.snd y)))))
 (k_ (.inr (t31,sum0,sum1,sum2)))
def tableau_table_measure.c100006s:Shape:=tableau_table_measure.c228680s
def tableau_table_measure.c100006x0:Shape:=tableau_table_measure.c228680s
def tableau_table_measure.c100006r:Ck:=Ck.ofLoop (S:=Int×Int×Int×(Bool)) (T:=Int×Int×Int×(Bool)) tableau_table_measure.c100006s (fun x_=>(x_.2.2.2.2.2.1,x_.2.2.2.2.2.2.2.2.2.1,x_.2.2.2.2.2.2.2.2.2.2.1,x_.2.2.2.2.2.2.2.2.2.2.2.1)) (fun ρ x_ s_ k_=>tableau_table_measure.c100006 x_.2.2.2.2.1 s_.1 x_.2.2.2.2.2.2.1 x_.2.2.2.2.2.2.2.1 x_.2.2.2.2.2.2.2.2.1 s_.2.1 s_.2.2.1 s_.2.2.2 x_.2.2.2.2.2.2.2.2.2.2.2.2.2.1 x_.2.2.2.2.2.2.2.2.2.2.2.2.2.2.1 k_) (fun ρ x_ r_ k_=>k_ 2 (Shape.inj tableau_table_measure.c100006x0 (x_.1,x_.2.1,x_.2.2.1,x_.2.2.2.1,x_.2.2.2.2.1,r_.1,x_.2.2.2.2.2.2.1,x_.2.2.2.2.2.2.2.1,x_.2.2.2.2.2.2.2.2.1,r_.2.1,r_.2.2.1,r_.2.2.2,x_.2.2.2.2.2.2.2.2.2.2.2.2)))
def tableau_table_measure.c16 {ρ:Type} (t8:Int) (i:Int) (z0:Int) (z1:Int) (z2:Bool) (t1000701:List (Int×(Int×(Bool)))) (k_:Bool → Option ρ):Option ρ :=
 br (i != t8)
 (bnd (inR (List.length t1000701) i) fun y =>
 bnd (idx t1000701 i) fun y_1 =>
 bnd (W.tableau_pauli_meets y_1 (z0,z1,z2)) fun y_2 =>
 k_ y_2)
 (k_ false)
def tableau_table_measure.c16s:Shape:=⟨[(0,tb28),(1,tb5),(2,tb5),(6,tb7),(7,tb42),(8,tb5),(12,tb74),(13,tb5),(64,tb5),(65,tb5)],[(7,tb9),(12,tb9),(21,tb85),(1000700,tb81),(1000701,tb22),(1000702,tb22)]⟩
def tableau_table_measure.c16x0:Shape:=⟨[(0,tb28),(1,tb5),(2,tb5),(6,tb7),(7,tb42),(8,tb5),(12,tb74),(13,tb5),(64,tb5),(65,tb5),(81,tb7)],[(7,tb9),(12,tb9),(21,tb85),(1000700,tb81),(1000701,tb22),(1000702,tb22)]⟩
def tableau_table_measure.c16r:Ck:=Ck.of (T:=Bool) tableau_table_measure.c16s (fun ρ x_ k_=>tableau_table_measure.c16 x_.2.2.2.1 x_.2.2.2.2.1 x_.2.2.2.2.2.2.2.1 x_.2.2.2.2.2.2.2.2.1 x_.2.2.2.2.2.2.2.2.2.1 x_.2.2.2.2.2.2.2.2.2.2.2.2.2.2.1 k_) (fun ρ x_ r_ k_=>k_ 0 (Shape.inj tableau_table_measure.c16x0 (x_.1,x_.2.1,x_.2.2.1,x_.2.2.2.1,x_.2.2.2.2.1,x_.2.2.2.2.2.1,x_.2.2.2.2.2.2.1,r_,x_.2.2.2.2.2.2.2)))
def tableau_table_measure.c17 {ρ:Type} (i:Int) (old0:Int) (old1:Int) (old2:Bool) (t1000701:List (Int×(Int×(Bool)))) (k_:List (Int×(Int×(Bool))) → Option ρ):Option ρ :=
 bnd (inR (List.length t1000701) i) fun y =>
 bnd (idx t1000701 i) fun y_1 =>
 bnd (W.tableau_pauli_times y_1 (old0,old1,old2)) fun y_2 =>
 bnd (inR (List.length t1000701) i) fun y_3 =>
 bnd (idx t1000701 i) fun y_4 =>
 k_ (List.set t1000701 (Int.toNat i) y_2)
def tableau_table_measure.c17s:Shape:=tableau_table_measure.c16s
def tableau_table_measure.c17x0:Shape:=tableau_table_measure.c16s
def tableau_table_measure.c17r:Ck:=Ck.of (T:=List (Int×(Int×(Bool)))) tableau_table_measure.c17s (fun ρ x_ k_=>tableau_table_measure.c17 x_.2.2.2.2.1 x_.2.2.2.2.2.2.2.2.2.2.1 x_.2.2.2.2.2.2.2.2.2.2.2.1 x_.2.2.2.2.2.2.2.2.2.2.2.2.1 x_.2.2.2.2.2.2.2.2.2.2.2.2.2.2.1 k_) (fun ρ x_ r_ k_=>k_ 0 (Shape.inj tableau_table_measure.c17x0 (x_.1,x_.2.1,x_.2.2.1,x_.2.2.2.1,x_.2.2.2.2.1,x_.2.2.2.2.2.1,x_.2.2.2.2.2.2.1,x_.2.2.2.2.2.2.2.1,x_.2.2.2.2.2.2.2.2.1,x_.2.2.2.2.2.2.2.2.2.1,x_.2.2.2.2.2.2.2.2.2.2.1,x_.2.2.2.2.2.2.2.2.2.2.2.1,x_.2.2.2.2.2.2.2.2.2.2.2.2.1,x_.2.2.2.2.2.2.2.2.2.2.2.2.2.1,r_,x_.2.2.2.2.2.2.2.2.2.2.2.2.2.2.2)))
def tableau_table_measure.c265541 {ρ:Type} (t8:Int) (i:Int) (z0:Int) (z1:Int) (z2:Bool) (old0:Int) (old1:Int) (old2:Bool) (t1000701:List (Int×(Int×(Bool)))) (k_:List (Int×(Int×(Bool))) → Option ρ):Option ρ :=
 bnd (W.tableau_table_measure.c16 t8 i z0 z1 z2 t1000701 some) fun y =>
 br y
 (bnd (W.tableau_table_measure.c17 i old0 old1 old2 t1000701 some) fun y_1 =>
 k_ y_1)
 (k_ t1000701)
def tableau_table_measure.c265541s:Shape:=tableau_table_measure.c16s
def tableau_table_measure.c265541x0:Shape:=tableau_table_measure.c16s
def tableau_table_measure.c265541r:Ck:=Ck.of (T:=List (Int×(Int×(Bool)))) tableau_table_measure.c265541s (fun ρ x_ k_=>tableau_table_measure.c265541 x_.2.2.2.1 x_.2.2.2.2.1 x_.2.2.2.2.2.2.2.1 x_.2.2.2.2.2.2.2.2.1 x_.2.2.2.2.2.2.2.2.2.1 x_.2.2.2.2.2.2.2.2.2.2.1 x_.2.2.2.2.2.2.2.2.2.2.2.1 x_.2.2.2.2.2.2.2.2.2.2.2.2.1 x_.2.2.2.2.2.2.2.2.2.2.2.2.2.2.1 k_) (fun ρ x_ r_ k_=>k_ 0 (Shape.inj tableau_table_measure.c265541x0 (x_.1,x_.2.1,x_.2.2.1,x_.2.2.2.1,x_.2.2.2.2.1,x_.2.2.2.2.2.1,x_.2.2.2.2.2.2.1,x_.2.2.2.2.2.2.2.1,x_.2.2.2.2.2.2.2.2.1,x_.2.2.2.2.2.2.2.2.2.1,x_.2.2.2.2.2.2.2.2.2.2.1,x_.2.2.2.2.2.2.2.2.2.2.2.1,x_.2.2.2.2.2.2.2.2.2.2.2.2.1,x_.2.2.2.2.2.2.2.2.2.2.2.2.2.1,r_,x_.2.2.2.2.2.2.2.2.2.2.2.2.2.2.2)))
def tableau_table_measure.c18 {ρ:Type} (t8:Int) (i:Int) (z0:Int) (z1:Int) (z2:Bool) (t1000702:List (Int×(Int×(Bool)))) (k_:Bool → Option ρ):Option ρ :=
 br (i != t8)
 (bnd (inR (List.length t1000702) i) fun y =>
 bnd (idx t1000702 i) fun y_1 =>
 bnd (W.tableau_pauli_meets y_1 (z0,z1,z2)) fun y_2 =>
 k_ y_2)
 (k_ false)
def tableau_table_measure.c18s:Shape:=tableau_table_measure.c16s
def tableau_table_measure.c18x0:Shape:=⟨[(0,tb28),(1,tb5),(2,tb5),(6,tb7),(7,tb42),(8,tb5),(12,tb74),(13,tb5),(64,tb5),(65,tb5),(110,tb7)],[(7,tb9),(12,tb9),(21,tb85),(1000700,tb81),(1000701,tb22),(1000702,tb22)]⟩
def tableau_table_measure.c18r:Ck:=Ck.of (T:=Bool) tableau_table_measure.c18s (fun ρ x_ k_=>tableau_table_measure.c18 x_.2.2.2.1 x_.2.2.2.2.1 x_.2.2.2.2.2.2.2.1 x_.2.2.2.2.2.2.2.2.1 x_.2.2.2.2.2.2.2.2.2.1 x_.2.2.2.2.2.2.2.2.2.2.2.2.2.2.2.1 k_) (fun ρ x_ r_ k_=>k_ 0 (Shape.inj tableau_table_measure.c18x0 (x_.1,x_.2.1,x_.2.2.1,x_.2.2.2.1,x_.2.2.2.2.1,x_.2.2.2.2.2.1,x_.2.2.2.2.2.2.1,r_,x_.2.2.2.2.2.2.2)))
def tableau_table_measure.c19 {ρ:Type} (i:Int) (old0:Int) (old1:Int) (old2:Bool) (t1000702:List (Int×(Int×(Bool)))) (k_:List (Int×(Int×(Bool))) → Option ρ):Option ρ :=
 bnd (inR (List.length t1000702) i) fun y =>
 bnd (idx t1000702 i) fun y_1 =>
 bnd (W.tableau_mixed y_1 (old0,old1,old2)) fun y_2 =>
 bnd (inR (List.length t1000702) i) fun y_3 =>
 bnd (idx t1000702 i) fun y_4 =>
 k_ (List.set t1000702 (Int.toNat i) y_2)
def tableau_table_measure.c19s:Shape:=tableau_table_measure.c16s
def tableau_table_measure.c19x0:Shape:=tableau_table_measure.c16s
def tableau_table_measure.c19r:Ck:=Ck.of (T:=List (Int×(Int×(Bool)))) tableau_table_measure.c19s (fun ρ x_ k_=>tableau_table_measure.c19 x_.2.2.2.2.1 x_.2.2.2.2.2.2.2.2.2.2.1 x_.2.2.2.2.2.2.2.2.2.2.2.1 x_.2.2.2.2.2.2.2.2.2.2.2.2.1 x_.2.2.2.2.2.2.2.2.2.2.2.2.2.2.2.1 k_) (fun ρ x_ r_ k_=>k_ 0 (Shape.inj tableau_table_measure.c19x0 (x_.1,x_.2.1,x_.2.2.1,x_.2.2.2.1,x_.2.2.2.2.1,x_.2.2.2.2.2.1,x_.2.2.2.2.2.2.1,x_.2.2.2.2.2.2.2.1,x_.2.2.2.2.2.2.2.2.1,x_.2.2.2.2.2.2.2.2.2.1,x_.2.2.2.2.2.2.2.2.2.2.1,x_.2.2.2.2.2.2.2.2.2.2.2.1,x_.2.2.2.2.2.2.2.2.2.2.2.2.1,x_.2.2.2.2.2.2.2.2.2.2.2.2.2.1,x_.2.2.2.2.2.2.2.2.2.2.2.2.2.2.1,r_,())))
def tableau_table_measure.c261454 {ρ:Type} (t8:Int) (t65:Int) (z0:Int) (z1:Int) (z2:Bool) (old0:Int) (old1:Int) (old2:Bool) (t1000701:List (Int×(Int×(Bool)))) (t1000702:List (Int×(Int×(Bool)))) (k_:(List (Int×(Int×(Bool))))×(List (Int×(Int×(Bool)))) → Option ρ):Option ρ :=
 bnd (W.tableau_table_measure.c265541 t8 t65 z0 z1 z2 old0 old1 old2 t1000701 some) fun y =>
 bnd (W.tableau_table_measure.c18 t8 t65 z0 z1 z2 t1000702 some) fun y_1 =>
 br y_1
 (bnd (W.tableau_table_measure.c19 t65 old0 old1 old2 t1000702 some) fun y_2 =>
 k_ (y,y_2))
 (k_ (y,t1000702))
def tableau_table_measure.c261454s:Shape:=⟨[(0,tb28),(1,tb5),(2,tb5),(6,tb7),(7,tb42),(8,tb5),(12,tb74),(64,tb5),(65,tb5)],[(7,tb9),(12,tb9),(21,tb85),(1000700,tb81),(1000701,tb22),(1000702,tb22)]⟩
def tableau_table_measure.c261454x0:Shape:=tableau_table_measure.c261454s
def tableau_table_measure.c261454r:Ck:=Ck.of (T:=(List (Int×(Int×(Bool))))×(List (Int×(Int×(Bool))))) tableau_table_measure.c261454s (fun ρ x_ k_=>tableau_table_measure.c261454 x_.2.2.2.1 x_.2.2.2.2.2.1 x_.2.2.2.2.2.2.1 x_.2.2.2.2.2.2.2.1 x_.2.2.2.2.2.2.2.2.1 x_.2.2.2.2.2.2.2.2.2.1 x_.2.2.2.2.2.2.2.2.2.2.1 x_.2.2.2.2.2.2.2.2.2.2.2.1 x_.2.2.2.2.2.2.2.2.2.2.2.2.2.1 x_.2.2.2.2.2.2.2.2.2.2.2.2.2.2.1 k_) (fun ρ x_ r_ k_=>k_ 0 (Shape.inj tableau_table_measure.c261454x0 (x_.1,x_.2.1,x_.2.2.1,x_.2.2.2.1,x_.2.2.2.2.1,x_.2.2.2.2.2.1,x_.2.2.2.2.2.2.1,x_.2.2.2.2.2.2.2.1,x_.2.2.2.2.2.2.2.2.1,x_.2.2.2.2.2.2.2.2.2.1,x_.2.2.2.2.2.2.2.2.2.2.1,x_.2.2.2.2.2.2.2.2.2.2.2.1,x_.2.2.2.2.2.2.2.2.2.2.2.2.1,r_.1,r_.2,())))
def tableau_table_measure.c100014 {ρ:Type} (t8:Int) (t64:Int) (t65:Int) (z0:Int) (z1:Int) (z2:Bool) (old0:Int) (old1:Int) (old2:Bool) (t1000701:List (Int×(Int×(Bool)))) (t1000702:List (Int×(Int×(Bool)))) (k_:(Int×(List (Int×(Int×(Bool))))×(List (Int×(Int×(Bool))))) ⊕ (Int×(List (Int×(Int×(Bool))))×(List (Int×(Int×(Bool))))) → Option ρ):Option ρ :=
 br (decide (t65 < t64))
 (bnd (W.tableau_table_measure.c261454 t8 t65 z0 z1 z2 old0 old1 old2 t1000701 t1000702 some) fun y =>
 k_ (.inl ((IntKind.wrap IntKind.i64 (t65 + (1:Int))),(Prod.fst y),(Prod.snd y))))
 (k_ (.inr (t65,t1000701,t1000702)))
def tableau_table_measure.c100014s:Shape:=tableau_table_measure.c261454s
def tableau_table_measure.c100014x0:Shape:=tableau_table_measure.c261454s
def tableau_table_measure.c100014r:Ck:=Ck.ofLoop (S:=Int×(List (Int×(Int×(Bool))))×(List (Int×(Int×(Bool))))) (T:=Int×(List (Int×(Int×(Bool))))×(List (Int×(Int×(Bool))))) tableau_table_measure.c100014s (fun x_=>(x_.2.2.2.2.2.1,x_.2.2.2.2.2.2.2.2.2.2.2.2.2.1,x_.2.2.2.2.2.2.2.2.2.2.2.2.2.2.1)) (fun ρ x_ s_ k_=>tableau_table_measure.c100014 x_.2.2.2.1 x_.2.2.2.2.1 s_.1 x_.2.2.2.2.2.2.1 x_.2.2.2.2.2.2.2.1 x_.2.2.2.2.2.2.2.2.1 x_.2.2.2.2.2.2.2.2.2.1 x_.2.2.2.2.2.2.2.2.2.2.1 x_.2.2.2.2.2.2.2.2.2.2.2.1 s_.2.1 s_.2.2 k_) (fun ρ x_ r_ k_=>k_ 4 (Shape.inj tableau_table_measure.c100014x0 (x_.1,x_.2.1,x_.2.2.1,x_.2.2.2.1,x_.2.2.2.2.1,r_.1,x_.2.2.2.2.2.2.1,x_.2.2.2.2.2.2.2.1,x_.2.2.2.2.2.2.2.2.1,x_.2.2.2.2.2.2.2.2.2.1,x_.2.2.2.2.2.2.2.2.2.2.1,x_.2.2.2.2.2.2.2.2.2.2.2.1,x_.2.2.2.2.2.2.2.2.2.2.2.2.1,r_.2.1,r_.2.2,())))
def tableau_table_measure.c21 {ρ:Type} (t8:Int) (t1000702:List (Int×(Int×(Bool)))) (k_:Unit → Option ρ):Option ρ :=
 bnd (inR (List.length t1000702) t8) fun y =>
 bnd (idx t1000702 t8) fun y_1 =>
 k_ ()
def tableau_table_measure.c21s:Shape:=tableau_table_measure.c261454s
def tableau_table_measure.c21x0:Shape:=tableau_table_measure.c261454s
def tableau_table_measure.c21r:Ck:=Ck.of (T:=Unit) tableau_table_measure.c21s (fun ρ x_ k_=>tableau_table_measure.c21 x_.2.2.2.1 x_.2.2.2.2.2.2.2.2.2.2.2.2.2.2.1 k_) (fun ρ x_ r_ k_=>k_ 0 (Shape.inj tableau_table_measure.c21x0 (x_.1,x_.2.1,x_.2.2.1,x_.2.2.2.1,x_.2.2.2.2.1,x_.2.2.2.2.2.1,x_.2.2.2.2.2.2.1,x_.2.2.2.2.2.2.2.1,x_.2.2.2.2.2.2.2.2.1,x_.2.2.2.2.2.2.2.2.2.1,x_.2.2.2.2.2.2.2.2.2.2.1,x_.2.2.2.2.2.2.2.2.2.2.2.1,x_.2.2.2.2.2.2.2.2.2.2.2.2.1,x_.2.2.2.2.2.2.2.2.2.2.2.2.2.1,(List.set x_.2.2.2.2.2.2.2.2.2.2.2.2.2.2.1 (Int.toNat x_.2.2.2.1) (x_.2.2.2.2.2.2.2.2.2.1,x_.2.2.2.2.2.2.2.2.2.2.1,x_.2.2.2.2.2.2.2.2.2.2.2.1)),())))
def tableau_table_measure.c23 {ρ:Type} (t8:Int) (t1000701:List (Int×(Int×(Bool)))) (k_:Unit → Option ρ):Option ρ :=
 bnd (inR (List.length t1000701) t8) fun y =>
 bnd (idx t1000701 t8) fun y_1 =>
 k_ ()
def tableau_table_measure.c23s:Shape:=tableau_table_measure.c261454s
def tableau_table_measure.c23x0:Shape:=tableau_table_measure.c261454s
def tableau_table_measure.c23r:Ck:=Ck.of (T:=Unit) tableau_table_measure.c23s (fun ρ x_ k_=>tableau_table_measure.c23 x_.2.2.2.1 x_.2.2.2.2.2.2.2.2.2.2.2.2.2.1 k_) (fun ρ x_ r_ k_=>k_ 0 (Shape.inj tableau_table_measure.c23x0 (x_.1,x_.2.1,x_.2.2.1,x_.2.2.2.1,x_.2.2.2.2.1,x_.2.2.2.2.2.1,x_.2.2.2.2.2.2.1,x_.2.2.2.2.2.2.2.1,x_.2.2.2.2.2.2.2.2.1,x_.2.2.2.2.2.2.2.2.2.1,x_.2.2.2.2.2.2.2.2.2.2.1,x_.2.2.2.2.2.2.2.2.2.2.2.1,x_.2.2.2.2.2.2.2.2.2.2.2.2.1,(List.set x_.2.2.2.2.2.2.2.2.2.2.2.2.2.1 (Int.toNat x_.2.2.2.1) (x_.2.2.2.2.2.2.1,x_.2.2.2.2.2.2.2.1,x_.2.2.2.2.2.2.2.2.1)),x_.2.2.2.2.2.2.2.2.2.2.2.2.2.2)))
def tableau_table_measure (q:Int) (b:Int) (t10007000:Int) (t1000701:List (Int×(Int×(Bool)))) (t1000702:List (Int×(Int×(Bool)))):Option ((Bool)×(List (Int×(Int×(Bool))))×(List (Int×(Int×(Bool))))×Int×Unit) :=
 bnd (okIf (decide ((0:Int) ≤ q))) fun y =>
 bnd (W.slices_IndexFunc_tableau_pauli__meas (0:Int) (↑(List.length t1000701):Int) (0:Int) (IntKind.wrap IntKind.u64 ((1:Int) * (2:Int) ^ Min.min (Int.toNat q) (64:Nat))) false t1000701) fun y_1 =>
 br (decide (Prod.fst y_1 < (0:Int)))
 (bnd (iter (fun s ↦ W.tableau_table_measure.c100006 (↑(List.length t1000702):Int) (Prod.fst s) (Prod.fst y_1.2) (Prod.fst y_1.2.2) (Prod.fst y_1.2.2.2) (Prod.fst (Prod.snd s)) (Prod.fst (Prod.snd (Prod.snd s))) (Prod.snd (Prod.snd (Prod.snd s))) (Prod.fst y_1.2.2.2.2) t1000702 some) ((0:Int),(0:Int),(0:Int),false)) fun y_2 =>
 some (Prod.snd (Prod.snd (Prod.snd y_2)) == (b == (1:Int)),Prod.fst y_1.2.2.2.2,t1000702,t10007000,()))
 (bnd (inR (List.length (Prod.fst y_1.2.2.2.2)) (Prod.fst y_1)) fun y_3 =>
 bnd (idx (Prod.fst y_1.2.2.2.2) (Prod.fst y_1)) fun y_4 =>
 bnd (iter (fun s ↦ W.tableau_table_measure.c100014 (Prod.fst y_1) t10007000 (Prod.fst s) (Prod.fst y_1.2) (Prod.fst y_1.2.2) (Prod.fst y_1.2.2.2) (Prod.fst y_4) (Prod.fst (Prod.snd y_4)) (Prod.snd (Prod.snd y_4)) (Prod.fst (Prod.snd s)) (Prod.snd (Prod.snd s)) some) ((0:Int),Prod.fst y_1.2.2.2.2,t1000702)) fun y_5 =>
 bnd (W.tableau_table_measure.c21 (Prod.fst y_1) (Prod.snd (Prod.snd y_5)) some) fun y_6 =>
 bnd (W.tableau_table_measure.c23 (Prod.fst y_1) (Prod.fst (Prod.snd y_5)) some) fun y_7 =>
 some (true,List.set (Prod.fst (Prod.snd y_5)) (Int.toNat (Prod.fst y_1)) (Prod.fst y_1.2,Prod.fst y_1.2.2,b == (1:Int)),List.set (Prod.snd (Prod.snd y_5)) (Int.toNat (Prod.fst y_1)) (Prod.fst y_4,Prod.fst (Prod.snd y_4),Prod.snd (Prod.snd y_4)),t10007000,()))
def tableau_table_measure.mc:MCallee:=⟨41,tableau_table_measure.pre,tableau_table_measure.post,fun x_=>tableau_table_measure x_.1 x_.2.1 x_.2.2.1 x_.2.2.2.1 x_.2.2.2.2.1⟩
def tableau_table_measure.G:Env:=⟨144,tab,[(85,tableau_pauli_meets.ce),(86,tableau_pauli_times.ce),(87,tableau_mixed.ce)],[0,1,2,6,7,8,9,10,11,12,13,24,29,30,31,32,38,64,65,66,81,110],[1000700,1000701,1000702],[(23,[⟨[],[],[141,142],[]⟩,⟨[0],[],[141,142],[]⟩,⟨[1,0],[],[141,142],[]⟩,⟨[2,1,0],[],[141,142],[]⟩,⟨[],[],[137,138,139,140,142],[]⟩,⟨[],[],[137,138,139,140,141],[]⟩,⟨[3,2,1,0,4,5],[],[],[]⟩,⟨[6,3,2,1,0,4,5],[1000701],[],[]⟩]),
 (21,[⟨[],[],[131,132],[]⟩,⟨[0],[],[131,132],[]⟩,⟨[1,0],[],[131,132],[]⟩,⟨[2,1,0],[],[131,132],[]⟩,⟨[],[],[127,128,129,130,132],[]⟩,⟨[],[],[127,128,129,130,131],[]⟩,⟨[3,2,1,0,4,5],[],[],[]⟩,⟨[6,3,2,1,0,4,5],[1000702],[],[]⟩]),
 (19,[⟨[],[],[115,116,117,118,119,120,121,122,123,124],[]⟩,⟨[0],[],[115,116,117,118,119,120,121,122,123,124],[]⟩,⟨[1,0],[],[115,116,117,118,119,120,121,122,123,124],[]⟩,⟨[2,1,0],[],[115,116,117,118,119,120,121,122,123,124],[]⟩,⟨[],[],[111,112,113,114,116,117,118,119,120,121,122,123,124],[]⟩,⟨[],[],[111,112,113,114,115,120,123],[]⟩,⟨[5],[],[111,112,113,114,115,120,123],[]⟩,⟨[6,5],[],[111,112,113,114,115,120,123],[]⟩,⟨[7,6,5],[],[111,112,113,114,115,120,123],[]⟩,⟨[],[],[111,112,113,114,115,116,117,118,119,123],[]⟩,⟨[8,7,6,5,9],[],[111,112,113,114,115,123],[]⟩,⟨[10,8,7,6,5,9],[],[111,112,113,114,115,123],[]⟩,⟨[],[],[111,112,113,114,115,116,117,118,119,120,121,122],[]⟩,⟨[11,10,8,7,6,5,9,12],[],[111,112,113,114,115],[]⟩,⟨[3,2,1,0,4,5,6,7,8,9,10,11,12,13],[],[],[]⟩,⟨[14,3,2,1,0,4,5,6,7,8,9,10,11,12,13],[1000702],[],[]⟩]),
 (18,[⟨[],[],[98],[]⟩,⟨[],[],[97],[]⟩,⟨[0,1],[],[],[]⟩,⟨[2,0,1],[],[],[]⟩,⟨[3,2,0,1],[],[105,108],[]⟩,⟨[4,3,2,0,1],[],[105,108],[]⟩,⟨[5,4,3,2,0,1],[],[105,108],[]⟩,⟨[6,5,4,3,2,0,1],[],[105,108],[]⟩,⟨[3,2,0,1],[],[101,102,103,104,108],[]⟩,⟨[7,6,5,4,3,2,0,1,8],[],[108],[]⟩,⟨[9,7,6,5,4,3,2,0,1,8],[],[108],[]⟩,⟨[3,2,0,1],[],[101,102,103,104,105,106,107],[]⟩,⟨[10,9,7,6,5,4,3,2,0,1,8,11],[],[],[]⟩,⟨[3,2,0,1,12,10,9,7,6,5,4,8,11],[],[],[]⟩]),
 (17,[⟨[],[],[86,87,88,89,90,91,92,93,94,95],[]⟩,⟨[0],[],[86,87,88,89,90,91,92,93,94,95],[]⟩,⟨[1,0],[],[86,87,88,89,90,91,92,93,94,95],[]⟩,⟨[2,1,0],[],[86,87,88,89,90,91,92,93,94,95],[]⟩,⟨[],[],[82,83,84,85,87,88,89,90,91,92,93,94,95],[]⟩,⟨[],[],[82,83,84,85,86,91,94],[]⟩,⟨[5],[],[82,83,84,85,86,91,94],[]⟩,⟨[6,5],[],[82,83,84,85,86,91,94],[]⟩,⟨[7,6,5],[],[82,83,84,85,86,91,94],[]⟩,⟨[],[],[82,83,84,85,86,87,88,89,90,94],[]⟩,⟨[8,7,6,5,9],[],[82,83,84,85,86,94],[]⟩,⟨[10,8,7,6,5,9],[],[82,83,84,85,86,94],[]⟩,⟨[],[],[82,83,84,85,86,87,88,89,90,91,92,93],[]⟩,⟨[11,10,8,7,6,5,9,12],[],[82,83,84,85,86],[]⟩,⟨[3,2,1,0,4,5,6,7,8,9,10,11,12,13],[],[],[]⟩,⟨[14,3,2,1,0,4,5,6,7,8,9,10,11,12,13],[1000701],[],[]⟩]),
 (16,[⟨[],[],[69],[]⟩,⟨[],[],[68],[]⟩,⟨[0,1],[],[],[]⟩,⟨[2,0,1],[],[],[]⟩,⟨[3,2,0,1],[],[76,79],[]⟩,⟨[4,3,2,0,1],[],[76,79],[]⟩,⟨[5,4,3,2,0,1],[],[76,79],[]⟩,⟨[6,5,4,3,2,0,1],[],[76,79],[]⟩,⟨[3,2,0,1],[],[72,73,74,75,79],[]⟩,⟨[7,6,5,4,3,2,0,1,8],[],[79],[]⟩,⟨[9,7,6,5,4,3,2,0,1,8],[],[79],[]⟩,⟨[3,2,0,1],[],[72,73,74,75,76,77,78],[]⟩,⟨[10,9,7,6,5,4,3,2,0,1,8,11],[],[],[]⟩,⟨[3,2,0,1,12,10,9,7,6,5,4,8,11],[],[],[]⟩]),
 (9,[⟨[],[],[40,41,42,43,44,45,46],[]⟩,⟨[],[],[39,44],[]⟩,⟨[1],[],[39,44],[]⟩,⟨[2,1],[],[39,44],[]⟩,⟨[3,2,1],[],[39,44],[]⟩,⟨[],[],[39,40,41,42,43],[]⟩,⟨[4,3,2,1,5],[],[39],[]⟩,⟨[6,4,3,2,1,5],[],[39],[]⟩,⟨[0,7,6,4,3,2,1,5],[],[],[]⟩,⟨[8,0,7,6,4,3,2,1,5],[9],[],[]⟩])],[(23,tableau_table_measure.c23r),(21,tableau_table_measure.c21r),(100014,tableau_table_measure.c100014r),(261454,tableau_table_measure.c261454r),(19,tableau_table_measure.c19r),(18,tableau_table_measure.c18r),(265541,tableau_table_measure.c265541r),(17,tableau_table_measure.c17r),(16,tableau_table_measure.c16r),(100006,tableau_table_measure.c100006r),(228680,tableau_table_measure.c228680r),(9,tableau_table_measure.c9r)],[(83,slices_IndexFunc_tableau_pauli__meas.mc)],tab_eqs⟩
theorem tableau_table_measure.eq (x_:densU tableau_table_measure.mc.pre.tys):denM tableau_table_measure.G Try.f41 tableau_table_measure.mc.pre tableau_table_measure.mc.post x_ = tableau_table_measure.mc.F x_:=by kernel_rfl
theorem tableau_table_measure.p0:PcA tableau_table_measure.G Try.f41 0 :=
 loop_ok (s:=tableau_table_measure.c100006r) (by kernel_rfl) (by kernel_rfl) (loops_of (sh:=tableau_table_measure.c100006s) (I:=fun x_ s_=>(x_.1,x_.2.1,x_.2.2.1,x_.2.2.2.1,x_.2.2.2.2.1,s_.1,x_.2.2.2.2.2.2.1,x_.2.2.2.2.2.2.2.1,x_.2.2.2.2.2.2.2.2.1,s_.2.1,s_.2.2.1,s_.2.2.2,x_.2.2.2.2.2.2.2.2.2.2.2.2)) (fun x_=>rfl) (fun ρ x_ s_ k_=>(nat_br (nat_bnd fun _=>nat_leaf) nat_leaf)) (fun ρ x_ t k=>(by kernel_rfl)) (fun x_ s=>by kernel_rfl))
theorem tableau_table_measure.p1:PcA tableau_table_measure.G Try.f41 1 :=
 join_ok (s:=tableau_table_measure.c228680r) (by kernel_rfl) (by kernel_rfl) (sums_of (sh:=tableau_table_measure.c228680s) (fun ρ x_ k_=>(nat_bnd fun _=>(nat_bnd fun _=>(nat_bnd fun _=>(nat_br (nat_bnd fun _=>nat_leaf) nat_leaf))))) (fun ρ x_ t k=>(by kernel_rfl)) (fun x_=>by kernel_rfl))
theorem tableau_table_measure.p2:PcA tableau_table_measure.G Try.f41 2 :=
 region_ok (s:=tableau_table_measure.c9r) (by kernel_rfl) (by kernel_rfl) (sums_of (sh:=tableau_table_measure.c9s) (fun ρ x_ k_=>(nat_bnd fun _=>(nat_bnd fun _=>(nat_bnd fun _=>nat_leaf)))) (fun ρ x_ t k=>(by kernel_rfl)) (fun x_=>by kernel_rfl))
theorem tableau_table_measure.p3:PcA tableau_table_measure.G Try.f41 3 :=
 loop_ok (s:=tableau_table_measure.c100014r) (by kernel_rfl) (by kernel_rfl) (loops_of (sh:=tableau_table_measure.c100014s) (I:=fun x_ s_=>(x_.1,x_.2.1,x_.2.2.1,x_.2.2.2.1,x_.2.2.2.2.1,s_.1,x_.2.2.2.2.2.2.1,x_.2.2.2.2.2.2.2.1,x_.2.2.2.2.2.2.2.2.1,x_.2.2.2.2.2.2.2.2.2.1,x_.2.2.2.2.2.2.2.2.2.2.1,x_.2.2.2.2.2.2.2.2.2.2.2.1,x_.2.2.2.2.2.2.2.2.2.2.2.2.1,s_.2.1,s_.2.2,())) (fun x_=>rfl) (fun ρ x_ s_ k_=>(nat_br (nat_bnd fun _=>nat_leaf) nat_leaf)) (fun ρ x_ t k=>(by kernel_rfl)) (fun x_ s=>by kernel_rfl))
theorem tableau_table_measure.p4:PcA tableau_table_measure.G Try.f41 4 :=
 join_ok (s:=tableau_table_measure.c261454r) (by kernel_rfl) (by kernel_rfl) (sums_of (sh:=tableau_table_measure.c261454s) (fun ρ x_ k_=>(nat_bnd fun _=>(nat_bnd fun _=>(nat_br (nat_bnd fun _=>nat_leaf) nat_leaf)))) (fun ρ x_ t k=>(by kernel_rfl)) (fun x_=>by kernel_rfl))
theorem tableau_table_measure.p5:PcA tableau_table_measure.G Try.f41 5 :=
 join_ok (s:=tableau_table_measure.c265541r) (by kernel_rfl) (by kernel_rfl) (sums_of (sh:=tableau_table_measure.c265541s) (fun ρ x_ k_=>(nat_bnd fun _=>(nat_br (nat_bnd fun _=>nat_leaf) nat_leaf))) (fun ρ x_ t k=>(by kernel_rfl)) (fun x_=>by kernel_rfl))
theorem tableau_table_measure.p6:PcA tableau_table_measure.G Try.f41 6 :=
 region_ok (s:=tableau_table_measure.c16r) (by kernel_rfl) (by kernel_rfl) (sums_of (sh:=tableau_table_measure.c16s) (fun ρ x_ k_=>(nat_br (nat_bnd fun _=>(nat_bnd fun _=>(nat_bnd fun _=>nat_leaf))) nat_leaf)) (fun ρ x_ t k=>(by kernel_rfl)) (fun x_=>by kernel_rfl))
theorem tableau_table_measure.p7:PcA tableau_table_measure.G Try.f41 7 :=
 region_ok (s:=tableau_table_measure.c17r) (by kernel_rfl) (by kernel_rfl) (sums_of (sh:=tableau_table_measure.c17s) (fun ρ x_ k_=>(nat_bnd fun _=>(nat_bnd fun _=>(nat_bnd fun _=>(nat_bnd fun _=>(nat_bnd fun _=>nat_leaf)))))) (fun ρ x_ t k=>(by kernel_rfl)) (fun x_=>by kernel_rfl))
theorem tableau_table_measure.p8:PcA tableau_table_measure.G Try.f41 8 :=
 region_ok (s:=tableau_table_measure.c18r) (by kernel_rfl) (by kernel_rfl) (sums_of (sh:=tableau_table_measure.c18s) (fun ρ x_ k_=>(nat_br (nat_bnd fun _=>(nat_bnd fun _=>(nat_bnd fun _=>nat_leaf))) nat_leaf)) (fun ρ x_ t k=>(by kernel_rfl)) (fun x_=>by kernel_rfl))
theorem tableau_table_measure.p9:PcA tableau_table_measure.G Try.f41 9 :=
 region_ok (s:=tableau_table_measure.c19r) (by kernel_rfl) (by kernel_rfl) (sums_of (sh:=tableau_table_measure.c19s) (fun ρ x_ k_=>(nat_bnd fun _=>(nat_bnd fun _=>(nat_bnd fun _=>(nat_bnd fun _=>(nat_bnd fun _=>nat_leaf)))))) (fun ρ x_ t k=>(by kernel_rfl)) (fun x_=>by kernel_rfl))
theorem tableau_table_measure.p10:PcA tableau_table_measure.G Try.f41 10 :=
 region_ok (s:=tableau_table_measure.c21r) (by kernel_rfl) (by kernel_rfl) (sums_of (sh:=tableau_table_measure.c21s) (fun ρ x_ k_=>(nat_bnd fun _=>(nat_bnd fun _=>nat_leaf))) (fun ρ x_ t k=>(by kernel_rfl)) (fun x_=>by kernel_rfl))
theorem tableau_table_measure.p11:PcA tableau_table_measure.G Try.f41 11 :=
 region_ok (s:=tableau_table_measure.c23r) (by kernel_rfl) (by kernel_rfl) (sums_of (sh:=tableau_table_measure.c23s) (fun ρ x_ k_=>(nat_bnd fun _=>(nat_bnd fun _=>nat_leaf))) (fun ρ x_ t k=>(by kernel_rfl)) (fun x_=>by kernel_rfl))
theorem tableau_table_measure.ok:MOk Try.prog 41 tableau_table_measure.mc:=fnm_ok (G:=tableau_table_measure.G) tab_ok mixed Try.func41 ⟨(fns_cons tableau_pauli_meets.ok (fns_cons tableau_pauli_times.ok (fns_cons tableau_mixed.ok fns_nil))),(mfns_cons slices_IndexFunc_tableau_pauli__meas.ok mfns_nil),tab_eqs_ok⟩ (m:=12) (by kernel_rfl) ⟨⟨⟨⟨⟨⟨⟨⟨⟨⟨⟨⟨trivial,tableau_table_measure.p0⟩,tableau_table_measure.p1⟩,tableau_table_measure.p2⟩,tableau_table_measure.p3⟩,tableau_table_measure.p4⟩,tableau_table_measure.p5⟩,tableau_table_measure.p6⟩,tableau_table_measure.p7⟩,tableau_table_measure.p8⟩,tableau_table_measure.p9⟩,tableau_table_measure.p10⟩,tableau_table_measure.p11⟩ (by kernel_rfl) tableau_table_measure.eq
def tableau_reduced_1.pre:Shape:=⟨[(0,tb11),(1,tb33),(2,tb51)],[(1000100,tb60),(1000200,tb60)]⟩
def tableau_reduced_1.post:Shape:=⟨[(0,tb7)],[(1000100,tb60),(1000200,tb60)]⟩
def tableau_reduced_1 (p:Int×(Int×(Bool))) (t10001000:Int) (t10002000:Int):Option ((Bool)×Int×Int×Unit) :=
 br (decide (t10001000 < t10002000))
 (bnd (okIf (decide ((0:Int) ≤ t10001000))) fun y =>
 some (ibits BinOp.and IntKind.u64 (Int.fdiv (Prod.fst p) ((2:Int) ^ Min.min (Int.toNat t10001000) (64:Nat))) (1:Int) == (1:Int),t10001000,t10002000,()))
 (bnd (okIf (decide ((0:Int) ≤ IntKind.wrap IntKind.i64 (t10001000 - t10002000)))) fun y_1 =>
 some (ibits BinOp.and IntKind.u64 (Int.fdiv (Prod.fst (Prod.snd p)) ((2:Int) ^ Min.min (Int.toNat (IntKind.wrap IntKind.i64 (t10001000 - t10002000))) (64:Nat))) (1:Int) == (1:Int),t10001000,t10002000,()))
def tableau_reduced_1.mc:MCallee:=⟨88,tableau_reduced_1.pre,tableau_reduced_1.post,fun x_=>tableau_reduced_1 x_.1 x_.2.1 x_.2.2.1⟩
def tableau_reduced_1.G:Env:=⟨22,tab,[],[0,1,2,3,4,7],[1000100,1000200],[],[],[],tab_eqs⟩
theorem tableau_reduced_1.eq (x_:densU tableau_reduced_1.mc.pre.tys):denM tableau_reduced_1.G Try.f88 tableau_reduced_1.mc.pre tableau_reduced_1.mc.post x_ = tableau_reduced_1.mc.F x_:=by kernel_rfl
theorem tableau_reduced_1.ok:MOk Try.prog 88 tableau_reduced_1.mc:=fnm_ok (G:=tableau_reduced_1.G) tab_ok mixed Try.func88 ⟨fns_nil,mfns_nil,tab_eqs_ok⟩ (m:=0) (by kernel_rfl) trivial (by kernel_rfl) tableau_reduced_1.eq
end
end W
end

section
set_option maxHeartbeats 4000000
set_option maxRecDepth 100000
set_option linter.unusedVariables false
namespace W
open Go Go.Ql Go.Proofs
noncomputable section
end
end W
end
