/- Lifted functions, part 3: each with its contract. -/
import Derived.Test.YtjlbeiadpdgchaaWb
import Derived.Test.YtjlbeiadpdgchaaProg
set_option linter.all false
section
set_option maxHeartbeats 4000000
set_option maxRecDepth 100000
set_option linter.unusedVariables false
namespace W
open Go Go.Ql Go.Proofs
noncomputable section
abbrev tb84:SD:=.one (.own 1000702 0)
abbrev tb85:SO:=.clo 84 [] [.ref 7 0]
def tableau_table_measure.pre:Shape:=⟨[(0,tb28),(1,tb5),(2,tb5)],[(1000700,tb81),(1000701,tb22),(1000702,tb22)]⟩
def tableau_table_measure.post:Shape:=⟨[(0,tb7)],[(1000701,tb22),(1000702,tb22),(1000700,tb81)]⟩
def tableau_table_measure.c9 {ρ:Type} (i:Int) (sum0:Int) (sum1:Int) (sum2:Bool) (t1000701:List (Int×(Int×(Bool)))) (k_:Int×Int×(Bool) → Option ρ):Option ρ :=
 bnd (inR (List.length t1000701) i) fun y =>
 bnd (idx t1000701 i) fun y_1 =>
 bnd (W.tableau_pauli_times (sum0,sum1,sum2) y_1) fun y_2 =>
 k_ ((Prod.fst y_2),(Prod.fst (Prod.snd y_2)),(Prod.snd (Prod.snd y_2)))
def tableau_table_measure.c9s:Shape:=⟨[(0,tb28),(1,tb5),(2,tb5),(6,tb7),(7,tb42),(8,tb5),(9,tb79),(10,tb5),(11,tb23),(29,tb84),(30,tb5),(31,tb5)],[(7,tb9),(9,tb9),(11,tb9),(21,tb85),(1000700,tb81),(1000701,tb22),(1000702,tb22)]⟩
def tableau_table_measure.c9x0:Shape:=tableau_table_measure.c9s
def tableau_table_measure.c9r:Ck:=Ck.of (T:=Int×Int×(Bool)) tableau_table_measure.c9s (fun ρ x_ k_=>tableau_table_measure.c9 x_.2.2.2.2.1 x_.2.2.2.2.2.2.2.2.2.2.1 x_.2.2.2.2.2.2.2.2.2.2.2.1 x_.2.2.2.2.2.2.2.2.2.2.2.2.1 x_.2.2.2.2.2.2.2.2.2.2.2.2.2.2.2.2.2.1 k_) (fun ρ x_ r_ k_=>k_ 0 (Shape.inj tableau_table_measure.c9x0 (x_.1,x_.2.1,x_.2.2.1,x_.2.2.2.1,x_.2.2.2.2.1,x_.2.2.2.2.2.1,x_.2.2.2.2.2.2.1,x_.2.2.2.2.2.2.2.1,x_.2.2.2.2.2.2.2.2.1,x_.2.2.2.2.2.2.2.2.2.1,r_.1,r_.2.1,r_.2.2,x_.2.2.2.2.2.2.2.2.2.2.2.2.2)))
def tableau_table_measure.c228680 {ρ:Type} (t31:Int) (z0:Int) (z1:Int) (z2:Bool) (sum0:Int) (sum1:Int) (sum2:Bool) (t1000701:List (Int×(Int×(Bool)))) (t1000702:List (Int×(Int×(Bool)))) (k_:Int×Int×(Bool) → Option ρ):Option ρ :=
 bnd (inR (List.length t1000702) t31) fun y =>
 bnd (idx t1000702 t31) fun y_1 =>
 bnd (W.tableau_pauli_meets (Prod.fst y_1,Prod.fst (Prod.snd y_1),Prod.snd (Prod.snd y_1)) (z0,z1,z2)) fun y_2 =>
 br y_2
 (bnd (W.tableau_table_measure.c9 t31 sum0 sum1 sum2 t1000701 some) fun y_3 =>
 k_ ((Prod.fst y_3),(Prod.fst (Prod.snd y_3)),(Prod.snd (Prod.snd y_3))))
 (k_ (sum0,sum1,sum2))
def tableau_table_measure.c228680s:Shape:=⟨[(0,tb28),(1,tb5),(2,tb5),(6,tb7),(7,tb42),(8,tb5),(9,tb79),(29,tb84),(30,tb5),(31,tb5)],[(7,tb9),(9,tb9),(21,tb85),(1000700,tb81),(1000701,tb22),(1000702,tb22)]⟩
def tableau_table_measure.c228680x0:Shape:=tableau_table_measure.c228680s
def tableau_table_measure.c228680r:Ck:=Ck.of (T:=Int×Int×(Bool)) tableau_table_measure.c228680s (fun ρ x_ k_=>tableau_table_measure.c228680 x_.2.2.2.2.2.1 x_.2.2.2.2.2.2.1 x_.2.2.2.2.2.2.2.1 x_.2.2.2.2.2.2.2.2.1 x_.2.2.2.2.2.2.2.2.2.1 x_.2.2.2.2.2.2.2.2.2.2.1 x_.2.2.2.2.2.2.2.2.2.2.2.1 x_.2.2.2.2.2.2.2.2.2.2.2.2.2.1 x_.2.2.2.2.2.2.2.2.2.2.2.2.2.2.1 k_) (fun ρ x_ r_ k_=>k_ 0 (Shape.inj tableau_table_measure.c228680x0 (x_.1,x_.2.1,x_.2.2.1,x_.2.2.2.1,x_.2.2.2.2.1,x_.2.2.2.2.2.1,x_.2.2.2.2.2.2.1,x_.2.2.2.2.2.2.2.1,x_.2.2.2.2.2.2.2.2.1,r_.1,r_.2.1,r_.2.2,x_.2.2.2.2.2.2.2.2.2.2.2.2)))
def tableau_table_measure.c100006 {ρ:Type} (t30:Int) (t31:Int) (z0:Int) (z1:Int) (z2:Bool) (sum0:Int) (sum1:Int) (sum2:Bool) (t1000701:List (Int×(Int×(Bool)))) (t1000702:List (Int×(Int×(Bool)))) (k_:(Int×Int×Int×(Bool)) ⊕ (Int×Int×Int×(Bool)) → Option ρ):Option ρ :=
 br (decide (t31 < t30))
 (bnd (W.tableau_table_measure.c228680 t31 z0 z1 z2 sum0 sum1 sum2 t1000701 t1000702 some) fun y =>
 k_ (.inl ((IntKind.wrap IntKind.i64 (t31 + (1:Int))),(Prod.fst y),(Prod.fst (Prod.snd y)),(Prod.snd (Prod.snd y)))))
 (k_ (.inr (t31,sum0,sum1,sum2)))
def tableau_table_measure.c100006s:Shape:=tableau_table_measure.c228680s
def tableau_table_measure.c100006x0:Shape:=tableau_table_measure.c228680s
def tableau_table_measure.c100006r:Ck:=Ck.ofLoop (S:=Int×Int×Int×(Bool)) (T:=Int×Int×Int×(Bool)) tableau_table_measure.c100006s (fun x_=>(x_.2.2.2.2.2.1,x_.2.2.2.2.2.2.2.2.2.1,x_.2.2.2.2.2.2.2.2.2.2.1,x_.2.2.2.2.2.2.2.2.2.2.2.1)) (fun ρ x_ s_ k_=>tableau_table_measure.c100006 x_.2.2.2.2.1 s_.1 x_.2.2.2.2.2.2.1 x_.2.2.2.2.2.2.2.1 x_.2.2.2.2.2.2.2.2.1 s_.2.1 s_.2.2.1 s_.2.2.2 x_.2.2.2.2.2.2.2.2.2.2.2.2.2.1 x_.2.2.2.2.2.2.2.2.2.2.2.2.2.2.1 k_) (fun ρ x_ r_ k_=>k_ 2 (Shape.inj tableau_table_measure.c100006x0 (x_.1,x_.2.1,x_.2.2.1,x_.2.2.2.1,x_.2.2.2.2.1,r_.1,x_.2.2.2.2.2.2.1,x_.2.2.2.2.2.2.2.1,x_.2.2.2.2.2.2.2.2.1,r_.2.1,r_.2.2.1,r_.2.2.2,x_.2.2.2.2.2.2.2.2.2.2.2.2)))
def tableau_table_measure.c16 {ρ:Type} (t8:Int) (i:Int) (z0:Int) (z1:Int) (z2:Bool) (t1000701:List (Int×(Int×(Bool)))) (k_:Bool → Option ρ):Option ρ :=
 br (i != t8)
 (bnd (inR (List.length t1000701) i) fun y =>
 bnd (idx t1000701 i) fun y_1 =>
 bnd (W.tableau_pauli_meets y_1 (z0,z1,z2)) fun y_2 =>
 k_ y_2)
 (k_ false)
def tableau_table_measure.c16s:Shape:=⟨[(0,tb28),(1,tb5),(2,tb5),(6,tb7),(7,tb42),(8,tb5),(12,tb74),(13,tb5),(64,tb5),(65,tb5)],[(7,tb9),(12,tb9),(21,tb85),(1000700,tb81),(1000701,tb22),(1000702,tb22)]⟩
def tableau_table_measure.c16x0:Shape:=⟨[(0,tb28),(1,tb5),(2,tb5),(6,tb7),(7,tb42),(8,tb5),(12,tb74),(13,tb5),(64,tb5),(65,tb5),(81,tb7)],[(7,tb9),(12,tb9),(21,tb85),(1000700,tb81),(1000701,tb22),(1000702,tb22)]⟩
def tableau_table_measure.c16r:Ck:=Ck.of (T:=Bool) tableau_table_measure.c16s (fun ρ x_ k_=>tableau_table_measure.c16 x_.2.2.2.1 x_.2.2.2.2.1 x_.2.2.2.2.2.2.2.1 x_.2.2.2.2.2.2.2.2.1 x_.2.2.2.2.2.2.2.2.2.1 x_.2.2.2.2.2.2.2.2.2.2.2.2.2.2.1 k_) (fun ρ x_ r_ k_=>k_ 0 (Shape.inj tableau_table_measure.c16x0 (x_.1,x_.2.1,x_.2.2.1,x_.2.2.2.1,x_.2.2.2.2.1,x_.2.2.2.2.2.1,x_.2.2.2.2.2.2.1,r_,x_.2.2.2.2.2.2.2)))
def tableau_table_measure.c17 {ρ:Type} (i:Int) (old0:Int) (old1:Int) (old2:Bool) (t1000701:List (Int×(Int×(Bool)))) (k_:List (Int×(Int×(Bool))) → Option ρ):Option ρ :=
 bnd (inR (List.length t1000701) i) fun y =>
 bnd (idx t1000701 i) fun y_1 =>
 bnd (W.tableau_pauli_times y_1 (old0,old1,old2)) fun y_2 =>
 bnd (inR (List.length t1000701) i) fun y_3 =>
 bnd (idx t1000701 i) fun y_4 =>
 k_ (List.set t1000701 (Int.toNat i) y_2)
def tableau_table_measure.c17s:Shape:=tableau_table_measure.c16s
def tableau_table_measure.c17x0:Shape:=tableau_table_measure.c16s
def tableau_table_measure.c17r:Ck:=Ck.of (T:=List (Int×(Int×(Bool)))) tableau_table_measure.c17s (fun ρ x_ k_=>tableau_table_measure.c17 x_.2.2.2.2.1 x_.2.2.2.2.2.2.2.2.2.2.1 x_.2.2.2.2.2.2.2.2.2.2.2.1 x_.2.2.2.2.2.2.2.2.2.2.2.2.1 x_.2.2.2.2.2.2.2.2.2.2.2.2.2.2.1 k_) (fun ρ x_ r_ k_=>k_ 0 (Shape.inj tableau_table_measure.c17x0 (x_.1,x_.2.1,x_.2.2.1,x_.2.2.2.1,x_.2.2.2.2.1,x_.2.2.2.2.2.1,x_.2.2.2.2.2.2.1,x_.2.2.2.2.2.2.2.1,x_.2.2.2.2.2.2.2.2.1,x_.2.2.2.2.2.2.2.2.2.1,x_.2.2.2.2.2.2.2.2.2.2.1,x_.2.2.2.2.2.2.2.2.2.2.2.1,x_.2.2.2.2.2.2.2.2.2.2.2.2.1,x_.2.2.2.2.2.2.2.2.2.2.2.2.2.1,r_,x_.2.2.2.2.2.2.2.2.2.2.2.2.2.2.2)))
def tableau_table_measure.c265541 {ρ:Type} (t8:Int) (i:Int) (z0:Int) (z1:Int) (z2:Bool) (old0:Int) (old1:Int) (old2:Bool) (t1000701:List (Int×(Int×(Bool)))) (k_:List (Int×(Int×(Bool))) → Option ρ):Option ρ :=
 bnd (W.tableau_table_measure.c16 t8 i z0 z1 z2 t1000701 some) fun y =>
 br y
 (bnd (W.tableau_table_measure.c17 i old0 old1 old2 t1000701 some) fun y_1 =>
 k_ y_1)
 (k_ t1000701)
def tableau_table_measure.c265541s:Shape:=tableau_table_measure.c16s
def tableau_table_measure.c265541x0:Shape:=tableau_table_measure.c16s
def tableau_table_measure.c265541r:Ck:=Ck.of (T:=List (Int×(Int×(Bool)))) tableau_table_measure.c265541s (fun ρ x_ k_=>tableau_table_measure.c265541 x_.2.2.2.1 x_.2.2.2.2.1 x_.2.2.2.2.2.2.2.1 x_.2.2.2.2.2.2.2.2.1 x_.2.2.2.2.2.2.2.2.2.1 x_.2.2.2.2.2.2.2.2.2.2.1 x_.2.2.2.2.2.2.2.2.2.2.2.1 x_.2.2.2.2.2.2.2.2.2.2.2.2.1 x_.2.2.2.2.2.2.2.2.2.2.2.2.2.2.1 k_) (fun ρ x_ r_ k_=>k_ 0 (Shape.inj tableau_table_measure.c265541x0 (x_.1,x_.2.1,x_.2.2.1,x_.2.2.2.1,x_.2.2.2.2.1,x_.2.2.2.2.2.1,x_.2.2.2.2.2.2.1,x_.2.2.2.2.2.2.2.1,x_.2.2.2.2.2.2.2.2.1,x_.2.2.2.2.2.2.2.2.2.1,x_.2.2.2.2.2.2.2.2.2.2.1,x_.2.2.2.2.2.2.2.2.2.2.2.1,x_.2.2.2.2.2.2.2.2.2.2.2.2.1,x_.2.2.2.2.2.2.2.2.2.2.2.2.2.1,r_,x_.2.2.2.2.2.2.2.2.2.2.2.2.2.2.2)))
def tableau_table_measure.c18 {ρ:Type} (t8:Int) (i:Int) (z0:Int) (z1:Int) (z2:Bool) (t1000702:List (Int×(Int×(Bool)))) (k_:Bool → Option ρ):Option ρ :=
 br (i != t8)
 (bnd (inR (List.length t1000702) i) fun y =>
 bnd (idx t1000702 i) fun y_1 =>
 bnd (W.tableau_pauli_meets y_1 (z0,z1,z2)) fun y_2 =>
 k_ y_2)
 (k_ false)
def tableau_table_measure.c18s:Shape:=tableau_table_measure.c16s
def tableau_table_measure.c18x0:Shape:=⟨[(0,tb28),(1,tb5),(2,tb5),(6,tb7),(7,tb42),(8,tb5),(12,tb74),(13,tb5),(64,tb5),(65,tb5),(110,tb7)],[(7,tb9),(12,tb9),(21,tb85),(1000700,tb81),(1000701,tb22),(1000702,tb22)]⟩
def tableau_table_measure.c18r:Ck:=Ck.of (T:=Bool) tableau_table_measure.c18s (fun ρ x_ k_=>tableau_table_measure.c18 x_.2.2.2.1 x_.2.2.2.2.1 x_.2.2.2.2.2.2.2.1 x_.2.2.2.2.2.2.2.2.1 x_.2.2.2.2.2.2.2.2.2.1 x_.2.2.2.2.2.2.2.2.2.2.2.2.2.2.2.1 k_) (fun ρ x_ r_ k_=>k_ 0 (Shape.inj tableau_table_measure.c18x0 (x_.1,x_.2.1,x_.2.2.1,x_.2.2.2.1,x_.2.2.2.2.1,x_.2.2.2.2.2.1,x_.2.2.2.2.2.2.1,r_,x_.2.2.2.2.2.2.2)))
def tableau_table_measure.c19 {ρ:Type} (i:Int) (old0:Int) (old1:Int) (old2:Bool) (t1000702:List (Int×(Int×(Bool)))) (k_:List (Int×(Int×(Bool))) → Option ρ):Option ρ :=
 bnd (inR (List.length t1000702) i) fun y =>
 bnd (idx t1000702 i) fun y_1 =>
 bnd (W.tableau_mixed y_1 (old0,old1,old2)) fun y_2 =>
 bnd (inR (List.length t1000702) i) fun y_3 =>
 bnd (idx t1000702 i) fun y_4 =>
 k_ (List.set t1000702 (Int.toNat i) y_2)
def tableau_table_measure.c19s:Shape:=tableau_table_measure.c16s
def tableau_table_measure.c19x0:Shape:=tableau_table_measure.c16s
def tableau_table_measure.c19r:Ck:=Ck.of (T:=List (Int×(Int×(Bool)))) tableau_table_measure.c19s (fun ρ x_ k_=>tableau_table_measure.c19 x_.2.2.2.2.1 x_.2.2.2.2.2.2.2.2.2.2.1 x_.2.2.2.2.2.2.2.2.2.2.2.1 x_.2.2.2.2.2.2.2.2.2.2.2.2.1 x_.2.2.2.2.2.2.2.2.2.2.2.2.2.2.2.1 k_) (fun ρ x_ r_ k_=>k_ 0 (Shape.inj tableau_table_measure.c19x0 (x_.1,x_.2.1,x_.2.2.1,x_.2.2.2.1,x_.2.2.2.2.1,x_.2.2.2.2.2.1,x_.2.2.2.2.2.2.1,x_.2.2.2.2.2.2.2.1,x_.2.2.2.2.2.2.2.2.1,x_.2.2.2.2.2.2.2.2.2.1,x_.2.2.2.2.2.2.2.2.2.2.1,x_.2.2.2.2.2.2.2.2.2.2.2.1,x_.2.2.2.2.2.2.2.2.2.2.2.2.1,x_.2.2.2.2.2.2.2.2.2.2.2.2.2.1,x_.2.2.2.2.2.2.2.2.2.2.2.2.2.2.1,r_,())))
def tableau_table_measure.c261454 {ρ:Type} (t8:Int) (t65:Int) (z0:Int) (z1:Int) (z2:Bool) (old0:Int) (old1:Int) (old2:Bool) (t1000701:List (Int×(Int×(Bool)))) (t1000702:List (Int×(Int×(Bool)))) (k_:(List (Int×(Int×(Bool))))×(List (Int×(Int×(Bool)))) → Option ρ):Option ρ :=
 bnd (W.tableau_table_measure.c265541 t8 t65 z0 z1 z2 old0 old1 old2 t1000701 some) fun y =>
 bnd (W.tableau_table_measure.c18 t8 t65 z0 z1 z2 t1000702 some) fun y_1 =>
 br y_1
 (bnd (W.tableau_table_measure.c19 t65 old0 old1 old2 t1000702 some) fun y_2 =>
 k_ (y,y_2))
 (k_ (y,t1000702))
def tableau_table_measure.c261454s:Shape:=⟨[(0,tb28),(1,tb5),(2,tb5),(6,tb7),(7,tb42),(8,tb5),(12,tb74),(64,tb5),(65,tb5)],[(7,tb9),(12,tb9),(21,tb85),(1000700,tb81),(1000701,tb22),(1000702,tb22)]⟩
def tableau_table_measure.c261454x0:Shape:=tableau_table_measure.c261454s
def tableau_table_measure.c261454r:Ck:=Ck.of (T:=(List (Int×(Int×(Bool))))×(List (Int×(Int×(Bool))))) tableau_table_measure.c261454s (fun ρ x_ k_=>tableau_table_measure.c261454 x_.2.2.2.1 x_.2.2.2.2.2.1 x_.2.2.2.2.2.2.1 x_.2.2.2.2.2.2.2.1 x_.2.2.2.2.2.2.2.2.1 x_.2.2.2.2.2.2.2.2.2.1 x_.2.2.2.2.2.2.2.2.2.2.1 x_.2.2.2.2.2.2.2.2.2.2.2.1 x_.2.2.2.2.2.2.2.2.2.2.2.2.2.1 x_.2.2.2.2.2.2.2.2.2.2.2.2.2.2.1 k_) (fun ρ x_ r_ k_=>k_ 0 (Shape.inj tableau_table_measure.c261454x0 (x_.1,x_.2.1,x_.2.2.1,x_.2.2.2.1,x_.2.2.2.2.1,x_.2.2.2.2.2.1,x_.2.2.2.2.2.2.1,x_.2.2.2.2.2.2.2.1,x_.2.2.2.2.2.2.2.2.1,x_.2.2.2.2.2.2.2.2.2.1,x_.2.2.2.2.2.2.2.2.2.2.1,x_.2.2.2.2.2.2.2.2.2.2.2.1,x_.2.2.2.2.2.2.2.2.2.2.2.2.1,r_.1,r_.2,())))
def tableau_table_measure.c100014 {ρ:Type} (t8:Int) (t64:Int) (t65:Int) (z0:Int) (z1:Int) (z2:Bool) (old0:Int) (old1:Int) (old2:Bool) (t1000701:List (Int×(Int×(Bool)))) (t1000702:List (Int×(Int×(Bool)))) (k_:(Int×(List (Int×(Int×(Bool))))×(List (Int×(Int×(Bool))))) ⊕ (Int×(List (Int×(Int×(Bool))))×(List (Int×(Int×(Bool))))) → Option ρ):Option ρ :=
 br (decide (t65 < t64))
 (bnd (W.tableau_table_measure.c261454 t8 t65 z0 z1 z2 old0 old1 old2 t1000701 t1000702 some) fun y =>
 k_ (.inl ((IntKind.wrap IntKind.i64 (t65 + (1:Int))),(Prod.fst y),(Prod.snd y))))
 (k_ (.inr (t65,t1000701,t1000702)))
def tableau_table_measure.c100014s:Shape:=tableau_table_measure.c261454s
def tableau_table_measure.c100014x0:Shape:=tableau_table_measure.c261454s
def tableau_table_measure.c100014r:Ck:=Ck.ofLoop (S:=Int×(List (Int×(Int×(Bool))))×(List (Int×(Int×(Bool))))) (T:=Int×(List (Int×(Int×(Bool))))×(List (Int×(Int×(Bool))))) tableau_table_measure.c100014s (fun x_=>(x_.2.2.2.2.2.1,x_.2.2.2.2.2.2.2.2.2.2.2.2.2.1,x_.2.2.2.2.2.2.2.2.2.2.2.2.2.2.1)) (fun ρ x_ s_ k_=>tableau_table_measure.c100014 x_.2.2.2.1 x_.2.2.2.2.1 s_.1 x_.2.2.2.2.2.2.1 x_.2.2.2.2.2.2.2.1 x_.2.2.2.2.2.2.2.2.1 x_.2.2.2.2.2.2.2.2.2.1 x_.2.2.2.2.2.2.2.2.2.2.1 x_.2.2.2.2.2.2.2.2.2.2.2.1 s_.2.1 s_.2.2 k_) (fun ρ x_ r_ k_=>k_ 4 (Shape.inj tableau_table_measure.c100014x0 (x_.1,x_.2.1,x_.2.2.1,x_.2.2.2.1,x_.2.2.2.2.1,r_.1,x_.2.2.2.2.2.2.1,x_.2.2.2.2.2.2.2.1,x_.2.2.2.2.2.2.2.2.1,x_.2.2.2.2.2.2.2.2.2.1,x_.2.2.2.2.2.2.2.2.2.2.1,x_.2.2.2.2.2.2.2.2.2.2.2.1,x_.2.2.2.2.2.2.2.2.2.2.2.2.1,r_.2.1,r_.2.2,())))
def tableau_table_measure.c21 {ρ:Type} (t8:Int) (t1000702:List (Int×(Int×(Bool)))) (k_:Unit → Option ρ):Option ρ :=
 bnd (inR (List.length t1000702) t8) fun y =>
 bnd (idx t1000702 t8) fun y_1 =>
 k_ ()
def tableau_table_measure.c21s:Shape:=tableau_table_measure.c261454s
def tableau_table_measure.c21x0:Shape:=tableau_table_measure.c261454s
def tableau_table_measure.c21r:Ck:=Ck.of (T:=Unit) tableau_table_measure.c21s (fun ρ x_ k_=>tableau_table_measure.c21 x_.2.2.2.1 x_.2.2.2.2.2.2.2.2.2.2.2.2.2.2.1 k_) (fun ρ x_ r_ k_=>k_ 0 (Shape.inj tableau_table_measure.c21x0 (x_.1,x_.2.1,x_.2.2.1,x_.2.2.2.1,x_.2.2.2.2.1,x_.2.2.2.2.2.1,x_.2.2.2.2.2.2.1,x_.2.2.2.2.2.2.2.1,x_.2.2.2.2.2.2.2.2.1,x_.2.2.2.2.2.2.2.2.2.1,x_.2.2.2.2.2.2.2.2.2.2.1,x_.2.2.2.2.2.2.2.2.2.2.2.1,x_.2.2.2.2.2.2.2.2.2.2.2.2.1,x_.2.2.2.2.2.2.2.2.2.2.2.2.2.1,(List.set x_.2.2.2.2.2.2.2.2.2.2.2.2.2.2.1 (Int.toNat x_.2.2.2.1) (x_.2.2.2.2.2.2.2.2.2.1,x_.2.2.2.2.2.2.2.2.2.2.1,x_.2.2.2.2.2.2.2.2.2.2.2.1)),())))
def tableau_table_measure.c23 {ρ:Type} (t8:Int) (t1000701:List (Int×(Int×(Bool)))) (k_:Unit → Option ρ):Option ρ :=
 bnd (inR (List.length t1000701) t8) fun y =>
 bnd (idx t1000701 t8) fun y_1 =>
 k_ ()
def tableau_table_measure.c23s:Shape:=tableau_table_measure.c261454s
def tableau_table_measure.c23x0:Shape:=tableau_table_measure.c261454s
def tableau_table_measure.c23r:Ck:=Ck.of (T:=Unit) tableau_table_measure.c23s (fun ρ x_ k_=>tableau_table_measure.c23 x_.2.2.2.1 x_.2.2.2.2.2.2.2.2.2.2.2.2.2.1 k_) (fun ρ x_ r_ k_=>k_ 0 (Shape.inj tableau_table_measure.c23x0 (x_.1,x_.2.1,x_.2.2.1,x_.2.2.2.1,x_.2.2.2.2.1,x_.2.2.2.2.2.1,x_.2.2.2.2.2.2.1,x_.2.2.2.2.2.2.2.1,x_.2.2.2.2.2.2.2.2.1,x_.2.2.2.2.2.2.2.2.2.1,x_.2.2.2.2.2.2.2.2.2.2.1,x_.2.2.2.2.2.2.2.2.2.2.2.1,x_.2.2.2.2.2.2.2.2.2.2.2.2.1,(List.set x_.2.2.2.2.2.2.2.2.2.2.2.2.2.1 (Int.toNat x_.2.2.2.1) (x_.2.2.2.2.2.2.1,x_.2.2.2.2.2.2.2.1,x_.2.2.2.2.2.2.2.2.1)),x_.2.2.2.2.2.2.2.2.2.2.2.2.2.2)))
def tableau_table_measure (q:Int) (b:Int) (t10007000:Int) (t1000701:List (Int×(Int×(Bool)))) (t1000702:List (Int×(Int×(Bool)))):Option ((Bool)×(List (Int×(Int×(Bool))))×(List (Int×(Int×(Bool))))×Int×Unit) :=
 bnd (okIf (decide ((0:Int) ≤ q))) fun y =>
 bnd (W.slices_IndexFunc_tableau_pauli__meas (0:Int) (↑(List.length t1000701):Int) (0:Int) (IntKind.wrap IntKind.u64 ((1:Int) * (2:Int) ^ Min.min (Int.toNat q) (64:Nat))) false t1000701) fun y_1 =>
 br (decide (Prod.fst y_1 < (0:Int)))
 (bnd (iter (fun s ↦ W.tableau_table_measure.c100006 (↑(List.length t1000702):Int) (Prod.fst s) (Prod.fst y_1.2) (Prod.fst y_1.2.2) (Prod.fst y_1.2.2.2) (Prod.fst (Prod.snd s)) (Prod.fst (Prod.snd (Prod.snd s))) (Prod.snd (Prod.snd (Prod.snd s))) (Prod.fst y_1.2.2.2.2) t1000702 some) ((0:Int),(0:Int),(0:Int),false)) fun y_2 =>
 some (Prod.snd (Prod.snd (Prod.snd y_2)) == (b == (1:Int)),Prod.fst y_1.2.2.2.2,t1000702,t10007000,()))
 (bnd (inR (List.length (Prod.fst y_1.2.2.2.2)) (Prod.fst y_1)) fun y_3 =>
 bnd (idx (Prod.fst y_1.2.2.2.2) (Prod.fst y_1)) fun y_4 =>
 bnd (iter (fun s ↦ W.tableau_table_measure.c100014 (Prod.fst y_1) t10007000 (Prod.fst s) (Prod.fst y_1.2) (Prod.fst y_1.2.2) (Prod.fst y_1.2.2.2) (Prod.fst y_4) (Prod.fst (Prod.snd y_4)) (Prod.snd (Prod.snd y_4)) (Prod.fst (Prod.snd s)) (Prod.snd (Prod.snd s)) some) ((0:Int),Prod.fst y_1.2.2.2.2,t1000702)) fun y_5 =>
 bnd (W.tableau_table_measure.c21 (Prod.fst y_1) (Prod.snd (Prod.snd y_5)) some) fun y_6 =>
 bnd (W.tableau_table_measure.c23 (Prod.fst y_1) (Prod.fst (Prod.snd y_5)) some) fun y_7 =>
 some (true,List.set (Prod.fst (Prod.snd y_5)) (Int.toNat (Prod.fst y_1)) (Prod.fst y_1.2,Prod.fst y_1.2.2,b == (1:Int)),List.set (Prod.snd (Prod.snd y_5)) (Int.toNat (Prod.fst y_1)) (Prod.fst y_4,Prod.fst (Prod.snd y_4),Prod.snd (Prod.snd y_4)),t10007000,()))
def tableau_table_measure.mc:MCallee:=⟨41,tableau_table_measure.pre,tableau_table_measure.post,fun x_=>tableau_table_measure x_.1 x_.2.1 x_.2.2.1 x_.2.2.2.1 x_.2.2.2.2.1⟩
def tableau_table_measure.G:Env:=⟨144,tab,[(85,tableau_pauli_meets.ce),(86,tableau_pauli_times.ce),(87,tableau_mixed.ce)],[0,1,2,6,7,8,9,10,11,12,13,24,29,30,31,32,38,64,65,66,81,110],[1000700,1000701,1000702],[(23,[⟨[],[],[141,142],[]⟩,⟨[0],[],[141,142],[]⟩,⟨[1,0],[],[141,142],[]⟩,⟨[2,1,0],[],[141,142],[]⟩,⟨[],[],[137,138,139,140,142],[]⟩,⟨[],[],[137,138,139,140,141],[]⟩,⟨[3,2,1,0,4,5],[],[],[]⟩,⟨[6,3,2,1,0,4,5],[1000701],[],[]⟩]),
 (21,[⟨[],[],[131,132],[]⟩,⟨[0],[],[131,132],[]⟩,⟨[1,0],[],[131,132],[]⟩,⟨[2,1,0],[],[131,132],[]⟩,⟨[],[],[127,128,129,130,132],[]⟩,⟨[],[],[127,128,129,130,131],[]⟩,⟨[3,2,1,0,4,5],[],[],[]⟩,⟨[6,3,2,1,0,4,5],[1000702],[],[]⟩]),
 (19,[⟨[],[],[115,116,117,118,119,120,121,122,123,124],[]⟩,⟨[0],[],[115,116,117,118,119,120,121,122,123,124],[]⟩,⟨[1,0],[],[115,116,117,118,119,120,121,122,123,124],[]⟩,⟨[2,1,0],[],[115,116,117,118,119,120,121,122,123,124],[]⟩,⟨[],[],[111,112,113,114,116,117,118,119,120,121,122,123,124],[]⟩,⟨[],[],[111,112,113,114,115,120,123],[]⟩,⟨[5],[],[111,112,113,114,115,120,123],[]⟩,⟨[6,5],[],[111,112,113,114,115,120,123],[]⟩,⟨[7,6,5],[],[111,112,113,114,115,120,123],[]⟩,⟨[],[],[111,112,113,114,115,116,117,118,119,123],[]⟩,⟨[8,7,6,5,9],[],[111,112,113,114,115,123],[]⟩,⟨[10,8,7,6,5,9],[],[111,112,113,114,115,123],[]⟩,⟨[],[],[111,112,113,114,115,116,117,118,119,120,121,122],[]⟩,⟨[11,10,8,7,6,5,9,12],[],[111,112,113,114,115],[]⟩,⟨[3,2,1,0,4,5,6,7,8,9,10,11,12,13],[],[],[]⟩,⟨[14,3,2,1,0,4,5,6,7,8,9,10,11,12,13],[1000702],[],[]⟩]),
 (18,[⟨[],[],[98],[]⟩,⟨[],[],[97],[]⟩,⟨[0,1],[],[],[]⟩,⟨[2,0,1],[],[],[]⟩,⟨[3,2,0,1],[],[105,108],[]⟩,⟨[4,3,2,0,1],[],[105,108],[]⟩,⟨[5,4,3,2,0,1],[],[105,108],[]⟩,⟨[6,5,4,3,2,0,1],[],[105,108],[]⟩,⟨[3,2,0,1],[],[101,102,103,104,108],[]⟩,⟨[7,6,5,4,3,2,0,1,8],[],[108],[]⟩,⟨[9,7,6,5,4,3,2,0,1,8],[],[108],[]⟩,⟨[3,2,0,1],[],[101,102,103,104,105,106,107],[]⟩,⟨[10,9,7,6,5,4,3,2,0,1,8,11],[],[],[]⟩,⟨[3,2,0,1,12,10,9,7,6,5,4,8,11],[],[],[]⟩]),
 (17,[⟨[],[],[86,87,88,89,90,91,92,93,94,95],[]⟩,⟨[0],[],[86,87,88,89,90,91,92,93,94,95],[]⟩,⟨[1,0],[],[86,87,88,89,90,91,92,93,94,95],[]⟩,⟨[2,1,0],[],[86,87,88,89,90,91,92,93,94,95],[]⟩,⟨[],[],[82,83,84,85,87,88,89,90,91,92,93,94,95],[]⟩,⟨[],[],[82,83,84,85,86,91,94],[]⟩,⟨[5],[],[82,83,84,85,86,91,94],[]⟩,⟨[6,5],[],[82,83,84,85,86,91,94],[]⟩,⟨[7,6,5],[],[82,83,84,85,86,91,94],[]⟩,⟨[],[],[82,83,84,85,86,87,88,89,90,94],[]⟩,⟨[8,7,6,5,9],[],[82,83,84,85,86,94],[]⟩,⟨[10,8,7,6,5,9],[],[82,83,84,85,86,94],[]⟩,⟨[],[],[82,83,84,85,86,87,88,89,90,91,92,93],[]⟩,⟨[11,10,8,7,6,5,9,12],[],[82,83,84,85,86],[]⟩,⟨[3,2,1,0,4,5,6,7,8,9,10,11,12,13],[],[],[]⟩,⟨[14,3,2,1,0,4,5,6,7,8,9,10,11,12,13],[1000701],[],[]⟩]),
 (16,[⟨[],[],[69],[]⟩,⟨[],[],[68],[]⟩,⟨[0,1],[],[],[]⟩,⟨[2,0,1],[],[],[]⟩,⟨[3,2,0,1],[],[76,79],[]⟩,⟨[4,3,2,0,1],[],[76,79],[]⟩,⟨[5,4,3,2,0,1],[],[76,79],[]⟩,⟨[6,5,4,3,2,0,1],[],[76,79],[]⟩,⟨[3,2,0,1],[],[72,73,74,75,79],[]⟩,⟨[7,6,5,4,3,2,0,1,8],[],[79],[]⟩,⟨[9,7,6,5,4,3,2,0,1,8],[],[79],[]⟩,⟨[3,2,0,1],[],[72,73,74,75,76,77,78],[]⟩,⟨[10,9,7,6,5,4,3,2,0,1,8,11],[],[],[]⟩,⟨[3,2,0,1,12,10,9,7,6,5,4,8,11],[],[],[]⟩]),
 (9,[⟨[],[],[40,41,42,43,44,45,46],[]⟩,⟨[],[],[39,44],[]⟩,⟨[1],[],[39,44],[]⟩,⟨[2,1],[],[39,44],[]⟩,⟨[3,2,1],[],[39,44],[]⟩,⟨[],[],[39,40,41,42,43],[]⟩,⟨[4,3,2,1,5],[],[39],[]⟩,⟨[6,4,3,2,1,5],[],[39],[]⟩,⟨[0,7,6,4,3,2,1,5],[],[],[]⟩,⟨[8,0,7,6,4,3,2,1,5],[9],[],[]⟩])],[(23,tableau_table_measure.c23r),(21,tableau_table_measure.c21r),(100014,tableau_table_measure.c100014r),(261454,tableau_table_measure.c261454r),(19,tableau_table_measure.c19r),(18,tableau_table_measure.c18r),(265541,tableau_table_measure.c265541r),(17,tableau_table_measure.c17r),(16,tableau_table_measure.c16r),(100006,tableau_table_measure.c100006r),(228680,tableau_table_measure.c228680r),(9,tableau_table_measure.c9r)],[(83,slices_IndexFunc_tableau_pauli__meas.mc)],tab_eqs⟩
theorem tableau_table_measure.eq (x_:densU tableau_table_measure.mc.pre.tys):denM tableau_table_measure.G Try.f41 tableau_table_measure.mc.pre tableau_table_measure.mc.post x_ = tableau_table_measure.mc.F x_:=by kernel_rfl
theorem tableau_table_measure.p0:PcA tableau_table_measure.G Try.f41 0 :=
 loop_ok (s:=tableau_table_measure.c100006r) (by kernel_rfl) (by kernel_rfl) (loops_of (sh:=tableau_table_measure.c100006s) (I:=fun x_ s_=>(x_.1,x_.2.1,x_.2.2.1,x_.2.2.2.1,x_.2.2.2.2.1,s_.1,x_.2.2.2.2.2.2.1,x_.2.2.2.2.2.2.2.1,x_.2.2.2.2.2.2.2.2.1,s_.2.1,s_.2.2.1,s_.2.2.2,x_.2.2.2.2.2.2.2.2.2.2.2.2)) (fun x_=>rfl) (fun ρ x_ s_ k_=>(nat_br (nat_bnd fun _=>nat_leaf) nat_leaf)) (fun ρ x_ t k=>(by kernel_rfl)) (fun x_ s=>by kernel_rfl))
theorem tableau_table_measure.p1:PcA tableau_table_measure.G Try.f41 1 :=
 join_ok (s:=tableau_table_measure.c228680r) (by kernel_rfl) (by kernel_rfl) (sums_of (sh:=tableau_table_measure.c228680s) (fun ρ x_ k_=>(nat_bnd fun _=>(nat_bnd fun _=>(nat_bnd fun _=>(nat_br (nat_bnd fun _=>nat_leaf) nat_leaf))))) (fun ρ x_ t k=>(by kernel_rfl)) (fun x_=>by kernel_rfl))
theorem tableau_table_measure.p2:PcA tableau_table_measure.G Try.f41 2 :=
 region_ok (s:=tableau_table_measure.c9r) (by kernel_rfl) (by kernel_rfl) (sums_of (sh:=tableau_table_measure.c9s) (fun ρ x_ k_=>(nat_bnd fun _=>(nat_bnd fun _=>(nat_bnd fun _=>nat_leaf)))) (fun ρ x_ t k=>(by kernel_rfl)) (fun x_=>by kernel_rfl))
theorem tableau_table_measure.p3:PcA tableau_table_measure.G Try.f41 3 :=
 loop_ok (s:=tableau_table_measure.c100014r) (by kernel_rfl) (by kernel_rfl) (loops_of (sh:=tableau_table_measure.c100014s) (I:=fun x_ s_=>(x_.1,x_.2.1,x_.2.2.1,x_.2.2.2.1,x_.2.2.2.2.1,s_.1,x_.2.2.2.2.2.2.1,x_.2.2.2.2.2.2.2.1,x_.2.2.2.2.2.2.2.2.1,x_.2.2.2.2.2.2.2.2.2.1,x_.2.2.2.2.2.2.2.2.2.2.1,x_.2.2.2.2.2.2.2.2.2.2.2.1,x_.2.2.2.2.2.2.2.2.2.2.2.2.1,s_.2.1,s_.2.2,())) (fun x_=>rfl) (fun ρ x_ s_ k_=>(nat_br (nat_bnd fun _=>nat_leaf) nat_leaf)) (fun ρ x_ t k=>(by kernel_rfl)) (fun x_ s=>by kernel_rfl))
theorem tableau_table_measure.p4:PcA tableau_table_measure.G Try.f41 4 :=
 join_ok (s:=tableau_table_measure.c261454r) (by kernel_rfl) (by kernel_rfl) (sums_of (sh:=tableau_table_measure.c261454s) (fun ρ x_ k_=>(nat_bnd fun _=>(nat_bnd fun _=>(nat_br (nat_bnd fun _=>nat_leaf) nat_leaf)))) (fun ρ x_ t k=>(by kernel_rfl)) (fun x_=>by kernel_rfl))
theorem tableau_table_measure.p5:PcA tableau_table_measure.G Try.f41 5 :=
 join_ok (s:=tableau_table_measure.c265541r) (by kernel_rfl) (by kernel_rfl) (sums_of (sh:=tableau_table_measure.c265541s) (fun ρ x_ k_=>(nat_bnd fun _=>(nat_br (nat_bnd fun _=>nat_leaf) nat_leaf))) (fun ρ x_ t k=>(by kernel_rfl)) (fun x_=>by kernel_rfl))
theorem tableau_table_measure.p6:PcA tableau_table_measure.G Try.f41 6 :=
 region_ok (s:=tableau_table_measure.c16r) (by kernel_rfl) (by kernel_rfl) (sums_of (sh:=tableau_table_measure.c16s) (fun ρ x_ k_=>(nat_br (nat_bnd fun _=>(nat_bnd fun _=>(nat_bnd fun _=>nat_leaf))) nat_leaf)) (fun ρ x_ t k=>(by kernel_rfl)) (fun x_=>by kernel_rfl))
theorem tableau_table_measure.p7:PcA tableau_table_measure.G Try.f41 7 :=
 region_ok (s:=tableau_table_measure.c17r) (by kernel_rfl) (by kernel_rfl) (sums_of (sh:=tableau_table_measure.c17s) (fun ρ x_ k_=>(nat_bnd fun _=>(nat_bnd fun _=>(nat_bnd fun _=>(nat_bnd fun _=>(nat_bnd fun _=>nat_leaf)))))) (fun ρ x_ t k=>(by kernel_rfl)) (fun x_=>by kernel_rfl))
theorem tableau_table_measure.p8:PcA tableau_table_measure.G Try.f41 8 :=
 region_ok (s:=tableau_table_measure.c18r) (by kernel_rfl) (by kernel_rfl) (sums_of (sh:=tableau_table_measure.c18s) (fun ρ x_ k_=>(nat_br (nat_bnd fun _=>(nat_bnd fun _=>(nat_bnd fun _=>nat_leaf))) nat_leaf)) (fun ρ x_ t k=>(by kernel_rfl)) (fun x_=>by kernel_rfl))
theorem tableau_table_measure.p9:PcA tableau_table_measure.G Try.f41 9 :=
 region_ok (s:=tableau_table_measure.c19r) (by kernel_rfl) (by kernel_rfl) (sums_of (sh:=tableau_table_measure.c19s) (fun ρ x_ k_=>(nat_bnd fun _=>(nat_bnd fun _=>(nat_bnd fun _=>(nat_bnd fun _=>(nat_bnd fun _=>nat_leaf)))))) (fun ρ x_ t k=>(by kernel_rfl)) (fun x_=>by kernel_rfl))
theorem tableau_table_measure.p10:PcA tableau_table_measure.G Try.f41 10 :=
 region_ok (s:=tableau_table_measure.c21r) (by kernel_rfl) (by kernel_rfl) (sums_of (sh:=tableau_table_measure.c21s) (fun ρ x_ k_=>(nat_bnd fun _=>(nat_bnd fun _=>nat_leaf))) (fun ρ x_ t k=>(by kernel_rfl)) (fun x_=>by kernel_rfl))
theorem tableau_table_measure.p11:PcA tableau_table_measure.G Try.f41 11 :=
 region_ok (s:=tableau_table_measure.c23r) (by kernel_rfl) (by kernel_rfl) (sums_of (sh:=tableau_table_measure.c23s) (fun ρ x_ k_=>(nat_bnd fun _=>(nat_bnd fun _=>nat_leaf))) (fun ρ x_ t k=>(by kernel_rfl)) (fun x_=>by kernel_rfl))
theorem tableau_table_measure.ok:MOk Try.prog 41 tableau_table_measure.mc:=fnm_ok (G:=tableau_table_measure.G) tab_ok mixed Try.func41 ⟨(fns_cons tableau_pauli_meets.ok (fns_cons tableau_pauli_times.ok (fns_cons tableau_mixed.ok fns_nil))),(mfns_cons slices_IndexFunc_tableau_pauli__meas.ok mfns_nil),tab_eqs_ok⟩ (m:=12) (by kernel_rfl) ⟨⟨⟨⟨⟨⟨⟨⟨⟨⟨⟨⟨trivial,tableau_table_measure.p0⟩,tableau_table_measure.p1⟩,tableau_table_measure.p2⟩,tableau_table_measure.p3⟩,tableau_table_measure.p4⟩,tableau_table_measure.p5⟩,tableau_table_measure.p6⟩,tableau_table_measure.p7⟩,tableau_table_measure.p8⟩,tableau_table_measure.p9⟩,tableau_table_measure.p10⟩,tableau_table_measure.p11⟩ (by kernel_rfl) tableau_table_measure.eq
def tableau_reduced_1.pre:Shape:=⟨[(0,tb11),(1,tb33),(2,tb51)],[(1000100,tb60),(1000200,tb60)]⟩
def tableau_reduced_1.post:Shape:=⟨[(0,tb7)],[(1000100,tb60),(1000200,tb60)]⟩
def tableau_reduced_1 (p:Int×(Int×(Bool))) (t10001000:Int) (t10002000:Int):Option ((Bool)×Int×Int×Unit) :=
 br (decide (t10001000 < t10002000))
 (bnd (okIf (decide ((0:Int) ≤ t10001000))) fun y =>
 some (ibits BinOp.and IntKind.u64 (Int.fdiv (Prod.fst p) ((2:Int) ^ Min.min (Int.toNat t10001000) (64:Nat))) (1:Int) == (1:Int),t10001000,t10002000,()))
 (bnd (okIf (decide ((0:Int) ≤ IntKind.wrap IntKind.i64 (t10001000 - t10002000)))) fun y_1 =>
 some (ibits BinOp.and IntKind.u64 (Int.fdiv (Prod.fst (Prod.snd p)) ((2:Int) ^ Min.min (Int.toNat (IntKind.wrap IntKind.i64 (t10001000 - t10002000))) (64:Nat))) (1:Int) == (1:Int),t10001000,t10002000,()))
def tableau_reduced_1.mc:MCallee:=⟨88,tableau_reduced_1.pre,tableau_reduced_1.post,fun x_=>tableau_reduced_1 x_.1 x_.2.1 x_.2.2.1⟩
def tableau_reduced_1.G:Env:=⟨22,tab,[],[0,1,2,3,4,7],[1000100,1000200],[],[],[],tab_eqs⟩
theorem tableau_reduced_1.eq (x_:densU tableau_reduced_1.mc.pre.tys):denM tableau_reduced_1.G Try.f88 tableau_reduced_1.mc.pre tableau_reduced_1.mc.post x_ = tableau_reduced_1.mc.F x_:=by kernel_rfl
theorem tableau_reduced_1.ok:MOk Try.prog 88 tableau_reduced_1.mc:=fnm_ok (G:=tableau_reduced_1.G) tab_ok mixed Try.func88 ⟨fns_nil,mfns_nil,tab_eqs_ok⟩ (m:=0) (by kernel_rfl) trivial (by kernel_rfl) tableau_reduced_1.eq
abbrev tb86:SD:=.one (.own 11 0)
abbrev tb87:SD:=.one (.clo 17)
abbrev tb88:SO:=.clo 88 [] [.ref 6 0,.ref 3 0]
def tableau_reduced.c8 {ρ:Type} (t8:Int) (n0:Int) (col0:Int) (t11:List (Int×(Int×(Bool)))) (k_:(Bool)×Int×Int → Option ρ):Option ρ :=
 br (decide (t8 < (↑(List.length t11):Int)))
 (bnd (inR (List.length t11) t8) fun y =>
 bnd (idx t11 t8) fun y_1 =>
 bnd (W.tableau_reduced_1 y_1 col0 n0) fun y_2 =>
 k_ ((!Prod.fst y_2),(Prod.fst y_2.2.2),(Prod.fst y_2.2)))
 (k_ (false,n0,col0))
def tableau_reduced.c8s:Shape:=⟨[(0,tb86),(1,tb5),(3,tb12),(4,tb17),(5,tb5),(6,tb8),(7,tb87),(8,tb5),(13,tb5),(14,tb5)],[(3,tb60),(6,tb60),(11,tb22),(17,tb88)]⟩
def tableau_reduced.c8x0:Shape:=⟨[(0,tb86),(1,tb5),(3,tb12),(4,tb17),(5,tb5),(6,tb8),(7,tb87),(8,tb5),(13,tb5),(14,tb5),(31,tb7)],[(3,tb60),(6,tb60),(11,tb22),(17,tb88)]⟩
def tableau_reduced.c8r:Ck:=Ck.of (T:=(Bool)×Int×Int) tableau_reduced.c8s (fun ρ x_ k_=>tableau_reduced.c8 x_.2.2.2.1 x_.2.2.2.2.2.2.1 x_.2.2.2.2.2.2.2.1 x_.2.2.2.2.2.2.2.2.1 k_) (fun ρ x_ r_ k_=>k_ 0 (Shape.inj tableau_reduced.c8x0 (x_.1,x_.2.1,x_.2.2.1,x_.2.2.2.1,x_.2.2.2.2.1,x_.2.2.2.2.2.1,r_.1,r_.2.1,r_.2.2,x_.2.2.2.2.2.2.2.2)))
def tableau_reduced.c100008 {ρ:Type} (t8:Int) (n0:Int) (col0:Int) (t11:List (Int×(Int×(Bool)))) (k_:(Int×Int×Int) ⊕ (Int×Int×Int) → Option ρ):Option ρ :=
 bnd (W.tableau_reduced.c8 t8 n0 col0 t11 some) fun y =>
 br (Prod.fst y)
 (k_ (.inl ((IntKind.wrap IntKind.i64 (t8 + (1:Int))),(Prod.fst (Prod.snd y)),(Prod.snd (Prod.snd y)))))
 (k_ (.inr (t8,(Prod.fst (Prod.snd y)),(Prod.snd (Prod.snd y)))))
def tableau_reduced.c100008s:Shape:=tableau_reduced.c8s
def tableau_reduced.c100008x0:Shape:=tableau_reduced.c8s
def tableau_reduced.c100008r:Ck:=Ck.ofLoop (S:=Int×Int×Int) (T:=Int×Int×Int) tableau_reduced.c100008s (fun x_=>(x_.2.2.2.1,x_.2.2.2.2.2.2.1,x_.2.2.2.2.2.2.2.1)) (fun ρ x_ s_ k_=>tableau_reduced.c100008 s_.1 s_.2.1 s_.2.2 x_.2.2.2.2.2.2.2.2.1 k_) (fun ρ x_ r_ k_=>k_ 4 (Shape.inj tableau_reduced.c100008x0 (x_.1,x_.2.1,x_.2.2.1,r_.1,x_.2.2.2.2.1,x_.2.2.2.2.2.1,r_.2.1,r_.2.2,x_.2.2.2.2.2.2.2.2)))
def tableau_reduced.c11 {ρ:Type} (done:Int) (t8:Int) (t11:List (Int×(Int×(Bool)))) (k_:List (Int×(Int×(Bool))) → Option ρ):Option ρ :=
 bnd (inR (List.length t11) t8) fun y =>
 bnd (idx t11 t8) fun y_1 =>
 bnd (inR (List.length t11) done) fun y_2 =>
 bnd (idx t11 done) fun y_3 =>
 bnd (inR (List.length t11) done) fun y_4 =>
 bnd (idx t11 done) fun y_5 =>
 bnd (inR (List.length (List.set t11 (Int.toNat done) y_1)) t8) fun y_6 =>
 bnd (idx (List.set t11 (Int.toNat done) y_1) t8) fun y_7 =>
 k_ (List.set (List.set t11 (Int.toNat done) y_1) (Int.toNat t8) y_3)
def tableau_reduced.c11s:Shape:=tableau_reduced.c8s
def tableau_reduced.c11x0:Shape:=tableau_reduced.c8s
def tableau_reduced.c11r:Ck:=Ck.of (T:=List (Int×(Int×(Bool)))) tableau_reduced.c11s (fun ρ x_ k_=>tableau_reduced.c11 x_.2.2.1 x_.2.2.2.1 x_.2.2.2.2.2.2.2.2.1 k_) (fun ρ x_ r_ k_=>k_ 0 (Shape.inj tableau_reduced.c11x0 (x_.1,x_.2.1,x_.2.2.1,x_.2.2.2.1,x_.2.2.2.2.1,x_.2.2.2.2.2.1,x_.2.2.2.2.2.2.1,x_.2.2.2.2.2.2.2.1,r_,())))
def tableau_reduced.c15 {ρ:Type} (done:Int) (i:Int) (n0:Int) (col0:Int) (t11:List (Int×(Int×(Bool)))) (k_:(Bool)×Int×Int → Option ρ):Option ρ :=
 br (i != done)
 (bnd (inR (List.length t11) i) fun y =>
 bnd (idx t11 i) fun y_1 =>
 bnd (W.tableau_reduced_1 y_1 col0 n0) fun y_2 =>
 k_ ((Prod.fst y_2),(Prod.fst y_2.2.2),(Prod.fst y_2.2)))
 (k_ (false,n0,col0))
def tableau_reduced.c15s:Shape:=⟨[(0,tb86),(1,tb5),(3,tb12),(4,tb17),(5,tb5),(6,tb8),(7,tb87),(8,tb5),(9,tb5),(13,tb5),(14,tb5),(53,tb5),(54,tb5)],[(3,tb60),(6,tb60),(11,tb22),(17,tb88)]⟩
def tableau_reduced.c15x0:Shape:=⟨[(0,tb86),(1,tb5),(3,tb12),(4,tb17),(5,tb5),(6,tb8),(7,tb87),(8,tb5),(9,tb5),(13,tb5),(14,tb5),(53,tb5),(54,tb5),(67,tb7)],[(3,tb60),(6,tb60),(11,tb22),(17,tb88)]⟩
def tableau_reduced.c15r:Ck:=Ck.of (T:=(Bool)×Int×Int) tableau_reduced.c15s (fun ρ x_ k_=>tableau_reduced.c15 x_.2.2.1 x_.2.2.2.2.1 x_.2.2.2.2.2.2.2.2.2.1 x_.2.2.2.2.2.2.2.2.2.2.1 x_.2.2.2.2.2.2.2.2.2.2.2.1 k_) (fun ρ x_ r_ k_=>k_ 0 (Shape.inj tableau_reduced.c15x0 (x_.1,x_.2.1,x_.2.2.1,x_.2.2.2.1,x_.2.2.2.2.1,x_.2.2.2.2.2.1,x_.2.2.2.2.2.2.1,x_.2.2.2.2.2.2.2.1,x_.2.2.2.2.2.2.2.2.1,r_.1,r_.2.1,r_.2.2,x_.2.2.2.2.2.2.2.2.2.2.2)))
def tableau_reduced.c16 {ρ:Type} (done:Int) (i:Int) (t11:List (Int×(Int×(Bool)))) (k_:List (Int×(Int×(Bool))) → Option ρ):Option ρ :=
 bnd (inR (List.length t11) i) fun y =>
 bnd (idx t11 i) fun y_1 =>
 bnd (inR (List.length t11) done) fun y_2 =>
 bnd (idx t11 done) fun y_3 =>
 bnd (W.tableau_pauli_times y_1 y_3) fun y_4 =>
 bnd (inR (List.length t11) i) fun y_5 =>
 bnd (idx t11 i) fun y_6 =>
 k_ (List.set t11 (Int.toNat i) y_4)
def tableau_reduced.c16s:Shape:=tableau_reduced.c15s
def tableau_reduced.c16x0:Shape:=tableau_reduced.c15s
def tableau_reduced.c16r:Ck:=Ck.of (T:=List (Int×(Int×(Bool)))) tableau_reduced.c16s (fun ρ x_ k_=>tableau_reduced.c16 x_.2.2.1 x_.2.2.2.2.1 x_.2.2.2.2.2.2.2.2.2.2.2.1 k_) (fun ρ x_ r_ k_=>k_ 0 (Shape.inj tableau_reduced.c16x0 (x_.1,x_.2.1,x_.2.2.1,x_.2.2.2.1,x_.2.2.2.2.1,x_.2.2.2.2.2.1,x_.2.2.2.2.2.2.1,x_.2.2.2.2.2.2.2.1,x_.2.2.2.2.2.2.2.2.1,x_.2.2.2.2.2.2.2.2.2.1,x_.2.2.2.2.2.2.2.2.2.2.1,r_,())))
def tableau_reduced.c257352 {ρ:Type} (done:Int) (t54:Int) (n0:Int) (col0:Int) (t11:List (Int×(Int×(Bool)))) (k_:Int×Int×(List (Int×(Int×(Bool)))) → Option ρ):Option ρ :=
 bnd (W.tableau_reduced.c15 done t54 n0 col0 t11 some) fun y =>
 br (Prod.fst y)
 (bnd (W.tableau_reduced.c16 done t54 t11 some) fun y_1 =>
 k_ ((Prod.fst (Prod.snd y)),(Prod.snd (Prod.snd y)),y_1))
 (k_ ((Prod.fst (Prod.snd y)),(Prod.snd (Prod.snd y)),t11))
def tableau_reduced.c257352s:Shape:=⟨[(0,tb86),(1,tb5),(3,tb12),(4,tb17),(5,tb5),(6,tb8),(7,tb87),(8,tb5),(13,tb5),(14,tb5),(53,tb5),(54,tb5)],[(3,tb60),(6,tb60),(11,tb22),(17,tb88)]⟩
def tableau_reduced.c257352x0:Shape:=tableau_reduced.c257352s
def tableau_reduced.c257352r:Ck:=Ck.of (T:=Int×Int×(List (Int×(Int×(Bool))))) tableau_reduced.c257352s (fun ρ x_ k_=>tableau_reduced.c257352 x_.2.2.1 x_.2.2.2.2.2.2.2.1 x_.2.2.2.2.2.2.2.2.1 x_.2.2.2.2.2.2.2.2.2.1 x_.2.2.2.2.2.2.2.2.2.2.1 k_) (fun ρ x_ r_ k_=>k_ 0 (Shape.inj tableau_reduced.c257352x0 (x_.1,x_.2.1,x_.2.2.1,x_.2.2.2.1,x_.2.2.2.2.1,x_.2.2.2.2.2.1,x_.2.2.2.2.2.2.1,x_.2.2.2.2.2.2.2.1,r_.1,r_.2.1,r_.2.2,())))
def tableau_reduced.c100013 {ρ:Type} (done:Int) (t53:Int) (t54:Int) (n0:Int) (col0:Int) (t11:List (Int×(Int×(Bool)))) (k_:(Int×Int×Int×(List (Int×(Int×(Bool))))) ⊕ (Int×Int×Int×(List (Int×(Int×(Bool))))) → Option ρ):Option ρ :=
 br (decide (t54 < t53))
 (bnd (W.tableau_reduced.c257352 done t54 n0 col0 t11 some) fun y =>
 k_ (.inl ((IntKind.wrap IntKind.i64 (t54 + (1:Int))),(Prod.fst y),(Prod.fst (Prod.snd y)),(Prod.snd (Prod.snd y)))))
 (k_ (.inr (t54,n0,col0,t11)))
def tableau_reduced.c100013s:Shape:=tableau_reduced.c257352s
def tableau_reduced.c100013x0:Shape:=tableau_reduced.c257352s
def tableau_reduced.c100013r:Ck:=Ck.ofLoop (S:=Int×Int×Int×(List (Int×(Int×(Bool))))) (T:=Int×Int×Int×(List (Int×(Int×(Bool))))) tableau_reduced.c100013s (fun x_=>(x_.2.2.2.2.2.2.2.1,x_.2.2.2.2.2.2.2.2.1,x_.2.2.2.2.2.2.2.2.2.1,x_.2.2.2.2.2.2.2.2.2.2.1)) (fun ρ x_ s_ k_=>tableau_reduced.c100013 x_.2.2.1 x_.2.2.2.2.2.2.1 s_.1 s_.2.1 s_.2.2.1 s_.2.2.2 k_) (fun ρ x_ r_ k_=>k_ 6 (Shape.inj tableau_reduced.c100013x0 (x_.1,x_.2.1,x_.2.2.1,x_.2.2.2.1,x_.2.2.2.2.1,x_.2.2.2.2.2.1,x_.2.2.2.2.2.2.1,r_.1,r_.2.1,r_.2.2.1,r_.2.2.2,())))
def tableau_reduced.c220528 {ρ:Type} (done:Int) (t14:Int) (n0:Int) (t11:List (Int×(Int×(Bool)))) (k_:Int×Int×(List (Int×(Int×(Bool)))) → Option ρ):Option ρ :=
 bnd (iter (fun s ↦ W.tableau_reduced.c100008 (Prod.fst s) (Prod.fst (Prod.snd s)) (Prod.snd (Prod.snd s)) t11 some) (done,n0,t14)) fun y =>
 br (Prod.fst y == (↑(List.length t11):Int))
 (k_ (done,(Prod.fst (Prod.snd y)),t11))
 (bnd (W.tableau_reduced.c11 done (Prod.fst y) t11 some) fun y_1 =>
 bnd (iter (fun s ↦ W.tableau_reduced.c100013 done (↑(List.length y_1):Int) (Prod.fst s) (Prod.fst (Prod.snd s)) (Prod.fst (Prod.snd (Prod.snd s))) (Prod.snd (Prod.snd (Prod.snd s))) some) ((0:Int),Prod.fst (Prod.snd y),Prod.snd (Prod.snd y),y_1)) fun y_2 =>
 k_ ((IntKind.wrap IntKind.i64 (done + (1:Int))),(Prod.fst (Prod.snd y_2)),(Prod.snd (Prod.snd (Prod.snd y_2)))))
def tableau_reduced.c220528s:Shape:=⟨[(0,tb86),(1,tb5),(3,tb12),(4,tb17),(5,tb5),(13,tb5),(14,tb5)],[(3,tb60),(11,tb22)]⟩
def tableau_reduced.c220528x0:Shape:=tableau_reduced.c220528s
def tableau_reduced.c220528r:Ck:=Ck.of (T:=Int×Int×(List (Int×(Int×(Bool))))) tableau_reduced.c220528s (fun ρ x_ k_=>tableau_reduced.c220528 x_.2.2.1 x_.2.2.2.2.1 x_.2.2.2.2.2.1 x_.2.2.2.2.2.2.1 k_) (fun ρ x_ r_ k_=>k_ 0 (Shape.inj tableau_reduced.c220528x0 (x_.1,x_.2.1,r_.1,x_.2.2.2.1,x_.2.2.2.2.1,r_.2.1,r_.2.2,())))
def tableau_reduced.c100004 {ρ:Type} (done:Int) (t13:Int) (t14:Int) (n0:Int) (t11:List (Int×(Int×(Bool)))) (k_:(Int×Int×Int×(List (Int×(Int×(Bool))))) ⊕ (Int×Int×Int×(List (Int×(Int×(Bool))))) → Option ρ):Option ρ :=
 br (decide (t14 < t13))
 (bnd (W.tableau_reduced.c220528 done t14 n0 t11 some) fun y =>
 k_ (.inl ((Prod.fst y),(IntKind.wrap IntKind.i64 (t14 + (1:Int))),(Prod.fst (Prod.snd y)),(Prod.snd (Prod.snd y)))))
 (k_ (.inr (done,t14,n0,t11)))
def tableau_reduced.c100004s:Shape:=tableau_reduced.c220528s
def tableau_reduced.c100004x0:Shape:=tableau_reduced.c220528s
def tableau_reduced.c100004r:Ck:=Ck.ofLoop (S:=Int×Int×Int×(List (Int×(Int×(Bool))))) (T:=Int×Int×Int×(List (Int×(Int×(Bool))))) tableau_reduced.c100004s (fun x_=>(x_.2.2.1,x_.2.2.2.2.1,x_.2.2.2.2.2.1,x_.2.2.2.2.2.2.1)) (fun ρ x_ s_ k_=>tableau_reduced.c100004 s_.1 x_.2.2.2.1 s_.2.1 s_.2.2.1 s_.2.2.2 k_) (fun ρ x_ r_ k_=>k_ 2 (Shape.inj tableau_reduced.c100004x0 (x_.1,x_.2.1,r_.1,x_.2.2.2.1,r_.2.1,r_.2.2.1,r_.2.2.2,())))
def tableau_reduced (l:List (Int×(Int×(Bool)))) (n:Int):Option (List (Int×(Int×(Bool)))) :=
 bnd (okIf (decide (((0:Nat) + List.length l) * (24:Nat) ≤ (140737488355328:Nat)) && decide ((0:Nat) + List.length l ≤ (140737488355328:Nat)))) fun y =>
 bnd (iter (fun s ↦ W.tableau_reduced.c100004 (Prod.fst s) (IntKind.wrap IntKind.i64 ((2:Int) * n)) (Prod.fst (Prod.snd s)) (Prod.fst (Prod.snd (Prod.snd s))) (Prod.snd (Prod.snd (Prod.snd s))) some) ((0:Int),(0:Int),n,l)) fun y_1 =>
 some (Prod.snd (Prod.snd (Prod.snd y_1)))
def tableau_reduced.ce:Go.Ql.Callee:=⟨[(.sl (.st (.pair (.int .u64) (.pair (.int .u64) .bool)))),(.int .i64)],[(.sl (.st (.pair (.int .u64) (.pair (.int .u64) .bool))))],fun x_=>tableau_reduced x_.1 x_.2⟩
def tableau_reduced.G:Env:=⟨85,tab,[(86,tableau_pauli_times.ce)],[0,1,3,4,5,6,7,8,9,13,14,15,31,37,53,54,55,67],[11],[(16,[⟨[],[],[69,70,71,72,73,74,75,76,77,78],[]⟩,⟨[],[],[68,70,71,72,73,74,75,76,77,78],[]⟩,⟨[],[],[68,69,71,74,75,76,77],[]⟩,⟨[],[],[68,69,70,74,75,76,77],[]⟩,⟨[2,3],[],[68,69,74,75,76,77],[]⟩,⟨[4,2,3],[],[68,69,74,75,76,77],[]⟩,⟨[],[],[68,69,70,71,72,73,75],[]⟩,⟨[],[],[68,69,70,71,72,73,74],[]⟩,⟨[6,7],[],[68,69,70,71,72,73],[]⟩,⟨[8,6,7],[],[68,69,70,71,72,73],[]⟩,⟨[5,4,2,3,9,8,6,7],[],[68,69],[]⟩,⟨[0,1,2,3,4,5,6,7,8,9,10],[],[],[]⟩,⟨[11,0,1,2,3,4,5,6,7,8,9,10],[11],[],[]⟩]),
 (11,[⟨[],[],[39,40,41,42,43,44,45,46,47,48,49],[]⟩,⟨[],[],[38,40,41,42,43,44,45,46,47,48,49],[]⟩,⟨[],[],[38,39,41,42,43,44,45,46,47,48,49,50],[11]⟩,⟨[],[],[38,39,40,42,43,44,45,46,47,48,49,50],[11]⟩,⟨[],[],[38,39,40,41,43,46,47,48,49],[]⟩,⟨[],[],[38,39,40,41,42,46,47,48,49],[]⟩,⟨[4,5],[],[38,39,40,41,46,47,48,49],[]⟩,⟨[6,4,5],[],[38,39,40,41,46,47,48,49],[]⟩,⟨[],[],[38,39,40,41,42,43,44,45,47],[]⟩,⟨[],[],[38,39,40,41,42,43,44,45,46],[]⟩,⟨[8,9],[],[38,39,40,41,42,43,44,45],[]⟩,⟨[10,8,9],[],[38,39,40,41,42,43,44,45],[]⟩,⟨[0,1,4,5,6,7,11,10,8,9],[],[40,41],[]⟩,⟨[12,0,1,4,5,6,7,11,10,8,9],[11],[40,41],[]⟩,⟨[2,3,0,1,4,5,6,7,8,9,10,11,12,13],[],[],[]⟩,⟨[14,2,3,0,1,4,5,6,7,8,9,10,11,12,13],[11],[],[]⟩])],[(100004,tableau_reduced.c100004r),(220528,tableau_reduced.c220528r),(100013,tableau_reduced.c100013r),(257352,tableau_reduced.c257352r),(16,tableau_reduced.c16r),(15,tableau_reduced.c15r),(11,tableau_reduced.c11r),(100008,tableau_reduced.c100008r),(8,tableau_reduced.c8r)],[(88,tableau_reduced_1.mc)],tab_eqs⟩
theorem tableau_reduced.eq (x_:dens tableau_reduced.ce.params):den tableau_reduced.G Try.f42 tableau_reduced.ce.params tableau_reduced.ce.res x_ = tableau_reduced.ce.F x_:=by kernel_rfl
theorem tableau_reduced.p0:PcA tableau_reduced.G Try.f42 0 :=
 loop_ok (s:=tableau_reduced.c100004r) (by kernel_rfl) (by kernel_rfl) (loops_of (sh:=tableau_reduced.c100004s) (I:=fun x_ s_=>(x_.1,x_.2.1,s_.1,x_.2.2.2.1,s_.2.1,s_.2.2.1,s_.2.2.2,())) (fun x_=>rfl) (fun ρ x_ s_ k_=>(nat_br (nat_bnd fun _=>nat_leaf) nat_leaf)) (fun ρ x_ t k=>(by kernel_rfl)) (fun x_ s=>by kernel_rfl))
theorem tableau_reduced.p1:PcA tableau_reduced.G Try.f42 1 :=
 join_ok (s:=tableau_reduced.c220528r) (by kernel_rfl) (by kernel_rfl) (sums_of (sh:=tableau_reduced.c220528s) (fun ρ x_ k_=>(nat_bnd fun _=>(nat_br nat_leaf (nat_bnd fun _=>(nat_bnd fun _=>nat_leaf))))) (fun ρ x_ t k=>(by kernel_rfl)) (fun x_=>by kernel_rfl))
theorem tableau_reduced.p2:PcA tableau_reduced.G Try.f42 2 :=
 loop_ok (s:=tableau_reduced.c100008r) (by kernel_rfl) (by kernel_rfl) (loops_of (sh:=tableau_reduced.c100008s) (I:=fun x_ s_=>(x_.1,x_.2.1,x_.2.2.1,s_.1,x_.2.2.2.2.1,x_.2.2.2.2.2.1,s_.2.1,s_.2.2,x_.2.2.2.2.2.2.2.2)) (fun x_=>rfl) (fun ρ x_ s_ k_=>(nat_bnd fun _=>(nat_br nat_leaf nat_leaf))) (fun ρ x_ t k=>(by kernel_rfl)) (fun x_ s=>by kernel_rfl))
theorem tableau_reduced.p3:PcA tableau_reduced.G Try.f42 3 :=
 region_ok (s:=tableau_reduced.c8r) (by kernel_rfl) (by kernel_rfl) (sums_of (sh:=tableau_reduced.c8s) (fun ρ x_ k_=>(nat_br (nat_bnd fun _=>(nat_bnd fun _=>(nat_bnd fun _=>nat_leaf))) nat_leaf)) (fun ρ x_ t k=>(by kernel_rfl)) (fun x_=>by kernel_rfl))
theorem tableau_reduced.p4:PcA tableau_reduced.G Try.f42 4 :=
 region_ok (s:=tableau_reduced.c11r) (by kernel_rfl) (by kernel_rfl) (sums_of (sh:=tableau_reduced.c11s) (fun ρ x_ k_=>(nat_bnd fun _=>(nat_bnd fun _=>(nat_bnd fun _=>(nat_bnd fun _=>(nat_bnd fun _=>(nat_bnd fun _=>(nat_bnd fun _=>(nat_bnd fun _=>nat_leaf))))))))) (fun ρ x_ t k=>(by kernel_rfl)) (fun x_=>by kernel_rfl))
theorem tableau_reduced.p5:PcA tableau_reduced.G Try.f42 5 :=
 loop_ok (s:=tableau_reduced.c100013r) (by kernel_rfl) (by kernel_rfl) (loops_of (sh:=tableau_reduced.c100013s) (I:=fun x_ s_=>(x_.1,x_.2.1,x_.2.2.1,x_.2.2.2.1,x_.2.2.2.2.1,x_.2.2.2.2.2.1,x_.2.2.2.2.2.2.1,s_.1,s_.2.1,s_.2.2.1,s_.2.2.2,())) (fun x_=>rfl) (fun ρ x_ s_ k_=>(nat_br (nat_bnd fun _=>nat_leaf) nat_leaf)) (fun ρ x_ t k=>(by kernel_rfl)) (fun x_ s=>by kernel_rfl))
theorem tableau_reduced.p6:PcA tableau_reduced.G Try.f42 6 :=
 join_ok (s:=tableau_reduced.c257352r) (by kernel_rfl) (by kernel_rfl) (sums_of (sh:=tableau_reduced.c257352s) (fun ρ x_ k_=>(nat_bnd fun _=>(nat_br (nat_bnd fun _=>nat_leaf) nat_leaf))) (fun ρ x_ t k=>(by kernel_rfl)) (fun x_=>by kernel_rfl))
theorem tableau_reduced.p7:PcA tableau_reduced.G Try.f42 7 :=
 region_ok (s:=tableau_reduced.c15r) (by kernel_rfl) (by kernel_rfl) (sums_of (sh:=tableau_reduced.c15s) (fun ρ x_ k_=>(nat_br (nat_bnd fun _=>(nat_bnd fun _=>(nat_bnd fun _=>nat_leaf))) nat_leaf)) (fun ρ x_ t k=>(by kernel_rfl)) (fun x_=>by kernel_rfl))
theorem tableau_reduced.p8:PcA tableau_reduced.G Try.f42 8 :=
 region_ok (s:=tableau_reduced.c16r) (by kernel_rfl) (by kernel_rfl) (sums_of (sh:=tableau_reduced.c16s) (fun ρ x_ k_=>(nat_bnd fun _=>(nat_bnd fun _=>(nat_bnd fun _=>(nat_bnd fun _=>(nat_bnd fun _=>(nat_bnd fun _=>(nat_bnd fun _=>nat_leaf)))))))) (fun ρ x_ t k=>(by kernel_rfl)) (fun x_=>by kernel_rfl))
theorem tableau_reduced.ok:CalleeOk Try.prog 42 tableau_reduced.ce:=fn_ok (G:=tableau_reduced.G) tab_ok mixed Try.func42 ⟨(fns_cons tableau_pauli_times.ok fns_nil),(mfns_cons tableau_reduced_1.ok mfns_nil),tab_eqs_ok⟩ (m:=9) (by kernel_rfl) ⟨⟨⟨⟨⟨⟨⟨⟨⟨trivial,tableau_reduced.p0⟩,tableau_reduced.p1⟩,tableau_reduced.p2⟩,tableau_reduced.p3⟩,tableau_reduced.p4⟩,tableau_reduced.p5⟩,tableau_reduced.p6⟩,tableau_reduced.p7⟩,tableau_reduced.p8⟩ (by kernel_rfl) tableau_reduced.eq
abbrev tb89:SD:=.one (.val (.st (.pair (.int .i64) (.int .i64))))
def tableau_Run_1.c1 {ρ:Type}  (k_:Unit → Option ρ):Option ρ :=
 k_ ()
def tableau_Run_1.c1s:Shape:=⟨[(0,tb89),(1,tb1),(2,tb21),(3,tb36),(4,tb5),(5,tb39)],[(1,tb19),(5,tb19)]⟩
def tableau_Run_1.c1x0:Shape:=tableau_Run_1.c1s
def tableau_Run_1.c1r:Ck:=Ck.of (T:=Unit) tableau_Run_1.c1s (fun ρ x_ k_=>tableau_Run_1.c1  k_) (fun ρ x_ r_ k_=>k_ 0 (Shape.inj tableau_Run_1.c1x0 (x_.1,[],[],(0:Int),x_.2.2.2.2.1,x_.2.2.2.2.2.1,x_.2.2.2.2.1,x_.2.2.2.2.2.1,())))
def tableau_Run_1 (f:Int×Int):Option ((List (List UInt8))×(List Int)×Int×(Int×Int)) :=
 bnd (W.tableau_Run_1.c1 some) fun y =>
 some ([],[],(0:Int),Prod.fst f,Prod.snd f)
def tableau_Run_1.ce:Go.Ql.Callee:=⟨[(.st (.pair (.int .i64) (.int .i64)))],[(.sl .str),(.sl (.int .i64)),(.int .i64),(.st (.pair (.int .i64) (.int .i64)))],fun x_=>tableau_Run_1 x_⟩
def tableau_Run_1.G:Env:=⟨7,tab,[],[0,1,2,3,4,5],[],[(1,[⟨[],[],[2,3,4],[2,3]⟩,⟨[],[2],[6],[]⟩,⟨[1],[3],[6],[]⟩,⟨[2,1],[],[6],[]⟩,⟨[0,3,2,1],[5],[],[]⟩])],[(1,tableau_Run_1.c1r)],[],tab_eqs⟩
theorem tableau_Run_1.eq (x_:dens tableau_Run_1.ce.params):den tableau_Run_1.G Try.f35 tableau_Run_1.ce.params tableau_Run_1.ce.res x_ = tableau_Run_1.ce.F x_:=by kernel_rfl
theorem tableau_Run_1.p0:PcA tableau_Run_1.G Try.f35 0 :=
 region_ok (s:=tableau_Run_1.c1r) (by kernel_rfl) (by kernel_rfl) (sums_of (sh:=tableau_Run_1.c1s) (fun ρ x_ k_=>nat_leaf) (fun ρ x_ t k=>(by kernel_rfl)) (fun x_=>by kernel_rfl))
theorem tableau_Run_1.ok:CalleeOk Try.prog 35 tableau_Run_1.ce:=fn_ok (G:=tableau_Run_1.G) tab_ok mixed Try.func35 ⟨fns_nil,mfns_nil,tab_eqs_ok⟩ (m:=1) (by kernel_rfl) ⟨trivial,tableau_Run_1.p0⟩ (by kernel_rfl) tableau_Run_1.eq
abbrev tb90:SD:=.one (.fn 35)
abbrev tb91:SD:=.one (.ref 65 0)
abbrev tb92:SD:=.one (.own 68 0)
abbrev tb93:SO:=.box [.val (.int .i64),.own 1065 0,.own 2065 0]
abbrev tb94:SD:=.one (.ref 17 0)
abbrev tb95:SD:=.one (.own 19 0)
abbrev tb96:SO:=.box [.val (.int .i64),.val (.sl (.st (.pair (.int .u64) (.pair (.int .u64) .bool)))),.own 2065 0]
abbrev tb97:SD:=.one (.ref 21 0)
def tableau_Run.c5 {ρ:Type} (t1:Int) (c0:Int) (k_:Bool → Option ρ):Option ρ :=
 br (decide (t1 < (0:Int)))
 (k_ true)
 (bnd (okIf (decide ((0:Int) ≤ c0))) fun y =>
 k_ (decide (t1 ≥ IntKind.wrap IntKind.i64 ((1:Int) * (2:Int) ^ Min.min (Int.toNat c0) (64:Nat)))))
def tableau_Run.c5s:Shape:=⟨[(0,tb38),(1,tb5),(2,tb36),(3,tb12),(6,tb21),(7,tb36),(8,tb5),(9,tb79),(10,tb90),(11,tb23)],[(3,tb34),(9,tb19),(11,tb19)]⟩
def tableau_Run.c5x0:Shape:=⟨[(0,tb38),(1,tb5),(2,tb36),(3,tb12),(6,tb21),(7,tb36),(8,tb5),(9,tb79),(10,tb90),(11,tb23),(42,tb7)],[(3,tb34),(9,tb19),(11,tb19)]⟩
def tableau_Run.c5r:Ck:=Ck.of (T:=Bool) tableau_Run.c5s (fun ρ x_ k_=>tableau_Run.c5 x_.2.1 x_.2.2.2.2.2.2.1 k_) (fun ρ x_ r_ k_=>k_ 0 (Shape.inj tableau_Run.c5x0 (x_.1,x_.2.1,x_.2.2.1,x_.2.2.2.1,x_.2.2.2.2.1,x_.2.2.2.2.2.1,r_,x_.2.2.2.2.2.2)))
def tableau_Run.c10 {ρ:Type} (t1:Int) (c0:Int) (c1:Int) (k_:Int×(List (Int×(Int×(Bool))))×(List (Int×(Int×(Bool)))) → Option ρ):Option ρ :=
 bnd (W.tableau_begin c0 t1) fun y =>
 bnd (okIf (decide ((0:Int) ≤ c1) && decide (c1 ≤ c1) && decide (c1 * (↑(8:Nat):Int) ≤ (140737488355328:Int)) && decide (c1 ≤ (140737488355328:Int)))) fun y_1 =>
 k_ ((Prod.fst y),(Prod.fst y.2),(Prod.fst y.2.2))
def tableau_Run.c10s:Shape:=⟨[(0,tb38),(1,tb5),(2,tb36),(3,tb12),(6,tb21),(7,tb36),(8,tb5),(9,tb79),(10,tb90),(11,tb23),(12,tb74)],[(3,tb34),(9,tb19),(11,tb19),(12,tb19)]⟩
def tableau_Run.c10x0:Shape:=⟨[(0,tb38),(1,tb5),(2,tb36),(3,tb12),(6,tb21),(7,tb36),(8,tb5),(9,tb79),(10,tb90),(11,tb23),(12,tb74),(13,tb91),(14,tb92),(15,tb5)],[(3,tb34),(9,tb19),(11,tb19),(12,tb19),(65,tb93),(68,tb50),(1065,tb22),(2065,tb22)]⟩
def tableau_Run.c10r:Ck:=Ck.of (T:=Int×(List (Int×(Int×(Bool))))×(List (Int×(Int×(Bool))))) tableau_Run.c10s (fun ρ x_ k_=>tableau_Run.c10 x_.2.1 x_.2.2.2.2.2.2.1 x_.2.2.2.2.2.2.2.1 k_) (fun ρ x_ r_ k_=>k_ 0 (Shape.inj tableau_Run.c10x0 (x_.1,x_.2.1,x_.2.2.1,x_.2.2.2.1,x_.2.2.2.2.1,x_.2.2.2.2.2.1,(0:Int),x_.2.2.2.2.2.2.1,x_.2.2.2.2.2.2.2.1,x_.2.2.2.2.2.2.2.2.1,x_.2.2.2.2.2.2.2.2.2.1,x_.2.2.2.2.2.2.2.2.2.2.1,x_.2.2.2.2.2.2.2.2.2.2.2.1,x_.2.2.2.2.2.2.2.2.2.2.2.2.1,x_.2.2.2.2.2.2.2.2.2.2.2.2.2.1,x_.2.2.2.2.2.2.2.2.2.2.2.2.2.2.1,r_.1,(List.replicate (Int.toNat x_.2.2.2.2.2.2.2.1) (0:Int)),r_.2.1,r_.2.2,())))
def tableau_Run.c20 {ρ:Type} (b:Int) (o3:Int) (t650:Int) (t1065:List (Int×(Int×(Bool)))) (t2065:List (Int×(Int×(Bool)))) (k_:(Bool)×Int×(List (Int×(Int×(Bool))))×(List (Int×(Int×(Bool)))) → Option ρ):Option ρ :=
 br (b != (0:Int))
 (br (b != (1:Int))
 (k_ (true,t650,t1065,t2065))
 (bnd (W.tableau_table_measure o3 b t650 t1065 t2065) fun y =>
 k_ ((!Prod.fst y),(Prod.fst y.2.2.2),(Prod.fst y.2),(Prod.fst y.2.2))))
 (bnd (W.tableau_table_measure o3 b t650 t1065 t2065) fun y_1 =>
 k_ ((!Prod.fst y_1),(Prod.fst y_1.2.2.2),(Prod.fst y_1.2),(Prod.fst y_1.2.2)))
def tableau_Run.c20s:Shape:=⟨[(0,tb38),(1,tb5),(2,tb36),(3,tb12),(6,tb21),(7,tb36),(8,tb5),(9,tb79),(10,tb90),(11,tb23),(12,tb74),(13,tb91),(14,tb92),(15,tb5),(16,tb5),(17,tb94),(18,tb5),(70,tb31),(71,tb5),(72,tb5)],[(3,tb34),(9,tb19),(11,tb19),(12,tb19),(17,tb26),(65,tb93),(68,tb50),(1065,tb22),(2065,tb22)]⟩
def tableau_Run.c20x0:Shape:=⟨[(0,tb38),(1,tb5),(2,tb36),(3,tb12),(6,tb21),(7,tb36),(8,tb5),(9,tb79),(10,tb90),(11,tb23),(12,tb74),(13,tb91),(14,tb92),(15,tb5),(16,tb5),(17,tb94),(18,tb5),(70,tb31),(71,tb5),(72,tb5),(119,tb7)],[(3,tb34),(9,tb19),(11,tb19),(12,tb19),(17,tb26),(65,tb93),(68,tb50),(1065,tb22),(2065,tb22)]⟩
def tableau_Run.c20r:Ck:=Ck.of (T:=(Bool)×Int×(List (Int×(Int×(Bool))))×(List (Int×(Int×(Bool))))) tableau_Run.c20s (fun ρ x_ k_=>tableau_Run.c20 x_.2.2.2.2.2.2.2.2.1 x_.2.2.2.2.2.2.2.2.2.2.2.2.2.2.2.2.2.2.2.2.2.2.2.2.1 x_.2.2.2.2.2.2.2.2.2.2.2.2.2.2.2.2.2.2.2.2.2.2.2.2.2.2.2.1 x_.2.2.2.2.2.2.2.2.2.2.2.2.2.2.2.2.2.2.2.2.2.2.2.2.2.2.2.2.2.1 x_.2.2.2.2.2.2.2.2.2.2.2.2.2.2.2.2.2.2.2.2.2.2.2.2.2.2.2.2.2.2.1 k_) (fun ρ x_ r_ k_=>uP x_ fun c x_=>uP x_ fun t1 x_=>uP x_ fun tape x_=>uP x_ fun t6 x_=>uP x_ fun t7 x_=>uP x_ fun t8 x_=>uP x_ fun used x_=>uP x_ fun i x_=>uP x_ fun b x_=>uP x_ fun t70 x_=>uP x_ fun t71 x_=>uP x_ fun t72 x_=>uP x_ fun c0 x_=>uP x_ fun c1 x_=>uP x_ fun c2 x_=>uP x_ fun t90 x_=>uP x_ fun t91 x_=>uP x_ fun f0 x_=>uP x_ fun f1 x_=>uP x_ fun f0_1 x_=>uP x_ fun f1_1 x_=>uP x_ fun o0 x_=>uP x_ fun o1 x_=>uP x_ fun o2 x_=>uP x_ fun o3 x_=>uP x_ fun o4 x_=>uP x_ fun o5 x_=>uP x_ fun t650 x_=>uP x_ fun t68 x_=>uP x_ fun t1065 x_=>uP x_ fun t2065 x_=>k_ 0 (Shape.inj tableau_Run.c20x0 (c,t1,tape,t6,t7,t8,used,i,b,t70,t71,t72,r_.1,c0,c1,c2,t90,t91,f0,f1,f0_1,f1_1,o0,o1,o2,o3,o4,o5,r_.2.1,t68,r_.2.2.1,r_.2.2.2,())))
def tableau_Run.c253291 {ρ:Type} (tape:List Int) (used:Int) (t70:List (Int×(Int×((List Int)×(Int×(Int×(List Int))))))) (t72:Int) (t650:Int) (t68:List Int) (t1065:List (Int×(Int×(Bool)))) (t2065:List (Int×(Int×(Bool)))) (k_:(Int×Int×(List Int)×(List (Int×(Int×(Bool))))×(List (Int×(Int×(Bool))))) ⊕ ((List (List UInt8))×(List Int)×Int×Int×Int×Int×(List (Int×(Int×(Bool))))×(List (Int×(Int×(Bool))))) → Option ρ):Option ρ :=
 bnd (idx t70 t72) fun y =>
 bnd (W.tableau_holds (Prod.fst y,Prod.fst (Prod.snd y),Prod.fst (Prod.snd (Prod.snd y)),Prod.fst (Prod.snd (Prod.snd (Prod.snd y))),Prod.fst (Prod.snd (Prod.snd (Prod.snd (Prod.snd y)))),Prod.snd (Prod.snd (Prod.snd (Prod.snd (Prod.snd y))))) t68) fun y_1 =>
 br (!y_1)
 (k_ (.inl (used,t650,t68,t1065,t2065)))
 (br (decide (Prod.fst y < (5:Int)))
 (bnd (W.tableau_table_gate (Prod.fst y,Prod.fst (Prod.snd y),Prod.fst (Prod.snd (Prod.snd y)),Prod.fst (Prod.snd (Prod.snd (Prod.snd y))),Prod.fst (Prod.snd (Prod.snd (Prod.snd (Prod.snd y)))),Prod.snd (Prod.snd (Prod.snd (Prod.snd (Prod.snd y))))) t650 t1065 t2065) fun y_2 =>
 k_ (.inl (used,(Prod.fst y_2.2.2),t68,(Prod.fst y_2),(Prod.fst y_2.2))))
 (br (used == (↑(List.length tape):Int))
 (bnd (W.tableau_Run_1 ((19:Int),t72)) fun y_3 =>
 k_ (.inr ((Prod.fst y_3),(Prod.fst (Prod.snd y_3)),(Prod.fst (Prod.snd (Prod.snd y_3))),(Prod.fst (Prod.snd (Prod.snd (Prod.snd y_3)))),(Prod.snd (Prod.snd (Prod.snd (Prod.snd y_3)))),t650,t1065,t2065)))
 (bnd (idx tape used) fun y_4 =>
 bnd (W.tableau_Run.c20 y_4 (Prod.fst (Prod.snd (Prod.snd (Prod.snd y)))) t650 t1065 t2065 some) fun y_5 =>
 br (Prod.fst y_5)
 (bnd (W.tableau_Run_1 ((20:Int),t72)) fun y_6 =>
 k_ (.inr ((Prod.fst y_6),(Prod.fst (Prod.snd y_6)),(Prod.fst (Prod.snd (Prod.snd y_6))),(Prod.fst (Prod.snd (Prod.snd (Prod.snd y_6)))),(Prod.snd (Prod.snd (Prod.snd (Prod.snd y_6)))),(Prod.fst (Prod.snd y_5)),(Prod.fst (Prod.snd (Prod.snd y_5))),(Prod.snd (Prod.snd (Prod.snd y_5))))))
 (br (Prod.fst y == (5:Int))
 (bnd (inR (List.length t68) (Prod.fst (Prod.snd (Prod.snd (Prod.snd (Prod.snd y)))))) fun y_7 =>
 bnd (idx t68 (Prod.fst (Prod.snd (Prod.snd (Prod.snd (Prod.snd y)))))) fun y_8 =>
 k_ (.inl ((IntKind.wrap IntKind.i64 (used + (1:Int))),(Prod.fst (Prod.snd y_5)),(List.set t68 (Int.toNat (Prod.fst (Prod.snd (Prod.snd (Prod.snd (Prod.snd y)))))) y_4),(Prod.fst (Prod.snd (Prod.snd y_5))),(Prod.snd (Prod.snd (Prod.snd y_5))))))
 (br (y_4 == (1:Int))
 (bnd (W.tableau_table_gate ((2:Int),(0:Int),[],Prod.fst (Prod.snd (Prod.snd (Prod.snd y))),(0:Int),[]) (Prod.fst (Prod.snd y_5)) (Prod.fst (Prod.snd (Prod.snd y_5))) (Prod.snd (Prod.snd (Prod.snd y_5)))) fun y_9 =>
 k_ (.inl ((IntKind.wrap IntKind.i64 (used + (1:Int))),(Prod.fst y_9.2.2),t68,(Prod.fst y_9),(Prod.fst y_9.2))))
 (k_ (.inl ((IntKind.wrap IntKind.i64 (used + (1:Int))),(Prod.fst (Prod.snd y_5)),t68,(Prod.fst (Prod.snd (Prod.snd y_5))),(Prod.snd (Prod.snd (Prod.snd y_5)))))))))))
def tableau_Run.c253291s:Shape:=⟨[(0,tb38),(1,tb5),(2,tb36),(3,tb12),(6,tb21),(7,tb36),(8,tb5),(9,tb79),(10,tb90),(11,tb23),(12,tb74),(13,tb91),(14,tb92),(15,tb5),(70,tb31),(71,tb5),(72,tb5)],[(3,tb34),(9,tb19),(11,tb19),(12,tb19),(65,tb93),(68,tb50),(1065,tb22),(2065,tb22)]⟩
def tableau_Run.c253291x0:Shape:=tableau_Run.c253291s
def tableau_Run.c253291x1:Shape:=tableau_Run.c253291s
def tableau_Run.c253291r:Ck:=Ck.of (T:=(Int×Int×(List Int)×(List (Int×(Int×(Bool))))×(List (Int×(Int×(Bool))))) ⊕ ((List (List UInt8))×(List Int)×Int×Int×Int×Int×(List (Int×(Int×(Bool))))×(List (Int×(Int×(Bool)))))) tableau_Run.c253291s (fun ρ x_ k_=>tableau_Run.c253291 x_.2.2.1 x_.2.2.2.2.2.2.1 x_.2.2.2.2.2.2.2.1 x_.2.2.2.2.2.2.2.2.2.1 x_.2.2.2.2.2.2.2.2.2.2.2.2.2.2.2.2.2.2.2.1 x_.2.2.2.2.2.2.2.2.2.2.2.2.2.2.2.2.2.2.2.2.1 x_.2.2.2.2.2.2.2.2.2.2.2.2.2.2.2.2.2.2.2.2.2.1 x_.2.2.2.2.2.2.2.2.2.2.2.2.2.2.2.2.2.2.2.2.2.2.1 k_) (fun ρ x_ r_ k_=>uP x_ fun c x_=>uP x_ fun t1 x_=>uP x_ fun tape x_=>uP x_ fun t6 x_=>uP x_ fun t7 x_=>uP x_ fun t8 x_=>uP x_ fun used x_=>uP x_ fun t70 x_=>uP x_ fun t71 x_=>uP x_ fun t72 x_=>uP x_ fun c0 x_=>uP x_ fun c1 x_=>uP x_ fun c2 x_=>uP x_ fun t90 x_=>uP x_ fun t91 x_=>uP x_ fun f0 x_=>uP x_ fun f1 x_=>uP x_ fun f0_1 x_=>uP x_ fun f1_1 x_=>uP x_ fun t650 x_=>uP x_ fun t68 x_=>uP x_ fun t1065 x_=>uP x_ fun t2065 x_=>sel r_ (fun r_=>k_ 0 (Shape.inj tableau_Run.c253291x0 (c,t1,tape,t6,t7,t8,r_.1,t70,t71,t72,c0,c1,c2,t90,t91,f0,f1,f0_1,f1_1,r_.2.1,r_.2.2.1,r_.2.2.2.1,r_.2.2.2.2,()))) (fun r_=>k_ 1 (Shape.inj tableau_Run.c253291x1 (c,t1,tape,r_.1,r_.2.1,r_.2.2.1,used,t70,t71,t72,c0,c1,c2,r_.2.2.2.1,r_.2.2.2.2.1,f0,f1,f0_1,f1_1,r_.2.2.2.2.2.1,t68,r_.2.2.2.2.2.2.1,r_.2.2.2.2.2.2.2,()))))
def tableau_Run.c100012 {ρ:Type} (tape:List Int) (used:Int) (t70:List (Int×(Int×((List Int)×(Int×(Int×(List Int))))))) (t71:Int) (t72:Int) (t650:Int) (t68:List Int) (t1065:List (Int×(Int×(Bool)))) (t2065:List (Int×(Int×(Bool)))) (k_:(Int×Int×Int×(List Int)×(List (Int×(Int×(Bool))))×(List (Int×(Int×(Bool))))) ⊕ (((List (List UInt8))×(List Int)×Int×Int×Int×Int×Int×Int×(List Int)×(List (Int×(Int×(Bool))))×(List (Int×(Int×(Bool))))) ⊕ (Int×Int×Int×(List Int)×(List (Int×(Int×(Bool))))×(List (Int×(Int×(Bool)))))) → Option ρ):Option ρ :=
 br (decide (t72 < t71))
 (bnd (W.tableau_Run.c253291 tape used t70 t72 t650 t68 t1065 t2065 some) fun y =>
 sel y
 (fun u=>k_ (.inl ((Prod.fst u),(IntKind.wrap IntKind.i64 (t72 + (1:Int))),(Prod.fst (Prod.snd u)),(Prod.fst (Prod.snd (Prod.snd u))),(Prod.fst (Prod.snd (Prod.snd (Prod.snd u)))),(Prod.snd (Prod.snd (Prod.snd (Prod.snd u)))))))
 (fun v=>k_ (.inr (.inl ((Prod.fst v),(Prod.fst (Prod.snd v)),(Prod.fst (Prod.snd (Prod.snd v))),used,t72,(Prod.fst (Prod.snd (Prod.snd (Prod.snd v)))),(Prod.fst (Prod.snd (Prod.snd (Prod.snd (Prod.snd v))))),(Prod.fst (Prod.snd (Prod.snd (Prod.snd (Prod.snd (Prod.snd v)))))),t68,(Prod.fst (Prod.snd (Prod.snd (Prod.snd (Prod.snd (Prod.snd (Prod.snd v))))))),(Prod.snd (Prod.snd (Prod.snd (Prod.snd (Prod.snd (Prod.snd (Prod.snd v))))))))))))
 (k_ (.inr (.inr (used,t72,t650,t68,t1065,t2065))))
def tableau_Run.c100012s:Shape:=tableau_Run.c253291s
def tableau_Run.c100012x0:Shape:=tableau_Run.c253291s
def tableau_Run.c100012x1:Shape:=tableau_Run.c253291s
def tableau_Run.c100012r:Ck:=Ck.ofLoop (S:=Int×Int×Int×(List Int)×(List (Int×(Int×(Bool))))×(List (Int×(Int×(Bool))))) (T:=((List (List UInt8))×(List Int)×Int×Int×Int×Int×Int×Int×(List Int)×(List (Int×(Int×(Bool))))×(List (Int×(Int×(Bool))))) ⊕ (Int×Int×Int×(List Int)×(List (Int×(Int×(Bool))))×(List (Int×(Int×(Bool)))))) tableau_Run.c100012s (fun x_=>(x_.2.2.2.2.2.2.1,x_.2.2.2.2.2.2.2.2.2.1,x_.2.2.2.2.2.2.2.2.2.2.2.2.2.2.2.2.2.2.2.1,x_.2.2.2.2.2.2.2.2.2.2.2.2.2.2.2.2.2.2.2.2.1,x_.2.2.2.2.2.2.2.2.2.2.2.2.2.2.2.2.2.2.2.2.2.1,x_.2.2.2.2.2.2.2.2.2.2.2.2.2.2.2.2.2.2.2.2.2.2.1)) (fun ρ x_ s_ k_=>tableau_Run.c100012 x_.2.2.1 s_.1 x_.2.2.2.2.2.2.2.1 x_.2.2.2.2.2.2.2.2.1 s_.2.1 s_.2.2.1 s_.2.2.2.1 s_.2.2.2.2.1 s_.2.2.2.2.2 k_) (fun ρ x_ r_ k_=>uP x_ fun c x_=>uP x_ fun t1 x_=>uP x_ fun tape x_=>uP x_ fun t6 x_=>uP x_ fun t7 x_=>uP x_ fun t8 x_=>uP x_ fun used x_=>uP x_ fun t70 x_=>uP x_ fun t71 x_=>uP x_ fun t72 x_=>uP x_ fun c0 x_=>uP x_ fun c1 x_=>uP x_ fun c2 x_=>uP x_ fun t90 x_=>uP x_ fun t91 x_=>uP x_ fun f0 x_=>uP x_ fun f1 x_=>uP x_ fun f0_1 x_=>uP x_ fun f1_1 x_=>uP x_ fun t650 x_=>uP x_ fun t68 x_=>uP x_ fun t1065 x_=>uP x_ fun t2065 x_=>sel r_ (fun r_=>k_ 1 (Shape.inj tableau_Run.c100012x0 (c,t1,tape,r_.1,r_.2.1,r_.2.2.1,r_.2.2.2.1,t70,t71,r_.2.2.2.2.1,c0,c1,c2,r_.2.2.2.2.2.1,r_.2.2.2.2.2.2.1,f0,f1,f0_1,f1_1,r_.2.2.2.2.2.2.2.1,r_.2.2.2.2.2.2.2.2.1,r_.2.2.2.2.2.2.2.2.2.1,r_.2.2.2.2.2.2.2.2.2.2,()))) (fun r_=>k_ 2 (Shape.inj tableau_Run.c100012x1 (c,t1,tape,t6,t7,t8,r_.1,t70,t71,r_.2.1,c0,c1,c2,t90,t91,f0,f1,f0_1,f1_1,r_.2.2.1,r_.2.2.2.1,r_.2.2.2.2.1,r_.2.2.2.2.2,()))))
def tableau_Run.c29 {ρ:Type} (t650:Int) (t1065:List (Int×(Int×(Bool)))) (k_:(List (Int×(Int×(Bool))))×Int → Option ρ):Option ρ :=
 bnd (W.tableau_reduced t1065 t650) fun y =>
 k_ (y,(↑(List.length y):Int))
def tableau_Run.c29s:Shape:=⟨[(0,tb38),(1,tb5),(2,tb36),(3,tb12),(6,tb21),(7,tb36),(8,tb5),(9,tb79),(10,tb90),(11,tb23),(12,tb74),(13,tb91),(14,tb92),(15,tb5),(19,tb95),(70,tb31),(71,tb5),(72,tb5)],[(3,tb34),(9,tb19),(11,tb19),(12,tb19),(19,tb47),(65,tb93),(68,tb50),(1065,tb22),(2065,tb22)]⟩
def tableau_Run.c29x0:Shape:=⟨[(0,tb38),(1,tb5),(2,tb36),(3,tb12),(6,tb21),(7,tb36),(8,tb5),(9,tb79),(10,tb90),(11,tb23),(12,tb74),(13,tb91),(14,tb92),(15,tb5),(19,tb95),(70,tb31),(71,tb5),(72,tb5),(154,tb17),(155,tb5),(156,tb5)],[(3,tb34),(9,tb19),(11,tb19),(12,tb19),(19,tb47),(65,tb96),(68,tb50),(2065,tb22)]⟩
def tableau_Run.c29r:Ck:=Ck.of (T:=(List (Int×(Int×(Bool))))×Int) tableau_Run.c29s (fun ρ x_ k_=>tableau_Run.c29 x_.2.2.2.2.2.2.2.2.2.2.2.2.2.2.2.2.2.2.2.2.1 x_.2.2.2.2.2.2.2.2.2.2.2.2.2.2.2.2.2.2.2.2.2.2.1 k_) (fun ρ x_ r_ k_=>uP x_ fun c x_=>uP x_ fun t1 x_=>uP x_ fun tape x_=>uP x_ fun t6 x_=>uP x_ fun t7 x_=>uP x_ fun t8 x_=>uP x_ fun used x_=>uP x_ fun t70 x_=>uP x_ fun t71 x_=>uP x_ fun t72 x_=>uP x_ fun c0 x_=>uP x_ fun c1 x_=>uP x_ fun c2 x_=>uP x_ fun t90 x_=>uP x_ fun t91 x_=>uP x_ fun f0 x_=>uP x_ fun f1 x_=>uP x_ fun f0_1 x_=>uP x_ fun f1_1 x_=>uP x_ fun out x_=>uP x_ fun t650 x_=>uP x_ fun t68 x_=>uP x_ fun t1065 x_=>uP x_ fun t2065 x_=>k_ 0 (Shape.inj tableau_Run.c29x0 (c,t1,tape,t6,t7,t8,used,t70,t71,t72,r_.1,r_.2,(0:Int),c0,c1,c2,t90,t91,f0,f1,f0_1,f1_1,out,t650,t1065,t68,t2065,())))
def tableau_Run.c32 {ρ:Type} (out:List (List UInt8)) (p0:Int) (p1:Int) (p2:Bool) (t650:Int) (k_:List (List UInt8) → Option ρ):Option ρ :=
 bnd (W.tableau_pauli_text (p0,p1,p2) t650) fun y =>
 bnd (okIf (decide ((List.length out + (1:Nat)) * (16:Nat) ≤ (140737488355328:Nat)) && decide (List.length out + (1:Nat) ≤ (140737488355328:Nat)))) fun y_1 =>
 k_ (out ++ [y])
def tableau_Run.c32s:Shape:=⟨[(0,tb38),(1,tb5),(2,tb36),(3,tb12),(6,tb21),(7,tb36),(8,tb5),(9,tb79),(10,tb90),(11,tb23),(12,tb74),(13,tb91),(14,tb92),(15,tb5),(19,tb95),(21,tb97),(70,tb31),(71,tb5),(72,tb5),(154,tb17),(155,tb5),(156,tb5)],[(3,tb34),(9,tb19),(11,tb19),(12,tb19),(19,tb47),(21,tb9),(65,tb96),(68,tb50),(2065,tb22)]⟩
def tableau_Run.c32x0:Shape:=tableau_Run.c32s
def tableau_Run.c32r:Ck:=Ck.of (T:=List (List UInt8)) tableau_Run.c32s (fun ρ x_ k_=>tableau_Run.c32 x_.2.2.2.2.2.2.2.2.2.2.2.2.2.2.2.2.2.2.2.2.2.2.1 x_.2.2.2.2.2.2.2.2.2.2.2.2.2.2.2.2.2.2.2.2.2.2.2.1 x_.2.2.2.2.2.2.2.2.2.2.2.2.2.2.2.2.2.2.2.2.2.2.2.2.1 x_.2.2.2.2.2.2.2.2.2.2.2.2.2.2.2.2.2.2.2.2.2.2.2.2.2.1 x_.2.2.2.2.2.2.2.2.2.2.2.2.2.2.2.2.2.2.2.2.2.2.2.2.2.2.1 k_) (fun ρ x_ r_ k_=>k_ 0 (Shape.inj tableau_Run.c32x0 (x_.1,x_.2.1,x_.2.2.1,x_.2.2.2.1,x_.2.2.2.2.1,x_.2.2.2.2.2.1,x_.2.2.2.2.2.2.1,x_.2.2.2.2.2.2.2.1,x_.2.2.2.2.2.2.2.2.1,x_.2.2.2.2.2.2.2.2.2.1,x_.2.2.2.2.2.2.2.2.2.2.1,x_.2.2.2.2.2.2.2.2.2.2.2.1,x_.2.2.2.2.2.2.2.2.2.2.2.2.1,x_.2.2.2.2.2.2.2.2.2.2.2.2.2.1,x_.2.2.2.2.2.2.2.2.2.2.2.2.2.2.1,x_.2.2.2.2.2.2.2.2.2.2.2.2.2.2.2.1,x_.2.2.2.2.2.2.2.2.2.2.2.2.2.2.2.2.1,x_.2.2.2.2.2.2.2.2.2.2.2.2.2.2.2.2.2.1,x_.2.2.2.2.2.2.2.2.2.2.2.2.2.2.2.2.2.2.1,x_.2.2.2.2.2.2.2.2.2.2.2.2.2.2.2.2.2.2.2.1,x_.2.2.2.2.2.2.2.2.2.2.2.2.2.2.2.2.2.2.2.2.1,x_.2.2.2.2.2.2.2.2.2.2.2.2.2.2.2.2.2.2.2.2.2.1,r_,x_.2.2.2.2.2.2.2.2.2.2.2.2.2.2.2.2.2.2.2.2.2.2.2)))
def tableau_Run.c100030 {ρ:Type} (t154:List (Int×(Int×(Bool)))) (t155:Int) (t156:Int) (out:List (List UInt8)) (t650:Int) (k_:(Int×(List (List UInt8))) ⊕ (Int×(List (List UInt8))) → Option ρ):Option ρ :=
 br (decide (t156 < t155))
 (bnd (idx t154 t156) fun y =>
 bnd (W.tableau_Run.c32 out (Prod.fst y) (Prod.fst (Prod.snd y)) (Prod.snd (Prod.snd y)) t650 some) fun y_1 =>
 k_ (.inl ((IntKind.wrap IntKind.i64 (t156 + (1:Int))),y_1)))
 (k_ (.inr (t156,out)))
def tableau_Run.c100030s:Shape:=tableau_Run.c29x0
def tableau_Run.c100030x0:Shape:=tableau_Run.c29x0
def tableau_Run.c100030r:Ck:=Ck.ofLoop (S:=Int×(List (List UInt8))) (T:=Int×(List (List UInt8))) tableau_Run.c100030s (fun x_=>(x_.2.2.2.2.2.2.2.2.2.2.2.2.1,x_.2.2.2.2.2.2.2.2.2.2.2.2.2.2.2.2.2.2.2.2.2.2.1)) (fun ρ x_ s_ k_=>tableau_Run.c100030 x_.2.2.2.2.2.2.2.2.2.2.1 x_.2.2.2.2.2.2.2.2.2.2.2.1 s_.1 s_.2 x_.2.2.2.2.2.2.2.2.2.2.2.2.2.2.2.2.2.2.2.2.2.2.2.1 k_) (fun ρ x_ r_ k_=>k_ 5 (Shape.inj tableau_Run.c100030x0 (x_.1,x_.2.1,x_.2.2.1,x_.2.2.2.1,x_.2.2.2.2.1,x_.2.2.2.2.2.1,x_.2.2.2.2.2.2.1,x_.2.2.2.2.2.2.2.1,x_.2.2.2.2.2.2.2.2.1,x_.2.2.2.2.2.2.2.2.2.1,x_.2.2.2.2.2.2.2.2.2.2.1,x_.2.2.2.2.2.2.2.2.2.2.2.1,r_.1,x_.2.2.2.2.2.2.2.2.2.2.2.2.2.1,x_.2.2.2.2.2.2.2.2.2.2.2.2.2.2.1,x_.2.2.2.2.2.2.2.2.2.2.2.2.2.2.2.1,x_.2.2.2.2.2.2.2.2.2.2.2.2.2.2.2.2.1,x_.2.2.2.2.2.2.2.2.2.2.2.2.2.2.2.2.2.1,x_.2.2.2.2.2.2.2.2.2.2.2.2.2.2.2.2.2.2.1,x_.2.2.2.2.2.2.2.2.2.2.2.2.2.2.2.2.2.2.2.1,x_.2.2.2.2.2.2.2.2.2.2.2.2.2.2.2.2.2.2.2.2.1,x_.2.2.2.2.2.2.2.2.2.2.2.2.2.2.2.2.2.2.2.2.2.1,r_.2,x_.2.2.2.2.2.2.2.2.2.2.2.2.2.2.2.2.2.2.2.2.2.2.2)))
def tableau_Run (c:Int×(Int×(List (Int×(Int×((List Int)×(Int×(Int×(List Int))))))))) (t1:Int) (tape:List Int):Option ((List (List UInt8))×(List Int)×Int×(Int×Int)) :=
 bnd (W.circ_Check (Prod.fst c,Prod.fst (Prod.snd c),Prod.snd (Prod.snd c))) fun y =>
 br (Prod.fst y != (0:Int))
 (bnd (W.tableau_Run_1 (Prod.fst y,Prod.snd y)) fun y_1 =>
 some (Prod.fst y_1,Prod.fst (Prod.snd y_1),Prod.fst (Prod.snd (Prod.snd y_1)),Prod.fst (Prod.snd (Prod.snd (Prod.snd y_1))),Prod.snd (Prod.snd (Prod.snd (Prod.snd y_1)))))
 (bnd (W.tableau_Run.c5 t1 (Prod.fst c) some) fun y_2 =>
 br y_2
 (bnd (W.tableau_Run_1 ((18:Int),(0:Int))) fun y_3 =>
 some (Prod.fst y_3,Prod.fst (Prod.snd y_3),Prod.fst (Prod.snd (Prod.snd y_3)),Prod.fst (Prod.snd (Prod.snd (Prod.snd y_3))),Prod.snd (Prod.snd (Prod.snd (Prod.snd y_3)))))
 (bnd (W.tableau_stranger (Prod.fst c,Prod.fst (Prod.snd c),Prod.snd (Prod.snd c))) fun y_4 =>
 br (Prod.fst y_4 != (0:Int))
 (bnd (W.tableau_Run_1 (Prod.fst y_4,Prod.snd y_4)) fun y_5 =>
 some (Prod.fst y_5,Prod.fst (Prod.snd y_5),Prod.fst (Prod.snd (Prod.snd y_5)),Prod.fst (Prod.snd (Prod.snd (Prod.snd y_5))),Prod.snd (Prod.snd (Prod.snd (Prod.snd y_5)))))
 (bnd (W.tableau_Run.c10 t1 (Prod.fst c) (Prod.fst (Prod.snd c)) some) fun y_6 =>
 bnd (iter (fun s ↦ W.tableau_Run.c100012 tape (Prod.fst s) (Prod.snd (Prod.snd c)) (↑(List.length (Prod.snd (Prod.snd c))):Int) (Prod.fst (Prod.snd s)) (Prod.fst (Prod.snd (Prod.snd s))) (Prod.fst (Prod.snd (Prod.snd (Prod.snd s)))) (Prod.fst (Prod.snd (Prod.snd (Prod.snd (Prod.snd s))))) (Prod.snd (Prod.snd (Prod.snd (Prod.snd (Prod.snd s))))) some) ((0:Int),(0:Int),Prod.fst y_6,List.replicate (Int.toNat (Prod.fst (Prod.snd c))) (0:Int),Prod.fst (Prod.snd y_6),Prod.snd (Prod.snd y_6))) fun y_7 =>
 sel y_7
 (fun u=>some (Prod.fst u,Prod.fst (Prod.snd u),Prod.fst (Prod.snd (Prod.snd u)),Prod.fst (Prod.snd (Prod.snd (Prod.snd (Prod.snd (Prod.snd u))))),Prod.fst (Prod.snd (Prod.snd (Prod.snd (Prod.snd (Prod.snd (Prod.snd u))))))))
 (fun v=>bnd (W.tableau_Run.c29 (Prod.fst (Prod.snd (Prod.snd v))) (Prod.fst (Prod.snd (Prod.snd (Prod.snd (Prod.snd v))))) some) fun y_8 =>
 bnd (iter (fun s ↦ W.tableau_Run.c100030 (Prod.fst y_8) (Prod.snd y_8) (Prod.fst s) (Prod.snd s) (Prod.fst (Prod.snd (Prod.snd v))) some) ((0:Int),[])) fun y_9 =>
 some (Prod.snd y_9,Prod.fst (Prod.snd (Prod.snd (Prod.snd v))),Prod.fst v,(0:Int),(0:Int))))))
def tableau_Run.ce:Go.Ql.Callee:=⟨[(.st (.pair (.int .i64) (.pair (.int .i64) (.sl (.st (.pair (.int .i64) (.pair (.int .i64) (.pair (.sl (.int .i64)) (.pair (.int .i64) (.pair (.int .i64) (.sl (.int .i64)))))))))))),(.int .i64),(.sl (.int .i64))],[(.sl .str),(.sl (.int .i64)),(.int .i64),(.st (.pair (.int .i64) (.int .i64)))],fun x_=>tableau_Run x_.1 x_.2.1 x_.2.2⟩
def tableau_Run.G:Env:=⟨174,tab,[(36,circ_Check.ce),(37,tableau_stranger.ce),(39,tableau_holds.ce),(42,tableau_reduced.ce),(43,tableau_pauli_text.ce),(35,tableau_Run_1.ce)],[0,1,2,3,6,7,8,9,10,11,12,13,14,15,16,17,18,19,21,26,42,54,70,71,72,73,77,82,89,119,132,139,154,155,156,157],[19,65,68,1065,2065],[(32,[⟨[],[],[161,162,163,164,165,166,167],[167]⟩,⟨[],[],[160,162,163,164,165],[]⟩,⟨[],[],[160,161],[]⟩,⟨[2],[],[160,161],[]⟩,⟨[3,2],[],[160,161],[]⟩,⟨[4,3,2],[],[160,161],[]⟩,⟨[1,5,4,3,2],[],[160],[]⟩,⟨[6,1,5,4,3,2],[167],[160],[]⟩,⟨[0,7,6,1,5,4,3,2],[19],[],[]⟩,⟨[8,0,7,6,1,5,4,3,2],[],[],[]⟩]),
 (29,[⟨[],[],[150,151,152,153,156],[]⟩,⟨[0],[],[150,151,152,153,156],[]⟩,⟨[1,0],[],[150,151,152,153,156],[]⟩,⟨[2,1,0],[],[150,151,152,153,156],[]⟩,⟨[],[],[146,147,148,149,156],[]⟩,⟨[4],[],[146,147,148,149,156],[]⟩,⟨[5,4],[],[146,147,148,149,156],[]⟩,⟨[6,5,4],[],[146,147,148,149,156],[]⟩,⟨[3,2,1,0,7,6,5,4],[1065],[156],[]⟩,⟨[8,3,2,1,0,7,6,5,4],[],[156],[]⟩,⟨[],[],[146,147,148,149,150,151,152,153,154,155],[1065]⟩]),
 (10,[⟨[],[],[64,66,67,68],[68]⟩,⟨[0],[],[64,66,67,68],[68]⟩,⟨[],[],[62,63,66,67,68],[68]⟩,⟨[1,0,2],[1065,2065,65],[66,67,68],[68]⟩,⟨[],[],[62,63,64,65,13],[1065,2065,65]⟩,⟨[4],[],[62,63,64,65,13],[1065,2065,65]⟩,⟨[5,4],[68],[62,63,64,65,13],[1065,2065,65]⟩,⟨[3,1,0,2],[],[66,67,68],[68]⟩,⟨[6,5,4,7,3,1,0,2],[],[],[]⟩,⟨[8,6,5,4,7,3,1,0,2],[],[],[]⟩])],[(100030,tableau_Run.c100030r),(32,tableau_Run.c32r),(29,tableau_Run.c29r),(100012,tableau_Run.c100012r),(253291,tableau_Run.c253291r),(20,tableau_Run.c20r),(10,tableau_Run.c10r),(5,tableau_Run.c5r)],[(38,tableau_begin.mc),(40,tableau_table_gate.mc),(41,tableau_table_measure.mc)],tab_eqs⟩
theorem tableau_Run.eq (x_:dens tableau_Run.ce.params):den tableau_Run.G Try.f9 tableau_Run.ce.params tableau_Run.ce.res x_ = tableau_Run.ce.F x_:=by kernel_rfl
theorem tableau_Run.p0:PcA tableau_Run.G Try.f9 0 :=
 region_ok (s:=tableau_Run.c5r) (by kernel_rfl) (by kernel_rfl) (sums_of (sh:=tableau_Run.c5s) (fun ρ x_ k_=>(nat_br nat_leaf (nat_bnd fun _=>nat_leaf))) (fun ρ x_ t k=>(by kernel_rfl)) (fun x_=>by kernel_rfl))
theorem tableau_Run.p1:PcA tableau_Run.G Try.f9 1 :=
 region_ok (s:=tableau_Run.c10r) (by kernel_rfl) (by kernel_rfl) (sums_of (sh:=tableau_Run.c10s) (fun ρ x_ k_=>(nat_bnd fun _=>(nat_bnd fun _=>nat_leaf))) (fun ρ x_ t k=>(by kernel_rfl)) (fun x_=>by kernel_rfl))
theorem tableau_Run.p2:PcA tableau_Run.G Try.f9 2 :=
 loop_ok (s:=tableau_Run.c100012r) (by kernel_rfl) (by kernel_rfl) (loops_of (sh:=tableau_Run.c100012s) (I:=fun x_ s_=>(x_.1,x_.2.1,x_.2.2.1,x_.2.2.2.1,x_.2.2.2.2.1,x_.2.2.2.2.2.1,s_.1,x_.2.2.2.2.2.2.2.1,x_.2.2.2.2.2.2.2.2.1,s_.2.1,x_.2.2.2.2.2.2.2.2.2.2.1,x_.2.2.2.2.2.2.2.2.2.2.2.1,x_.2.2.2.2.2.2.2.2.2.2.2.2.1,x_.2.2.2.2.2.2.2.2.2.2.2.2.2.1,x_.2.2.2.2.2.2.2.2.2.2.2.2.2.2.1,x_.2.2.2.2.2.2.2.2.2.2.2.2.2.2.2.1,x_.2.2.2.2.2.2.2.2.2.2.2.2.2.2.2.2.1,x_.2.2.2.2.2.2.2.2.2.2.2.2.2.2.2.2.2.1,x_.2.2.2.2.2.2.2.2.2.2.2.2.2.2.2.2.2.2.1,s_.2.2.1,s_.2.2.2.1,s_.2.2.2.2.1,s_.2.2.2.2.2,())) (fun x_=>rfl) (fun ρ x_ s_ k_=>(nat_br (nat_bnd fun _=>(nat_sel (fun _=>nat_leaf) (fun _=>nat_leaf))) nat_leaf)) (fun ρ x_ t k=>(nat_sel (fun _=>(by kernel_rfl)) (fun _=>(by kernel_rfl)))) (fun x_ s=>by kernel_rfl))
theorem tableau_Run.p3:PcA tableau_Run.G Try.f9 3 :=
 join_ok (s:=tableau_Run.c253291r) (by kernel_rfl) (by kernel_rfl) (sums_of (sh:=tableau_Run.c253291s) (fun ρ x_ k_=>(nat_bnd fun _=>(nat_bnd fun _=>(nat_br nat_leaf (nat_br (nat_bnd fun _=>nat_leaf) (nat_br (nat_bnd fun _=>nat_leaf) (nat_bnd fun _=>(nat_bnd fun _=>(nat_br (nat_bnd fun _=>nat_leaf) (nat_br (nat_bnd fun _=>(nat_bnd fun _=>nat_leaf)) (nat_br (nat_bnd fun _=>nat_leaf) nat_leaf))))))))))) (fun ρ x_ t k=>(nat_sel (fun _=>(by kernel_rfl)) (fun _=>(by kernel_rfl)))) (fun x_=>by kernel_rfl))
theorem tableau_Run.p4:PcA tableau_Run.G Try.f9 4 :=
 region_ok (s:=tableau_Run.c20r) (by kernel_rfl) (by kernel_rfl) (sums_of (sh:=tableau_Run.c20s) (fun ρ x_ k_=>(nat_br (nat_br nat_leaf (nat_bnd fun _=>nat_leaf)) (nat_bnd fun _=>nat_leaf))) (fun ρ x_ t k=>(by kernel_rfl)) (fun x_=>by kernel_rfl))
theorem tableau_Run.p5:PcA tableau_Run.G Try.f9 5 :=
 region_ok (s:=tableau_Run.c29r) (by kernel_rfl) (by kernel_rfl) (sums_of (sh:=tableau_Run.c29s) (fun ρ x_ k_=>(nat_bnd fun _=>nat_leaf)) (fun ρ x_ t k=>(by kernel_rfl)) (fun x_=>by kernel_rfl))
theorem tableau_Run.p6:PcA tableau_Run.G Try.f9 6 :=
 loop_ok (s:=tableau_Run.c100030r) (by kernel_rfl) (by kernel_rfl) (loops_of (sh:=tableau_Run.c100030s) (I:=fun x_ s_=>(x_.1,x_.2.1,x_.2.2.1,x_.2.2.2.1,x_.2.2.2.2.1,x_.2.2.2.2.2.1,x_.2.2.2.2.2.2.1,x_.2.2.2.2.2.2.2.1,x_.2.2.2.2.2.2.2.2.1,x_.2.2.2.2.2.2.2.2.2.1,x_.2.2.2.2.2.2.2.2.2.2.1,x_.2.2.2.2.2.2.2.2.2.2.2.1,s_.1,x_.2.2.2.2.2.2.2.2.2.2.2.2.2.1,x_.2.2.2.2.2.2.2.2.2.2.2.2.2.2.1,x_.2.2.2.2.2.2.2.2.2.2.2.2.2.2.2.1,x_.2.2.2.2.2.2.2.2.2.2.2.2.2.2.2.2.1,x_.2.2.2.2.2.2.2.2.2.2.2.2.2.2.2.2.2.1,x_.2.2.2.2.2.2.2.2.2.2.2.2.2.2.2.2.2.2.1,x_.2.2.2.2.2.2.2.2.2.2.2.2.2.2.2.2.2.2.2.1,x_.2.2.2.2.2.2.2.2.2.2.2.2.2.2.2.2.2.2.2.2.1,x_.2.2.2.2.2.2.2.2.2.2.2.2.2.2.2.2.2.2.2.2.2.1,s_.2,x_.2.2.2.2.2.2.2.2.2.2.2.2.2.2.2.2.2.2.2.2.2.2.2)) (fun x_=>rfl) (fun ρ x_ s_ k_=>(nat_br (nat_bnd fun _=>(nat_bnd fun _=>nat_leaf)) nat_leaf)) (fun ρ x_ t k=>(by kernel_rfl)) (fun x_ s=>by kernel_rfl))
theorem tableau_Run.p7:PcA tableau_Run.G Try.f9 7 :=
 region_ok (s:=tableau_Run.c32r) (by kernel_rfl) (by kernel_rfl) (sums_of (sh:=tableau_Run.c32s) (fun ρ x_ k_=>(nat_bnd fun _=>(nat_bnd fun _=>nat_leaf))) (fun ρ x_ t k=>(by kernel_rfl)) (fun x_=>by kernel_rfl))
theorem tableau_Run.ok:CalleeOk Try.prog 9 tableau_Run.ce:=fn_ok (G:=tableau_Run.G) tab_ok mixed Try.func9 ⟨(fns_cons circ_Check.ok (fns_cons tableau_stranger.ok (fns_cons tableau_holds.ok (fns_cons tableau_reduced.ok (fns_cons tableau_pauli_text.ok (fns_cons tableau_Run_1.ok fns_nil)))))),(mfns_cons tableau_begin.ok (mfns_cons tableau_table_gate.ok (mfns_cons tableau_table_measure.ok mfns_nil))),tab_eqs_ok⟩ (m:=8) (by kernel_rfl) ⟨⟨⟨⟨⟨⟨⟨⟨trivial,tableau_Run.p0⟩,tableau_Run.p1⟩,tableau_Run.p2⟩,tableau_Run.p3⟩,tableau_Run.p4⟩,tableau_Run.p5⟩,tableau_Run.p6⟩,tableau_Run.p7⟩ (by kernel_rfl) tableau_Run.eq
def R_SameTexts.c6 {ρ:Type} (a:List (List UInt8)) (b:List (List UInt8)) (i:Int) (k_:Bool → Option ρ):Option ρ :=
 bnd (idx a i) fun y =>
 bnd (idx b i) fun y_1 =>
 k_ (!y == y_1)
def R_SameTexts.c6s:Shape:=⟨[(0,tb21),(1,tb21),(4,tb7),(5,tb5)],[]⟩
def R_SameTexts.c6x0:Shape:=⟨[(0,tb21),(1,tb21),(4,tb7),(5,tb5),(25,tb7)],[]⟩
def R_SameTexts.c6r:Ck:=Ck.of (T:=Bool) R_SameTexts.c6s (fun ρ x_ k_=>R_SameTexts.c6 x_.1 x_.2.1 x_.2.2.2.1 k_) (fun ρ x_ r_ k_=>k_ 0 (Shape.inj R_SameTexts.c6x0 (x_.1,x_.2.1,x_.2.2.1,x_.2.2.2.1,r_,())))
def R_SameTexts.c100004 {ρ:Type} (a:List (List UInt8)) (b:List (List UInt8)) (i:Int) (k_:Int ⊕ (Int ⊕ Int) → Option ρ):Option ρ :=
 br (decide (i < (↑(List.length a):Int)))
 (bnd (W.R_SameTexts.c6 a b i some) fun y =>
 br y
 (k_ (.inr (.inl i)))
 (k_ (.inl (IntKind.wrap IntKind.i64 (i + (1:Int))))))
 (k_ (.inr (.inr i)))
def R_SameTexts.c100004s:Shape:=R_SameTexts.c6s
def R_SameTexts.c100004x0:Shape:=R_SameTexts.c6s
def R_SameTexts.c100004x1:Shape:=R_SameTexts.c6s
def R_SameTexts.c100004r:Ck:=Ck.ofLoop (S:=Int) (T:=Int ⊕ Int) R_SameTexts.c100004s (fun x_=>x_.2.2.2.1) (fun ρ x_ s_ k_=>R_SameTexts.c100004 x_.1 x_.2.1 s_ k_) (fun ρ x_ r_ k_=>sel r_ (fun r_=>k_ 1 (Shape.inj R_SameTexts.c100004x0 (x_.1,x_.2.1,false,r_,()))) (fun r_=>k_ 2 (Shape.inj R_SameTexts.c100004x1 (x_.1,x_.2.1,x_.2.2.1,r_,()))))
def R_SameTexts (a:List (List UInt8)) (b:List (List UInt8)):Option (Bool) :=
 br ((↑(List.length a):Int) != (↑(List.length b):Int))
 (some false)
 (bnd (iter (fun s ↦ W.R_SameTexts.c100004 a b s some) (0:Int)) fun y =>
 sel y
 (fun u=>some false)
 (fun v=>some true))
def R_SameTexts.ce:Go.Ql.Callee:=⟨[(.sl .str),(.sl .str)],[.bool],fun x_=>R_SameTexts x_.1 x_.2⟩
def R_SameTexts.G:Env:=⟨26,tab,[],[0,1,4,5,10,14,25],[],[(6,[⟨[],[],[18,21,22,23,24],[]⟩,⟨[],[],[17,21,22,23,24],[]⟩,⟨[0,1],[],[21,22,23,24],[]⟩,⟨[2,0,1],[],[21,22,23,24],[]⟩,⟨[],[],[17,18,19,20,22],[]⟩,⟨[],[],[17,18,19,20,21],[]⟩,⟨[4,5],[],[17,18,19,20],[]⟩,⟨[6,4,5],[],[17,18,19,20],[]⟩,⟨[3,2,0,1,7,6,4,5],[],[],[]⟩])],[(100004,R_SameTexts.c100004r),(6,R_SameTexts.c6r)],[],tab_eqs⟩
theorem R_SameTexts.eq (x_:dens R_SameTexts.ce.params):den R_SameTexts.G Try.f16 R_SameTexts.ce.params R_SameTexts.ce.res x_ = R_SameTexts.ce.F x_:=by kernel_rfl
theorem R_SameTexts.p0:PcA R_SameTexts.G Try.f16 0 :=
 loop_ok (s:=R_SameTexts.c100004r) (by kernel_rfl) (by kernel_rfl) (loops_of (sh:=R_SameTexts.c100004s) (I:=fun x_ s_=>(x_.1,x_.2.1,x_.2.2.1,s_,())) (fun x_=>rfl) (fun ρ x_ s_ k_=>(nat_br (nat_bnd fun _=>(nat_br nat_leaf nat_leaf)) nat_leaf)) (fun ρ x_ t k=>(nat_sel (fun _=>(by kernel_rfl)) (fun _=>(by kernel_rfl)))) (fun x_ s=>by kernel_rfl))
theorem R_SameTexts.p1:PcA R_SameTexts.G Try.f16 1 :=
 region_ok (s:=R_SameTexts.c6r) (by kernel_rfl) (by kernel_rfl) (sums_of (sh:=R_SameTexts.c6s) (fun ρ x_ k_=>(nat_bnd fun _=>(nat_bnd fun _=>nat_leaf))) (fun ρ x_ t k=>(by kernel_rfl)) (fun x_=>by kernel_rfl))
theorem R_SameTexts.ok:CalleeOk Try.prog 16 R_SameTexts.ce:=fn_ok (G:=R_SameTexts.G) tab_ok mixed Try.func16 ⟨fns_nil,mfns_nil,tab_eqs_ok⟩ (m:=2) (by kernel_rfl) ⟨⟨trivial,R_SameTexts.p0⟩,R_SameTexts.p1⟩ (by kernel_rfl) R_SameTexts.eq
def Law_tableauBegun.c2 {ρ:Type} (l:List (List UInt8)) (f0:Int) (k_:Bool → Option ρ):Option ρ :=
 br (f0 == (0:Int))
 (bnd (W.R_SameTexts l [Array.toList (ByteArray.data (ByteArray.mk #[(43:UInt8),(88:UInt8),(88:UInt8)])),Array.toList (ByteArray.data (ByteArray.mk #[(45:UInt8),(90:UInt8),(90:UInt8)]))]) fun y =>
 k_ y)
 (k_ false)
def Law_tableauBegun.c2s:Shape:=⟨[(0,tb7),(1,tb21),(4,tb6)],[(4,tb19)]⟩
def Law_tableauBegun.c2x0:Shape:=Law_tableauBegun.c2s
def Law_tableauBegun.c2r:Ck:=Ck.of (T:=Bool) Law_tableauBegun.c2s (fun ρ x_ k_=>Law_tableauBegun.c2 x_.2.1 x_.2.2.1 k_) (fun ρ x_ r_ k_=>k_ 0 (Shape.inj Law_tableauBegun.c2x0 (r_,x_.2)))
def Law_tableauBegun :Option (Bool) :=
 bnd (W.tableau_Run ((2:Int),(0:Int),[((3:Int),(0:Int),[],(0:Int),(0:Int),[]),((2:Int),(0:Int),[(0:Int)],(1:Int),(0:Int),[])]) (2:Int) []) fun y =>
 bnd (W.Law_tableauBegun.c2 (Prod.fst y) (Prod.fst (Prod.snd (Prod.snd (Prod.snd y)))) some) fun y_1 =>
 some y_1
def Law_tableauBegun.ce:Go.Ql.Callee:=⟨[],[.bool],fun x_=>Law_tableauBegun⟩
def Law_tableauBegun.G:Env:=⟨24,tab,[(9,tableau_Run.ce),(16,R_SameTexts.ce)],[0,1,4],[],[],[(2,Law_tableauBegun.c2r)],[],tab_eqs⟩
theorem Law_tableauBegun.eq (x_:dens Law_tableauBegun.ce.params):den Law_tableauBegun.G Try.f10 Law_tableauBegun.ce.params Law_tableauBegun.ce.res x_ = Law_tableauBegun.ce.F x_:=by kernel_rfl
theorem Law_tableauBegun.p0:PcA Law_tableauBegun.G Try.f10 0 :=
 region_ok (s:=Law_tableauBegun.c2r) (by kernel_rfl) (by kernel_rfl) (sums_of (sh:=Law_tableauBegun.c2s) (fun ρ x_ k_=>(nat_br (nat_bnd fun _=>nat_leaf) nat_leaf)) (fun ρ x_ t k=>(by kernel_rfl)) (fun x_=>by kernel_rfl))
theorem Law_tableauBegun.ok:CalleeOk Try.prog 10 Law_tableauBegun.ce:=fn_ok (G:=Law_tableauBegun.G) tab_ok mixed Try.func10 ⟨(fns_cons tableau_Run.ok (fns_cons R_SameTexts.ok fns_nil)),mfns_nil,tab_eqs_ok⟩ (m:=1) (by kernel_rfl) ⟨trivial,Law_tableauBegun.p0⟩ (by kernel_rfl) Law_tableauBegun.eq
abbrev tb98:SO:=.box [.val .bool,.val (.sl (.int .i64))]
def R_zmade.c2 {ρ:Type} (d:List Int) (n:Int) (k_:Bool → Option ρ):Option ρ :=
 br (decide (n > (0:Int)))
 (bnd (idx d (IntKind.wrap IntKind.i64 (n - (1:Int)))) fun y =>
 k_ (y == (0:Int)))
 (k_ false)
def R_zmade.c2s:Shape:=⟨[(0,tb7),(1,tb36),(4,tb6),(5,tb5)],[(4,tb98)]⟩
def R_zmade.c2x0:Shape:=⟨[(0,tb7),(1,tb36),(4,tb6),(5,tb5),(17,tb7)],[(4,tb98)]⟩
def R_zmade.c2r:Ck:=Ck.of (T:=Bool) R_zmade.c2s (fun ρ x_ k_=>R_zmade.c2 x_.2.1 x_.2.2.1 k_) (fun ρ x_ r_ k_=>k_ 0 (Shape.inj R_zmade.c2x0 (x_.1,x_.2.1,x_.2.2.1,r_,x_.2.2.2)))
def R_zmade.c100002 {ρ:Type} (d:List Int) (n:Int) (k_:Int ⊕ Int → Option ρ):Option ρ :=
 bnd (W.R_zmade.c2 d n some) fun y =>
 br y
 (k_ (.inl (IntKind.wrap IntKind.i64 (n - (1:Int)))))
 (k_ (.inr n))
def R_zmade.c100002s:Shape:=R_zmade.c2s
def R_zmade.c100002x0:Shape:=R_zmade.c2s
def R_zmade.c100002r:Ck:=Ck.ofLoop (S:=Int) (T:=Int) R_zmade.c100002s (fun x_=>x_.2.2.1) (fun ρ x_ s_ k_=>R_zmade.c100002 x_.2.1 s_ k_) (fun ρ x_ r_ k_=>k_ 2 (Shape.inj R_zmade.c100002x0 (x_.1,x_.2.1,r_,x_.2.2.2)))
def R_zmade (neg:Bool) (d:List Int):Option ((Bool)×(List Int)) :=
 bnd (iter (fun s ↦ W.R_zmade.c100002 d s some) ↑(List.length d)) fun y =>
 br (y == (0:Int))
 (some (false,[]))
 (bnd (okIf (decide ((0:Int) ≤ y) && decide (y ≤ (↑(List.length d):Int)))) fun y_1 =>
 some (neg,List.take (Int.toNat y) d))
def R_zmade.ce:Go.Ql.Callee:=⟨[.bool,(.sl (.int .i64))],[(.st (.pair .bool (.sl (.int .i64))))],fun x_=>R_zmade x_.1 x_.2⟩
def R_zmade.G:Env:=⟨28,tab,[],[0,1,4,5,17,21],[],[],[(100002,R_zmade.c100002r),(2,R_zmade.c2r)],[],tab_eqs⟩
theorem R_zmade.eq (x_:dens R_zmade.ce.params):den R_zmade.G Try.f95 R_zmade.ce.params R_zmade.ce.res x_ = R_zmade.ce.F x_:=by kernel_rfl
theorem R_zmade.p0:PcA R_zmade.G Try.f95 0 :=
 loop_ok (s:=R_zmade.c100002r) (by kernel_rfl) (by kernel_rfl) (loops_of (sh:=R_zmade.c100002s) (I:=fun x_ s_=>(x_.1,x_.2.1,s_,x_.2.2.2)) (fun x_=>rfl) (fun ρ x_ s_ k_=>(nat_bnd fun _=>(nat_br nat_leaf nat_leaf))) (fun ρ x_ t k=>(by kernel_rfl)) (fun x_ s=>by kernel_rfl))
theorem R_zmade.p1:PcA R_zmade.G Try.f95 1 :=
 region_ok (s:=R_zmade.c2r) (by kernel_rfl) (by kernel_rfl) (sums_of (sh:=R_zmade.c2s) (fun ρ x_ k_=>(nat_br (nat_bnd fun _=>nat_leaf) nat_leaf)) (fun ρ x_ t k=>(by kernel_rfl)) (fun x_=>by kernel_rfl))
theorem R_zmade.ok:CalleeOk Try.prog 95 R_zmade.ce:=fn_ok (G:=R_zmade.G) tab_ok mixed Try.func95 ⟨fns_nil,mfns_nil,tab_eqs_ok⟩ (m:=2) (by kernel_rfl) ⟨⟨trivial,R_zmade.p0⟩,R_zmade.p1⟩ (by kernel_rfl) R_zmade.eq
abbrev tb99:SD:=.one (.own 4 0)
def R_ZOf.c208197 {ρ:Type} (n:Int) (u:Int) (k_:Int → Option ρ):Option ρ :=
 br (decide (n < (0:Int)))
 (k_ (IntKind.wrap IntKind.u64 ((0:Int) - u)))
 (k_ u)
def R_ZOf.c208197s:Shape:=⟨[(0,tb5),(2,tb2),(3,tb13)],[(2,tb98)]⟩
def R_ZOf.c208197x0:Shape:=R_ZOf.c208197s
def R_ZOf.c208197r:Ck:=Ck.of (T:=Int) R_ZOf.c208197s (fun ρ x_ k_=>R_ZOf.c208197 x_.1 x_.2.1 k_) (fun ρ x_ r_ k_=>k_ 0 (Shape.inj R_ZOf.c208197x0 (x_.1,r_,x_.2.2)))
def R_ZOf.c100005 {ρ:Type} (u:Int) (d:List Int) (k_:(Int×(List Int)) ⊕ (Int×(List Int)) → Option ρ):Option ρ :=
 br (decide (u > (0:Int)))
 (bnd (okIf (decide ((List.length d + (1:Nat)) * (8:Nat) ≤ (140737488355328:Nat)) && decide (List.length d + (1:Nat) ≤ (140737488355328:Nat)))) fun y =>
 k_ (.inl ((IntKind.wrap IntKind.u64 (Int.tdiv u (10000:Int))),(d ++ [IntKind.wrap IntKind.i64 (Int.tmod u (10000:Int))]))))
 (k_ (.inr (u,d)))
def R_ZOf.c100005s:Shape:=⟨[(0,tb5),(2,tb2),(3,tb13),(4,tb99)],[(2,tb98),(4,tb50)]⟩
def R_ZOf.c100005x0:Shape:=R_ZOf.c100005s
def R_ZOf.c100005r:Ck:=Ck.ofLoop (S:=Int×(List Int)) (T:=Int×(List Int)) R_ZOf.c100005s (fun x_=>(x_.2.1,x_.2.2.2.2.1)) (fun ρ x_ s_ k_=>R_ZOf.c100005 s_.1 s_.2 k_) (fun ρ x_ r_ k_=>k_ 2 (Shape.inj R_ZOf.c100005x0 (x_.1,r_.1,x_.2.2.1,x_.2.2.2.1,r_.2,())))
def R_ZOf (n:Int):Option ((Bool)×(List Int)) :=
 bnd (W.R_ZOf.c208197 n (IntKind.wrap IntKind.u64 n) some) fun y =>
 bnd (iter (fun s ↦ W.R_ZOf.c100005 (Prod.fst s) (Prod.snd s) some) (y,[])) fun y_1 =>
 bnd (W.R_zmade (decide (n < (0:Int))) (Prod.snd y_1)) fun y_2 =>
 some (Prod.fst y_2,Prod.snd y_2)
def R_ZOf.ce:Go.Ql.Callee:=⟨[(.int .i64)],[(.st (.pair .bool (.sl (.int .i64))))],fun x_=>R_ZOf x_⟩
def R_ZOf.G:Env:=⟨25,tab,[(95,R_zmade.ce)],[0,2,3,4,8,12],[4],[],[(100005,R_ZOf.c100005r),(208197,R_ZOf.c208197r)],[],tab_eqs⟩
theorem R_ZOf.eq (x_:dens R_ZOf.ce.params):den R_ZOf.G Try.f60 R_ZOf.ce.params R_ZOf.ce.res x_ = R_ZOf.ce.F x_:=by kernel_rfl
theorem R_ZOf.p0:PcA R_ZOf.G Try.f60 0 :=
 join_ok (s:=R_ZOf.c208197r) (by kernel_rfl) (by kernel_rfl) (sums_of (sh:=R_ZOf.c208197s) (fun ρ x_ k_=>(nat_br nat_leaf nat_leaf)) (fun ρ x_ t k=>(by kernel_rfl)) (fun x_=>by kernel_rfl))
theorem R_ZOf.p1:PcA R_ZOf.G Try.f60 1 :=
 loop_ok (s:=R_ZOf.c100005r) (by kernel_rfl) (by kernel_rfl) (loops_of (sh:=R_ZOf.c100005s) (I:=fun x_ s_=>(x_.1,s_.1,x_.2.2.1,x_.2.2.2.1,s_.2,())) (fun x_=>rfl) (fun ρ x_ s_ k_=>(nat_br (nat_bnd fun _=>nat_leaf) nat_leaf)) (fun ρ x_ t k=>(by kernel_rfl)) (fun x_ s=>by kernel_rfl))
theorem R_ZOf.ok:CalleeOk Try.prog 60 R_ZOf.ce:=fn_ok (G:=R_ZOf.G) tab_ok mixed Try.func60 ⟨(fns_cons R_zmade.ok fns_nil),mfns_nil,tab_eqs_ok⟩ (m:=2) (by kernel_rfl) ⟨⟨trivial,R_ZOf.p0⟩,R_ZOf.p1⟩ (by kernel_rfl) R_ZOf.eq
def R_ROf (n:(Bool)×(List Int)):Option ((List ((Bool)×(List Int)))×Int) :=
 bnd (idx (List.replicate (8:Nat) (false,([]:List (Ty.den (Ty.int IntKind.i64))))) (0:Int)) fun y =>
 some (List.set (List.replicate (8:Nat) (false,([]:List (Ty.den (Ty.int IntKind.i64))))) (0:Nat) (Prod.fst n,Prod.snd n),(0:Int))
def R_ROf.ce:Go.Ql.Callee:=⟨[(.st (.pair .bool (.sl (.int .i64))))],[(.st (.pair (.ar 8 (.st (.pair .bool (.sl (.int .i64))))) (.int .i64)))],fun x_=>R_ROf x_⟩
def R_ROf.G:Env:=⟨9,tab,[],[0,1,2,3],[2,3,4],[],[],[],tab_eqs⟩
theorem R_ROf.eq (x_:dens R_ROf.ce.params):den R_ROf.G Try.f59 R_ROf.ce.params R_ROf.ce.res x_ = R_ROf.ce.F x_:=by kernel_rfl
theorem R_ROf.ok:CalleeOk Try.prog 59 R_ROf.ce:=fn_ok (G:=R_ROf.G) tab_ok mixed Try.func59 ⟨fns_nil,mfns_nil,tab_eqs_ok⟩ (m:=0) (by kernel_rfl) trivial (by kernel_rfl) R_ROf.eq
def R_Basis (qubits:Int) (t1:Int):Option (List ((List ((Bool)×(List Int)))×Int)) :=
 bnd (okIf (decide ((0:Int) ≤ qubits))) fun y =>
 bnd (okIf (decide ((0:Int) ≤ IntKind.wrap IntKind.i64 ((1:Int) * (2:Int) ^ Min.min (Int.toNat qubits) (64:Nat))) && decide (IntKind.wrap IntKind.i64 ((1:Int) * (2:Int) ^ Min.min (Int.toNat qubits) (64:Nat)) ≤ IntKind.wrap IntKind.i64 ((1:Int) * (2:Int) ^ Min.min (Int.toNat qubits) (64:Nat))) && decide (IntKind.wrap IntKind.i64 ((1:Int) * (2:Int) ^ Min.min (Int.toNat qubits) (64:Nat)) * (↑(264:Nat):Int) ≤ (140737488355328:Int)) && decide (IntKind.wrap IntKind.i64 ((1:Int) * (2:Int) ^ Min.min (Int.toNat qubits) (64:Nat)) ≤ (140737488355328:Int)))) fun y_1 =>
 bnd (W.R_ZOf (1:Int)) fun y_2 =>
 bnd (W.R_ROf y_2) fun y_3 =>
 bnd (inR (List.length (List.replicate (Int.toNat (IntKind.wrap IntKind.i64 ((1:Int) * (2:Int) ^ Min.min (Int.toNat qubits) (64:Nat)))) (List.replicate (8:Nat) (false,([]:List (Ty.den (Ty.int IntKind.i64)))),(0:Int)))) t1) fun y_4 =>
 bnd (idx (List.replicate (Int.toNat (IntKind.wrap IntKind.i64 ((1:Int) * (2:Int) ^ Min.min (Int.toNat qubits) (64:Nat)))) (List.replicate (8:Nat) (false,([]:List (Ty.den (Ty.int IntKind.i64)))),(0:Int))) t1) fun y_5 =>
 some (List.set (List.replicate (Int.toNat (IntKind.wrap IntKind.i64 ((1:Int) * (2:Int) ^ Min.min (Int.toNat qubits) (64:Nat)))) (List.replicate (8:Nat) (false,([]:List (Ty.den (Ty.int IntKind.i64)))),(0:Int))) (Int.toNat t1) y_3)
def R_Basis.ce:Go.Ql.Callee:=⟨[(.int .i64),(.int .i64)],[(.sl (.st (.pair (.ar 8 (.st (.pair .bool (.sl (.int .i64))))) (.int .i64))))],fun x_=>R_Basis x_.1 x_.2⟩
def R_Basis.G:Env:=⟨15,tab,[(60,R_ZOf.ce),(59,R_ROf.ce)],[0,1,4,5],[8],[],[],[],tab_eqs⟩
theorem R_Basis.eq (x_:dens R_Basis.ce.params):den R_Basis.G Try.f23 R_Basis.ce.params R_Basis.ce.res x_ = R_Basis.ce.F x_:=by kernel_rfl
theorem R_Basis.ok:CalleeOk Try.prog 23 R_Basis.ce:=fn_ok (G:=R_Basis.G) tab_ok mixed Try.func23 ⟨(fns_cons R_ZOf.ok (fns_cons R_ROf.ok fns_nil)),mfns_nil,tab_eqs_ok⟩ (m:=0) (by kernel_rfl) trivial (by kernel_rfl) R_Basis.eq
abbrev tb100:SD:=.one (.val (.st (.pair (.ar 8 (.st (.pair .bool (.sl (.int .i64))))) (.int .i64))))
abbrev tb101:SD:=.one (.fptr (.st (.pair (.ar 8 (.st (.pair .bool (.sl (.int .i64))))) (.int .i64))))
def R_RZero.c100002 {ρ:Type} (a_1:(List ((Bool)×(List Int)))×Int) (i:Int) (k_:Int ⊕ (Int ⊕ Int) → Option ρ):Option ρ :=
 br (decide (i < (8:Int)))
 (bnd (idx (Prod.fst a_1) i) fun y =>
 br (decide ((↑(List.length (Prod.snd y)):Int) > (0:Int)))
 (k_ (.inr (.inl i)))
 (k_ (.inl (IntKind.wrap IntKind.i64 (i + (1:Int))))))
 (k_ (.inr (.inr i)))
def R_RZero.c100002s:Shape:=⟨[(0,tb100),(1,tb101),(2,tb7),(3,tb5)],[]⟩
def R_RZero.c100002x0:Shape:=R_RZero.c100002s
def R_RZero.c100002x1:Shape:=R_RZero.c100002s
def R_RZero.c100002r:Ck:=Ck.ofLoop (S:=Int) (T:=Int ⊕ Int) R_RZero.c100002s (fun x_=>x_.2.2.2.1) (fun ρ x_ s_ k_=>R_RZero.c100002 x_.2.1 s_ k_) (fun ρ x_ r_ k_=>sel r_ (fun r_=>k_ 1 (Shape.inj R_RZero.c100002x0 (x_.1,x_.2.1,false,r_,()))) (fun r_=>k_ 2 (Shape.inj R_RZero.c100002x1 (x_.1,x_.2.1,x_.2.2.1,r_,()))))
def R_RZero (a:(List ((Bool)×(List Int)))×Int):Option (Bool) :=
 bnd (iter (fun s ↦ W.R_RZero.c100002 a s some) (0:Int)) fun y =>
 sel y
 (fun u=>some false)
 (fun v=>some true)
def R_RZero.ce:Go.Ql.Callee:=⟨[(.st (.pair (.ar 8 (.st (.pair .bool (.sl (.int .i64))))) (.int .i64)))],[.bool],fun x_=>R_RZero x_⟩
def R_RZero.G:Env:=⟨15,tab,[],[0,1,2,3,5,14],[8000001],[],[(100002,R_RZero.c100002r)],[],tab_eqs⟩
theorem R_RZero.eq (x_:dens R_RZero.ce.params):den R_RZero.G Try.f48 R_RZero.ce.params R_RZero.ce.res x_ = R_RZero.ce.F x_:=by kernel_rfl
theorem R_RZero.p0:PcA R_RZero.G Try.f48 0 :=
 loop_ok (s:=R_RZero.c100002r) (by kernel_rfl) (by kernel_rfl) (loops_of (sh:=R_RZero.c100002s) (I:=fun x_ s_=>(x_.1,x_.2.1,x_.2.2.1,s_,())) (fun x_=>rfl) (fun ρ x_ s_ k_=>(nat_br (nat_bnd fun _=>(nat_br nat_leaf nat_leaf)) nat_leaf)) (fun ρ x_ t k=>(nat_sel (fun _=>(by kernel_rfl)) (fun _=>(by kernel_rfl)))) (fun x_ s=>by kernel_rfl))
theorem R_RZero.ok:CalleeOk Try.prog 48 R_RZero.ce:=fn_ok (G:=R_RZero.G) tab_ok mixed Try.func48 ⟨fns_nil,mfns_nil,tab_eqs_ok⟩ (m:=1) (by kernel_rfl) ⟨trivial,R_RZero.p0⟩ (by kernel_rfl) R_RZero.eq
def R_bitOf (x:Int) (q:Int):Option Int :=
 bnd (okIf (decide ((0:Int) ≤ q))) fun y =>
 some (ibits BinOp.and IntKind.i64 (Int.fdiv x ((2:Int) ^ Min.min (Int.toNat q) (64:Nat))) (1:Int))
def R_bitOf.ce:Go.Ql.Callee:=⟨[(.int .i64),(.int .i64)],[(.int .i64)],fun x_=>R_bitOf x_.1 x_.2⟩
def R_bitOf.G:Env:=⟨9,tab,[],[0,1,4],[],[],[],[],tab_eqs⟩
theorem R_bitOf.eq (x_:dens R_bitOf.ce.params):den R_bitOf.G Try.f63 R_bitOf.ce.params R_bitOf.ce.res x_ = R_bitOf.ce.F x_:=by kernel_rfl
theorem R_bitOf.ok:CalleeOk Try.prog 63 R_bitOf.ce:=fn_ok (G:=R_bitOf.G) tab_ok mixed Try.func63 ⟨fns_nil,mfns_nil,tab_eqs_ok⟩ (m:=0) (by kernel_rfl) trivial (by kernel_rfl) R_bitOf.eq
def R_allOne.c100002 {ρ:Type} (x:Int) (qs:List Int) (i:Int) (k_:Int ⊕ (Int ⊕ Int) → Option ρ):Option ρ :=
 br (decide (i < (↑(List.length qs):Int)))
 (bnd (idx qs i) fun y =>
 bnd (W.R_bitOf x y) fun y_1 =>
 br (y_1 == (0:Int))
 (k_ (.inr (.inl i)))
 (k_ (.inl (IntKind.wrap IntKind.i64 (i + (1:Int))))))
 (k_ (.inr (.inr i)))
def R_allOne.c100002s:Shape:=⟨[(0,tb5),(1,tb36),(4,tb7),(5,tb5)],[]⟩
def R_allOne.c100002x0:Shape:=R_allOne.c100002s
def R_allOne.c100002x1:Shape:=R_allOne.c100002s
def R_allOne.c100002r:Ck:=Ck.ofLoop (S:=Int) (T:=Int ⊕ Int) R_allOne.c100002s (fun x_=>x_.2.2.2.1) (fun ρ x_ s_ k_=>R_allOne.c100002 x_.1 x_.2.1 s_ k_) (fun ρ x_ r_ k_=>sel r_ (fun r_=>k_ 1 (Shape.inj R_allOne.c100002x0 (x_.1,x_.2.1,false,r_,()))) (fun r_=>k_ 2 (Shape.inj R_allOne.c100002x1 (x_.1,x_.2.1,x_.2.2.1,r_,()))))
def R_allOne (x:Int) (qs:List Int):Option (Bool) :=
 bnd (iter (fun s ↦ W.R_allOne.c100002 x qs s some) (0:Int)) fun y =>
 sel y
 (fun u=>some false)
 (fun v=>some true)
def R_allOne.ce:Go.Ql.Callee:=⟨[(.int .i64),(.sl (.int .i64))],[.bool],fun x_=>R_allOne x_.1 x_.2⟩
def R_allOne.G:Env:=⟨19,tab,[(63,R_bitOf.ce)],[0,1,4,5,9,18],[],[],[(100002,R_allOne.c100002r)],[],tab_eqs⟩
theorem R_allOne.eq (x_:dens R_allOne.ce.params):den R_allOne.G Try.f61 R_allOne.ce.params R_allOne.ce.res x_ = R_allOne.ce.F x_:=by kernel_rfl
theorem R_allOne.p0:PcA R_allOne.G Try.f61 0 :=
 loop_ok (s:=R_allOne.c100002r) (by kernel_rfl) (by kernel_rfl) (loops_of (sh:=R_allOne.c100002s) (I:=fun x_ s_=>(x_.1,x_.2.1,x_.2.2.1,s_,())) (fun x_=>rfl) (fun ρ x_ s_ k_=>(nat_br (nat_bnd fun _=>(nat_bnd fun _=>(nat_br nat_leaf nat_leaf))) nat_leaf)) (fun ρ x_ t k=>(nat_sel (fun _=>(by kernel_rfl)) (fun _=>(by kernel_rfl)))) (fun x_ s=>by kernel_rfl))
theorem R_allOne.ok:CalleeOk Try.prog 61 R_allOne.ce:=fn_ok (G:=R_allOne.G) tab_ok mixed Try.func61 ⟨(fns_cons R_bitOf.ok fns_nil),mfns_nil,tab_eqs_ok⟩ (m:=1) (by kernel_rfl) ⟨trivial,R_allOne.p0⟩ (by kernel_rfl) R_allOne.eq
abbrev tb102:SD:=.one (.val (.st (.pair .bool (.sl (.int .i64)))))
abbrev tb103:SD:=.one (.own 17 0)
def R_ZMul.c7 {ρ:Type} (c:Int) (j:Int) (b1:List Int) (k_:Bool → Option ρ):Option ρ :=
 br (decide (j < (↑(List.length b1):Int)))
 (k_ true)
 (k_ (decide (c > (0:Int))))
def R_ZMul.c7s:Shape:=⟨[(0,tb102),(1,tb102),(2,tb2),(3,tb12),(4,tb6),(5,tb103),(6,tb5),(7,tb5),(8,tb5)],[(2,tb98),(3,tb98),(4,tb98),(17,tb50)]⟩
def R_ZMul.c7x0:Shape:=⟨[(0,tb102),(1,tb102),(2,tb2),(3,tb12),(4,tb6),(5,tb103),(6,tb5),(7,tb5),(8,tb5),(33,tb7)],[(2,tb98),(3,tb98),(4,tb98),(17,tb50)]⟩
def R_ZMul.c7r:Ck:=Ck.of (T:=Bool) R_ZMul.c7s (fun ρ x_ k_=>R_ZMul.c7 x_.2.2.2.1 x_.2.2.2.2.1 x_.2.2.2.2.2.2.2.2.1 k_) (fun ρ x_ r_ k_=>k_ 0 (Shape.inj R_ZMul.c7x0 (x_.1,x_.2.1,x_.2.2.1,x_.2.2.2.1,x_.2.2.2.2.1,r_,x_.2.2.2.2.2)))
def R_ZMul.c11 {ρ:Type} (i:Int) (c:Int) (j:Int) (a1:List Int) (b1:List Int) (k_:Int → Option ρ):Option ρ :=
 bnd (idx a1 i) fun y =>
 bnd (idx b1 j) fun y_1 =>
 k_ (IntKind.wrap IntKind.i64 (c + IntKind.wrap IntKind.i64 (y * y_1)))
def R_ZMul.c11s:Shape:=R_ZMul.c7s
def R_ZMul.c11x0:Shape:=R_ZMul.c7s
def R_ZMul.c11r:Ck:=Ck.of (T:=Int) R_ZMul.c11s (fun ρ x_ k_=>R_ZMul.c11 x_.2.2.1 x_.2.2.2.1 x_.2.2.2.2.1 x_.2.2.2.2.2.2.1 x_.2.2.2.2.2.2.2.2.1 k_) (fun ρ x_ r_ k_=>k_ 0 (Shape.inj R_ZMul.c11x0 (x_.1,x_.2.1,x_.2.2.1,r_,x_.2.2.2.2)))
def R_ZMul.c240965 {ρ:Type} (i:Int) (c:Int) (j:Int) (a1:List Int) (b1:List Int) (k_:Int → Option ρ):Option ρ :=
 br (decide (j < (↑(List.length b1):Int)))
 (bnd (W.R_ZMul.c11 i c j a1 b1 some) fun y =>
 k_ y)
 (k_ c)
def R_ZMul.c240965s:Shape:=R_ZMul.c7s
def R_ZMul.c240965x0:Shape:=R_ZMul.c7s
def R_ZMul.c240965r:Ck:=Ck.of (T:=Int) R_ZMul.c240965s (fun ρ x_ k_=>R_ZMul.c240965 x_.2.2.1 x_.2.2.2.1 x_.2.2.2.2.1 x_.2.2.2.2.2.2.1 x_.2.2.2.2.2.2.2.2.1 k_) (fun ρ x_ r_ k_=>k_ 0 (Shape.inj R_ZMul.c240965x0 (x_.1,x_.2.1,x_.2.2.1,r_,x_.2.2.2.2)))
def R_ZMul.c100007 {ρ:Type} (i:Int) (c:Int) (j:Int) (a1:List Int) (b1:List Int) (t17:List Int) (k_:(Int×Int×(List Int)) ⊕ (Int×Int×(List Int)) → Option ρ):Option ρ :=
 bnd (W.R_ZMul.c7 c j b1 some) fun y =>
 br y
 (bnd (inR (List.length t17) (IntKind.wrap IntKind.i64 (i + j))) fun y_1 =>
 bnd (idx t17 (IntKind.wrap IntKind.i64 (i + j))) fun y_2 =>
 bnd (W.R_ZMul.c240965 i (IntKind.wrap IntKind.i64 (c + y_2)) j a1 b1 some) fun y_3 =>
 bnd (inR (List.length t17) (IntKind.wrap IntKind.i64 (i + j))) fun y_4 =>
 bnd (idx t17 (IntKind.wrap IntKind.i64 (i + j))) fun y_5 =>
 k_ (.inl ((IntKind.wrap IntKind.i64 (Int.tdiv y_3 (10000:Int))),(IntKind.wrap IntKind.i64 (j + (1:Int))),(List.set t17 (Int.toNat (IntKind.wrap IntKind.i64 (i + j))) (Int.tmod y_3 (10000:Int))))))
 (k_ (.inr (c,j,t17)))
def R_ZMul.c100007s:Shape:=R_ZMul.c7s
def R_ZMul.c100007x0:Shape:=R_ZMul.c7s
def R_ZMul.c100007r:Ck:=Ck.ofLoop (S:=Int×Int×(List Int)) (T:=Int×Int×(List Int)) R_ZMul.c100007s (fun x_=>(x_.2.2.2.1,x_.2.2.2.2.1,x_.2.2.2.2.2.2.2.2.2.2.2.1)) (fun ρ x_ s_ k_=>R_ZMul.c100007 x_.2.2.1 s_.1 s_.2.1 x_.2.2.2.2.2.2.1 x_.2.2.2.2.2.2.2.2.1 s_.2.2 k_) (fun ρ x_ r_ k_=>k_ 4 (Shape.inj R_ZMul.c100007x0 (x_.1,x_.2.1,x_.2.2.1,r_.1,r_.2.1,x_.2.2.2.2.2.1,x_.2.2.2.2.2.2.1,x_.2.2.2.2.2.2.2.1,x_.2.2.2.2.2.2.2.2.1,x_.2.2.2.2.2.2.2.2.2.1,x_.2.2.2.2.2.2.2.2.2.2.1,r_.2.2,())))
def R_ZMul.c100003 {ρ:Type} (i:Int) (a1:List Int) (b1:List Int) (t17:List Int) (k_:(Int×(List Int)) ⊕ (Int×(List Int)) → Option ρ):Option ρ :=
 br (decide (i < (↑(List.length a1):Int)))
 (bnd (iter (fun s ↦ W.R_ZMul.c100007 i (Prod.fst s) (Prod.fst (Prod.snd s)) a1 b1 (Prod.snd (Prod.snd s)) some) ((0:Int),(0:Int),t17)) fun y =>
 k_ (.inl ((IntKind.wrap IntKind.i64 (i + (1:Int))),(Prod.snd (Prod.snd y)))))
 (k_ (.inr (i,t17)))
def R_ZMul.c100003s:Shape:=⟨[(0,tb102),(1,tb102),(2,tb2),(3,tb12),(4,tb6),(5,tb103),(6,tb5)],[(2,tb98),(3,tb98),(4,tb98),(17,tb50)]⟩
def R_ZMul.c100003x0:Shape:=R_ZMul.c100003s
def R_ZMul.c100003r:Ck:=Ck.ofLoop (S:=Int×(List Int)) (T:=Int×(List Int)) R_ZMul.c100003s (fun x_=>(x_.2.2.1,x_.2.2.2.2.2.2.2.2.2.1)) (fun ρ x_ s_ k_=>R_ZMul.c100003 s_.1 x_.2.2.2.2.1 x_.2.2.2.2.2.2.1 s_.2 k_) (fun ρ x_ r_ k_=>k_ 2 (Shape.inj R_ZMul.c100003x0 (x_.1,x_.2.1,r_.1,x_.2.2.2.1,x_.2.2.2.2.1,x_.2.2.2.2.2.1,x_.2.2.2.2.2.2.1,x_.2.2.2.2.2.2.2.1,x_.2.2.2.2.2.2.2.2.1,r_.2,())))
def R_ZMul (a:(Bool)×(List Int)) (b:(Bool)×(List Int)):Option ((Bool)×(List Int)) :=
 bnd (okIf (decide ((0:Int) ≤ IntKind.wrap IntKind.i64 (IntKind.wrap IntKind.i64 ((↑(List.length (Prod.snd a)):Int) + (↑(List.length (Prod.snd b)):Int)) + (1:Int))) && decide (IntKind.wrap IntKind.i64 (IntKind.wrap IntKind.i64 ((↑(List.length (Prod.snd a)):Int) + (↑(List.length (Prod.snd b)):Int)) + (1:Int)) ≤ IntKind.wrap IntKind.i64 (IntKind.wrap IntKind.i64 ((↑(List.length (Prod.snd a)):Int) + (↑(List.length (Prod.snd b)):Int)) + (1:Int))) && decide (IntKind.wrap IntKind.i64 (IntKind.wrap IntKind.i64 ((↑(List.length (Prod.snd a)):Int) + (↑(List.length (Prod.snd b)):Int)) + (1:Int)) * (↑(8:Nat):Int) ≤ (140737488355328:Int)) && decide (IntKind.wrap IntKind.i64 (IntKind.wrap IntKind.i64 ((↑(List.length (Prod.snd a)):Int) + (↑(List.length (Prod.snd b)):Int)) + (1:Int)) ≤ (140737488355328:Int)))) fun y =>
 bnd (iter (fun s ↦ W.R_ZMul.c100003 (Prod.fst s) (Prod.snd a) (Prod.snd b) (Prod.snd s) some) ((0:Int),List.replicate (Int.toNat (IntKind.wrap IntKind.i64 (IntKind.wrap IntKind.i64 ((↑(List.length (Prod.snd a)):Int) + (↑(List.length (Prod.snd b)):Int)) + (1:Int)))) (0:Int))) fun y_1 =>
 bnd (W.R_zmade (!Prod.fst a == Prod.fst b) (Prod.snd y_1)) fun y_2 =>
 some (Prod.fst y_2,Prod.snd y_2)
def R_ZMul.ce:Go.Ql.Callee:=⟨[(.st (.pair .bool (.sl (.int .i64)))),(.st (.pair .bool (.sl (.int .i64))))],[(.st (.pair .bool (.sl (.int .i64))))],fun x_=>R_ZMul x_.1 x_.2⟩
def R_ZMul.G:Env:=⟨78,tab,[(95,R_zmade.ce)],[0,1,2,3,4,5,6,7,8,22,33,48],[17],[(11,[⟨[],[],[50,51,52,53,54,55,56,57,58,59,60],[]⟩,⟨[],[],[49,52,55,56,57,58,59],[]⟩,⟨[1],[],[49,52,55,56,57,58,59],[]⟩,⟨[],[],[49,50,51,55,56,57,58,59],[]⟩,⟨[2,1,3],[],[49,55,56,57,58,59],[]⟩,⟨[4,2,1,3],[],[49,55,56,57,58,59],[]⟩,⟨[],[],[49,50,51,52,53,54,57],[]⟩,⟨[6],[],[49,50,51,52,53,54,57],[]⟩,⟨[],[],[49,50,51,52,53,54,55,56],[]⟩,⟨[7,6,8],[],[49,50,51,52,53,54],[]⟩,⟨[9,7,6,8],[],[49,50,51,52,53,54],[]⟩,⟨[5,4,2,1,3,10,9,7,6,8],[],[49],[]⟩,⟨[0,11,5,4,2,1,3,10,9,7,6,8],[],[],[]⟩,⟨[12,0,11,5,4,2,1,3,10,9,7,6,8],[],[],[]⟩])],[(100003,R_ZMul.c100003r),(100007,R_ZMul.c100007r),(240965,R_ZMul.c240965r),(11,R_ZMul.c11r),(7,R_ZMul.c7r)],[],tab_eqs⟩
theorem R_ZMul.eq (x_:dens R_ZMul.ce.params):den R_ZMul.G Try.f123 R_ZMul.ce.params R_ZMul.ce.res x_ = R_ZMul.ce.F x_:=by kernel_rfl
theorem R_ZMul.p0:PcA R_ZMul.G Try.f123 0 :=
 loop_ok (s:=R_ZMul.c100003r) (by kernel_rfl) (by kernel_rfl) (loops_of (sh:=R_ZMul.c100003s) (I:=fun x_ s_=>(x_.1,x_.2.1,s_.1,x_.2.2.2.1,x_.2.2.2.2.1,x_.2.2.2.2.2.1,x_.2.2.2.2.2.2.1,x_.2.2.2.2.2.2.2.1,x_.2.2.2.2.2.2.2.2.1,s_.2,())) (fun x_=>rfl) (fun ρ x_ s_ k_=>(nat_br (nat_bnd fun _=>nat_leaf) nat_leaf)) (fun ρ x_ t k=>(by kernel_rfl)) (fun x_ s=>by kernel_rfl))
theorem R_ZMul.p1:PcA R_ZMul.G Try.f123 1 :=
 loop_ok (s:=R_ZMul.c100007r) (by kernel_rfl) (by kernel_rfl) (loops_of (sh:=R_ZMul.c100007s) (I:=fun x_ s_=>(x_.1,x_.2.1,x_.2.2.1,s_.1,s_.2.1,x_.2.2.2.2.2.1,x_.2.2.2.2.2.2.1,x_.2.2.2.2.2.2.2.1,x_.2.2.2.2.2.2.2.2.1,x_.2.2.2.2.2.2.2.2.2.1,x_.2.2.2.2.2.2.2.2.2.2.1,s_.2.2,())) (fun x_=>rfl) (fun ρ x_ s_ k_=>(nat_bnd fun _=>(nat_br (nat_bnd fun _=>(nat_bnd fun _=>(nat_bnd fun _=>(nat_bnd fun _=>(nat_bnd fun _=>nat_leaf))))) nat_leaf))) (fun ρ x_ t k=>(by kernel_rfl)) (fun x_ s=>by kernel_rfl))
theorem R_ZMul.p2:PcA R_ZMul.G Try.f123 2 :=
 region_ok (s:=R_ZMul.c7r) (by kernel_rfl) (by kernel_rfl) (sums_of (sh:=R_ZMul.c7s) (fun ρ x_ k_=>(nat_br nat_leaf nat_leaf)) (fun ρ x_ t k=>(by kernel_rfl)) (fun x_=>by kernel_rfl))
theorem R_ZMul.p3:PcA R_ZMul.G Try.f123 3 :=
 join_ok (s:=R_ZMul.c240965r) (by kernel_rfl) (by kernel_rfl) (sums_of (sh:=R_ZMul.c240965s) (fun ρ x_ k_=>(nat_br (nat_bnd fun _=>nat_leaf) nat_leaf)) (fun ρ x_ t k=>(by kernel_rfl)) (fun x_=>by kernel_rfl))
theorem R_ZMul.p4:PcA R_ZMul.G Try.f123 4 :=
 region_ok (s:=R_ZMul.c11r) (by kernel_rfl) (by kernel_rfl) (sums_of (sh:=R_ZMul.c11s) (fun ρ x_ k_=>(nat_bnd fun _=>(nat_bnd fun _=>nat_leaf))) (fun ρ x_ t k=>(by kernel_rfl)) (fun x_=>by kernel_rfl))
theorem R_ZMul.ok:CalleeOk Try.prog 123 R_ZMul.ce:=fn_ok (G:=R_ZMul.G) tab_ok mixed Try.func123 ⟨(fns_cons R_zmade.ok fns_nil),mfns_nil,tab_eqs_ok⟩ (m:=5) (by kernel_rfl) ⟨⟨⟨⟨⟨trivial,R_ZMul.p0⟩,R_ZMul.p1⟩,R_ZMul.p2⟩,R_ZMul.p3⟩,R_ZMul.p4⟩ (by kernel_rfl) R_ZMul.eq
def R_ZPow2.c216389 {ρ:Type} (n:Int) (out0:Bool) (out1:List Int) (t40:Bool) (t41:List Int) (k_:(Bool)×(List Int) → Option ρ):Option ρ :=
 br (Int.tmod n (2:Int) == (1:Int))
 (bnd (W.R_ZMul (out0,out1) (t40,t41)) fun y =>
 k_ ((Prod.fst y),(Prod.snd y)))
 (k_ (out0,out1))
def R_ZPow2.c216389s:Shape:=⟨[(0,tb5),(2,tb2),(3,tb12),(4,tb6)],[(2,tb98),(3,tb98),(4,tb98)]⟩
def R_ZPow2.c216389x0:Shape:=R_ZPow2.c216389s
def R_ZPow2.c216389r:Ck:=Ck.of (T:=(Bool)×(List Int)) R_ZPow2.c216389s (fun ρ x_ k_=>R_ZPow2.c216389 x_.1 x_.2.2.2.1 x_.2.2.2.2.1 x_.2.2.2.2.2.1 x_.2.2.2.2.2.2.1 k_) (fun ρ x_ r_ k_=>k_ 0 (Shape.inj R_ZPow2.c216389x0 (x_.1,x_.2.1,x_.2.2.1,r_.1,r_.2,x_.2.2.2.2.2)))
def R_ZPow2.c100003 {ρ:Type} (n:Int) (out0:Bool) (out1:List Int) (t40:Bool) (t41:List Int) (k_:(Int×(Bool)×(List Int)×(Bool)×(List Int)) ⊕ (Int×(Bool)×(List Int)×(Bool)×(List Int)) → Option ρ):Option ρ :=
 br (decide (n > (0:Int)))
 (bnd (W.R_ZPow2.c216389 n out0 out1 t40 t41 some) fun y =>
 bnd (W.R_ZMul (t40,t41) (t40,t41)) fun y_1 =>
 k_ (.inl ((IntKind.wrap IntKind.i64 (Int.tdiv n (2:Int))),(Prod.fst y),(Prod.snd y),(Prod.fst y_1),(Prod.snd y_1))))
 (k_ (.inr (n,out0,out1,t40,t41)))
def R_ZPow2.c100003s:Shape:=R_ZPow2.c216389s
def R_ZPow2.c100003x0:Shape:=R_ZPow2.c216389s
def R_ZPow2.c100003r:Ck:=Ck.ofLoop (S:=Int×(Bool)×(List Int)×(Bool)×(List Int)) (T:=Int×(Bool)×(List Int)×(Bool)×(List Int)) R_ZPow2.c100003s (fun x_=>(x_.1,x_.2.2.2.1,x_.2.2.2.2.1,x_.2.2.2.2.2.1,x_.2.2.2.2.2.2.1)) (fun ρ x_ s_ k_=>R_ZPow2.c100003 s_.1 s_.2.1 s_.2.2.1 s_.2.2.2.1 s_.2.2.2.2 k_) (fun ρ x_ r_ k_=>k_ 2 (Shape.inj R_ZPow2.c100003x0 (r_.1,x_.2.1,x_.2.2.1,r_.2.1,r_.2.2.1,r_.2.2.2.1,r_.2.2.2.2,())))
def R_ZPow2 (n:Int):Option ((Bool)×(List Int)) :=
 bnd (W.R_ZOf (1:Int)) fun y =>
 bnd (W.R_ZOf (2:Int)) fun y_1 =>
 bnd (iter (fun s ↦ W.R_ZPow2.c100003 (Prod.fst s) (Prod.fst (Prod.snd s)) (Prod.fst (Prod.snd (Prod.snd s))) (Prod.fst (Prod.snd (Prod.snd (Prod.snd s)))) (Prod.snd (Prod.snd (Prod.snd (Prod.snd s)))) some) (n,Prod.fst y,Prod.snd y,Prod.fst y_1,Prod.snd y_1)) fun y_2 =>
 some (Prod.fst (Prod.snd y_2),Prod.fst (Prod.snd (Prod.snd y_2)))
def R_ZPow2.ce:Go.Ql.Callee:=⟨[(.int .i64)],[(.st (.pair .bool (.sl (.int .i64))))],fun x_=>R_ZPow2 x_⟩
def R_ZPow2.G:Env:=⟨21,tab,[(60,R_ZOf.ce),(123,R_ZMul.ce)],[0,2,3,4,8,11],[],[],[(100003,R_ZPow2.c100003r),(216389,R_ZPow2.c216389r)],[],tab_eqs⟩
theorem R_ZPow2.eq (x_:dens R_ZPow2.ce.params):den R_ZPow2.G Try.f122 R_ZPow2.ce.params R_ZPow2.ce.res x_ = R_ZPow2.ce.F x_:=by kernel_rfl
theorem R_ZPow2.p0:PcA R_ZPow2.G Try.f122 0 :=
 loop_ok (s:=R_ZPow2.c100003r) (by kernel_rfl) (by kernel_rfl) (loops_of (sh:=R_ZPow2.c100003s) (I:=fun x_ s_=>(s_.1,x_.2.1,x_.2.2.1,s_.2.1,s_.2.2.1,s_.2.2.2.1,s_.2.2.2.2,())) (fun x_=>rfl) (fun ρ x_ s_ k_=>(nat_br (nat_bnd fun _=>(nat_bnd fun _=>nat_leaf)) nat_leaf)) (fun ρ x_ t k=>(by kernel_rfl)) (fun x_ s=>by kernel_rfl))
theorem R_ZPow2.p1:PcA R_ZPow2.G Try.f122 1 :=
 join_ok (s:=R_ZPow2.c216389r) (by kernel_rfl) (by kernel_rfl) (sums_of (sh:=R_ZPow2.c216389s) (fun ρ x_ k_=>(nat_br (nat_bnd fun _=>nat_leaf) nat_leaf)) (fun ρ x_ t k=>(by kernel_rfl)) (fun x_=>by kernel_rfl))
theorem R_ZPow2.ok:CalleeOk Try.prog 122 R_ZPow2.ce:=fn_ok (G:=R_ZPow2.G) tab_ok mixed Try.func122 ⟨(fns_cons R_ZOf.ok (fns_cons R_ZMul.ok fns_nil)),mfns_nil,tab_eqs_ok⟩ (m:=2) (by kernel_rfl) ⟨⟨trivial,R_ZPow2.p0⟩,R_ZPow2.p1⟩ (by kernel_rfl) R_ZPow2.eq
abbrev tb104:SD:=.one (.aptr 2 0)
abbrev tb105:SD:=.one (.aptr 4 0)
abbrev tb106:SO:=.arr 0 false 90 (.st (.pair (.ar 8 (.st (.pair .bool (.sl (.int .i64))))) (.int .i64)))
def R_rto.c6 {ρ:Type} (i:Int) (a_1:List ((List ((Bool)×(List Int)))×Int)) (t50:Bool) (t51:List Int) (k_:List ((List ((Bool)×(List Int)))×Int) → Option ρ):Option ρ :=
 bnd (inR (List.length a_1) (0:Int)) fun y =>
 bnd (okIf (decide ((0:Ty.den (Ty.int IntKind.i64)) ≤ i) && decide (i < (↑(8:Nat):Int)))) fun y_1 =>
 bnd (idx a_1 (0:Int)) fun y_2 =>
 bnd (idx (Prod.fst y_2) i) fun y_3 =>
 bnd (W.R_ZMul y_3 (t50,t51)) fun y_4 =>
 bnd (inR (List.length a_1) (0:Int)) fun y_5 =>
 bnd (okIf (decide ((0:Ty.den (Ty.int IntKind.i64)) ≤ i) && decide (i < (↑(8:Nat):Int)))) fun y_6 =>
 bnd (idx a_1 (0:Int)) fun y_7 =>
 bnd (idx (Prod.fst y_7) i) fun y_8 =>
 k_ (List.set a_1 (0:Nat) (List.set (Prod.fst y_7) (Int.toNat i) y_4,Prod.snd y_7))
def R_rto.c6s:Shape:=⟨[(0,tb100),(1,tb5),(2,tb104),(4,tb105),(5,tb39),(6,tb5)],[(2,tb106),(4,tb106),(5,tb98)]⟩
def R_rto.c6x0:Shape:=R_rto.c6s
def R_rto.c6r:Ck:=Ck.of (T:=List ((List ((Bool)×(List Int)))×Int)) R_rto.c6s (fun ρ x_ k_=>R_rto.c6 x_.2.2.1 x_.2.2.2.1 x_.2.2.2.2.2.1 x_.2.2.2.2.2.2.1 k_) (fun ρ x_ r_ k_=>k_ 0 (Shape.inj R_rto.c6x0 (x_.1,x_.2.1,x_.2.2.1,r_,x_.2.2.2.2)))
def R_rto.c100004 {ρ:Type} (i:Int) (a_1:List ((List ((Bool)×(List Int)))×Int)) (t50:Bool) (t51:List Int) (k_:(Int×(List ((List ((Bool)×(List Int)))×Int))) ⊕ (Int×(List ((List ((Bool)×(List Int)))×Int))) → Option ρ):Option ρ :=
 br (decide (i < (8:Int)))
 (bnd (W.R_rto.c6 i a_1 t50 t51 some) fun y =>
 k_ (.inl ((IntKind.wrap IntKind.i64 (i + (1:Int))),y)))
 (k_ (.inr (i,a_1)))
def R_rto.c100004s:Shape:=R_rto.c6s
def R_rto.c100004x0:Shape:=R_rto.c6s
def R_rto.c100004r:Ck:=Ck.ofLoop (S:=Int×(List ((List ((Bool)×(List Int)))×Int))) (T:=Int×(List ((List ((Bool)×(List Int)))×Int))) R_rto.c100004s (fun x_=>(x_.2.2.1,x_.2.2.2.1)) (fun ρ x_ s_ k_=>R_rto.c100004 s_.1 s_.2 x_.2.2.2.2.2.1 x_.2.2.2.2.2.2.1 k_) (fun ρ x_ r_ k_=>k_ 2 (Shape.inj R_rto.c100004x0 (x_.1,x_.2.1,r_.1,r_.2,x_.2.2.2.2)))
def R_rto.c204118 {ρ:Type} (e:Int) (a_1:List ((List ((Bool)×(List Int)))×Int)) (k_:List ((List ((Bool)×(List Int)))×Int) → Option ρ):Option ρ :=
 bnd (inR (List.length a_1) (0:Int)) fun y =>
 bnd (idx a_1 (0:Int)) fun y_1 =>
 br (decide (Prod.snd y_1 < e))
 (bnd (inR (List.length a_1) (0:Int)) fun y_2 =>
 bnd (idx a_1 (0:Int)) fun y_3 =>
 bnd (W.R_ZPow2 (IntKind.wrap IntKind.i64 (e - Prod.snd y_3))) fun y_4 =>
 bnd (iter (fun s ↦ W.R_rto.c100004 (Prod.fst s) (Prod.snd s) (Prod.fst y_4) (Prod.snd y_4) some) ((0:Int),a_1)) fun y_5 =>
 bnd (inR (List.length (Prod.snd y_5)) (0:Int)) fun y_6 =>
 bnd (idx (Prod.snd y_5) (0:Int)) fun y_7 =>
 k_ (List.set (Prod.snd y_5) (0:Nat) (Prod.fst y_7,e)))
 (k_ a_1)
def R_rto.c204118s:Shape:=⟨[(0,tb100),(1,tb5),(2,tb104),(4,tb105)],[(2,tb106),(4,tb106)]⟩
def R_rto.c204118x0:Shape:=R_rto.c204118s
def R_rto.c204118r:Ck:=Ck.of (T:=List ((List ((Bool)×(List Int)))×Int)) R_rto.c204118s (fun ρ x_ k_=>R_rto.c204118 x_.2.1 x_.2.2.1 k_) (fun ρ x_ r_ k_=>k_ 0 (Shape.inj R_rto.c204118x0 (x_.1,x_.2.1,r_,x_.2.2.2)))
def R_rto (a:(List ((Bool)×(List Int)))×Int) (e:Int):Option ((List ((Bool)×(List Int)))×Int) :=
 bnd (W.R_rto.c204118 e [a] some) fun y =>
 bnd (idx y (0:Int)) fun y_1 =>
 some y_1
def R_rto.ce:Go.Ql.Callee:=⟨[(.st (.pair (.ar 8 (.st (.pair .bool (.sl (.int .i64))))) (.int .i64))),(.int .i64)],[(.st (.pair (.ar 8 (.st (.pair .bool (.sl (.int .i64))))) (.int .i64)))],fun x_=>R_rto x_.1 x_.2⟩
def R_rto.G:Env:=⟨32,tab,[(122,R_ZPow2.ce),(123,R_ZMul.ce)],[0,1,2,4,5,6,10,17],[2,4],[(6,[⟨[],[],[21,22,23,24,25,26,27],[]⟩,⟨[],[],[20,22,25,27],[]⟩,⟨[],[],[20,21,25,27],[]⟩,⟨[2,1],[],[20,25,27],[]⟩,⟨[3,2,1],[],[20,25,27],[]⟩,⟨[],[],[20,21,22,23,24,27],[]⟩,⟨[4,3,2,1,5],[],[20,27],[]⟩,⟨[],[],[20,21,22,23,24,25,26],[]⟩,⟨[7,0,1,2,3,4,5,6],[],[],[]⟩,⟨[8,7,0,1,2,3,4,5,6],[2],[],[]⟩])],[(204118,R_rto.c204118r),(100004,R_rto.c100004r),(6,R_rto.c6r)],[],tab_eqs⟩
theorem R_rto.eq (x_:dens R_rto.ce.params):den R_rto.G Try.f96 R_rto.ce.params R_rto.ce.res x_ = R_rto.ce.F x_:=by kernel_rfl
theorem R_rto.p0:PcA R_rto.G Try.f96 0 :=
 join_ok (s:=R_rto.c204118r) (by kernel_rfl) (by kernel_rfl) (sums_of (sh:=R_rto.c204118s) (fun ρ x_ k_=>(nat_bnd fun _=>(nat_bnd fun _=>(nat_br (nat_bnd fun _=>(nat_bnd fun _=>(nat_bnd fun _=>(nat_bnd fun _=>(nat_bnd fun _=>(nat_bnd fun _=>nat_leaf)))))) nat_leaf)))) (fun ρ x_ t k=>(by kernel_rfl)) (fun x_=>by kernel_rfl))
theorem R_rto.p1:PcA R_rto.G Try.f96 1 :=
 loop_ok (s:=R_rto.c100004r) (by kernel_rfl) (by kernel_rfl) (loops_of (sh:=R_rto.c100004s) (I:=fun x_ s_=>(x_.1,x_.2.1,s_.1,s_.2,x_.2.2.2.2)) (fun x_=>rfl) (fun ρ x_ s_ k_=>(nat_br (nat_bnd fun _=>nat_leaf) nat_leaf)) (fun ρ x_ t k=>(by kernel_rfl)) (fun x_ s=>by kernel_rfl))
theorem R_rto.p2:PcA R_rto.G Try.f96 2 :=
 region_ok (s:=R_rto.c6r) (by kernel_rfl) (by kernel_rfl) (sums_of (sh:=R_rto.c6s) (fun ρ x_ k_=>(nat_bnd fun _=>(nat_bnd fun _=>(nat_bnd fun _=>(nat_bnd fun _=>(nat_bnd fun _=>(nat_bnd fun _=>(nat_bnd fun _=>(nat_bnd fun _=>(nat_bnd fun _=>nat_leaf)))))))))) (fun ρ x_ t k=>(by kernel_rfl)) (fun x_=>by kernel_rfl))
theorem R_rto.ok:CalleeOk Try.prog 96 R_rto.ce:=fn_ok (G:=R_rto.G) tab_ok mixed Try.func96 ⟨(fns_cons R_ZPow2.ok (fns_cons R_ZMul.ok fns_nil)),mfns_nil,tab_eqs_ok⟩ (m:=3) (by kernel_rfl) ⟨⟨⟨trivial,R_rto.p0⟩,R_rto.p1⟩,R_rto.p2⟩ (by kernel_rfl) R_rto.eq
def R_dadd.c4 {ρ:Type} (a:List Int) (b:List Int) (c:Int) (i:Int) (k_:Bool → Option ρ):Option ρ :=
 br (decide (i < (↑(List.length a):Int)))
 (k_ true)
 (br (decide (i < (↑(List.length b):Int)))
 (k_ true)
 (k_ (decide (c > (0:Int)))))
def R_dadd.c4s:Shape:=⟨[(0,tb36),(1,tb36),(4,tb36),(5,tb20),(6,tb5),(7,tb5)],[(5,tb50)]⟩
def R_dadd.c4x0:Shape:=⟨[(0,tb36),(1,tb36),(4,tb36),(5,tb20),(6,tb5),(7,tb5),(21,tb7)],[(5,tb50)]⟩
def R_dadd.c4r:Ck:=Ck.of (T:=Bool) R_dadd.c4s (fun ρ x_ k_=>R_dadd.c4 x_.1 x_.2.1 x_.2.2.2.1 x_.2.2.2.2.1 k_) (fun ρ x_ r_ k_=>k_ 0 (Shape.inj R_dadd.c4x0 (x_.1,x_.2.1,x_.2.2.1,x_.2.2.2.1,x_.2.2.2.2.1,r_,x_.2.2.2.2.2)))
def R_dadd.c224581 {ρ:Type} (a:List Int) (c:Int) (i:Int) (k_:Int → Option ρ):Option ρ :=
 br (decide (i < (↑(List.length a):Int)))
 (bnd (idx a i) fun y =>
 k_ (IntKind.wrap IntKind.i64 (c + y)))
 (k_ c)
def R_dadd.c224581s:Shape:=R_dadd.c4s
def R_dadd.c224581x0:Shape:=R_dadd.c4s
def R_dadd.c224581r:Ck:=Ck.of (T:=Int) R_dadd.c224581s (fun ρ x_ k_=>R_dadd.c224581 x_.1 x_.2.2.2.1 x_.2.2.2.2.1 k_) (fun ρ x_ r_ k_=>k_ 0 (Shape.inj R_dadd.c224581x0 (x_.1,x_.2.1,x_.2.2.1,r_,x_.2.2.2.2)))
def R_dadd.c232773 {ρ:Type} (b:List Int) (c:Int) (i:Int) (k_:Int → Option ρ):Option ρ :=
 br (decide (i < (↑(List.length b):Int)))
 (bnd (idx b i) fun y =>
 k_ (IntKind.wrap IntKind.i64 (c + y)))
 (k_ c)
def R_dadd.c232773s:Shape:=R_dadd.c4s
def R_dadd.c232773x0:Shape:=R_dadd.c4s
def R_dadd.c232773r:Ck:=Ck.of (T:=Int) R_dadd.c232773s (fun ρ x_ k_=>R_dadd.c232773 x_.2.1 x_.2.2.2.1 x_.2.2.2.2.1 k_) (fun ρ x_ r_ k_=>k_ 0 (Shape.inj R_dadd.c232773x0 (x_.1,x_.2.1,x_.2.2.1,r_,x_.2.2.2.2)))
def R_dadd.c100004 {ρ:Type} (a:List Int) (b:List Int) (c:Int) (i:Int) (out:List Int) (k_:(Int×Int×(List Int)) ⊕ (Int×Int×(List Int)) → Option ρ):Option ρ :=
 bnd (W.R_dadd.c4 a b c i some) fun y =>
 br y
 (bnd (W.R_dadd.c224581 a c i some) fun y_1 =>
 bnd (W.R_dadd.c232773 b y_1 i some) fun y_2 =>
 bnd (okIf (decide ((List.length out + (1:Nat)) * (8:Nat) ≤ (140737488355328:Nat)) && decide (List.length out + (1:Nat) ≤ (140737488355328:Nat)))) fun y_3 =>
 k_ (.inl ((IntKind.wrap IntKind.i64 (Int.tdiv y_2 (10000:Int))),(IntKind.wrap IntKind.i64 (i + (1:Int))),(out ++ [Int.tmod y_2 (10000:Int)]))))
 (k_ (.inr (c,i,out)))
def R_dadd.c100004s:Shape:=R_dadd.c4s
def R_dadd.c100004x0:Shape:=R_dadd.c4s
def R_dadd.c100004r:Ck:=Ck.ofLoop (S:=Int×Int×(List Int)) (T:=Int×Int×(List Int)) R_dadd.c100004s (fun x_=>(x_.2.2.2.1,x_.2.2.2.2.1,x_.2.2.2.2.2.1)) (fun ρ x_ s_ k_=>R_dadd.c100004 x_.1 x_.2.1 s_.1 s_.2.1 s_.2.2 k_) (fun ρ x_ r_ k_=>k_ 2 (Shape.inj R_dadd.c100004x0 (x_.1,x_.2.1,x_.2.2.1,r_.1,r_.2.1,r_.2.2,())))
def R_dadd (a:List Int) (b:List Int):Option (List Int) :=
 bnd (iter (fun s ↦ W.R_dadd.c100004 a b (Prod.fst s) (Prod.fst (Prod.snd s)) (Prod.snd (Prod.snd s)) some) ((0:Int),(0:Int),[])) fun y =>
 some (Prod.snd (Prod.snd y))
def R_dadd.ce:Go.Ql.Callee:=⟨[(.sl (.int .i64)),(.sl (.int .i64))],[(.sl (.int .i64))],fun x_=>R_dadd x_.1 x_.2⟩
def R_dadd.G:Env:=⟨52,tab,[],[0,1,4,5,6,7,21,27,37],[5],[],[(100004,R_dadd.c100004r),(232773,R_dadd.c232773r),(224581,R_dadd.c224581r),(4,R_dadd.c4r)],[],tab_eqs⟩
theorem R_dadd.eq (x_:dens R_dadd.ce.params):den R_dadd.G Try.f124 R_dadd.ce.params R_dadd.ce.res x_ = R_dadd.ce.F x_:=by kernel_rfl
theorem R_dadd.p0:PcA R_dadd.G Try.f124 0 :=
 loop_ok (s:=R_dadd.c100004r) (by kernel_rfl) (by kernel_rfl) (loops_of (sh:=R_dadd.c100004s) (I:=fun x_ s_=>(x_.1,x_.2.1,x_.2.2.1,s_.1,s_.2.1,s_.2.2,())) (fun x_=>rfl) (fun ρ x_ s_ k_=>(nat_bnd fun _=>(nat_br (nat_bnd fun _=>(nat_bnd fun _=>(nat_bnd fun _=>nat_leaf))) nat_leaf))) (fun ρ x_ t k=>(by kernel_rfl)) (fun x_ s=>by kernel_rfl))
theorem R_dadd.p1:PcA R_dadd.G Try.f124 1 :=
 region_ok (s:=R_dadd.c4r) (by kernel_rfl) (by kernel_rfl) (sums_of (sh:=R_dadd.c4s) (fun ρ x_ k_=>(nat_br nat_leaf (nat_br nat_leaf nat_leaf))) (fun ρ x_ t k=>(by kernel_rfl)) (fun x_=>by kernel_rfl))
theorem R_dadd.p2:PcA R_dadd.G Try.f124 2 :=
 join_ok (s:=R_dadd.c224581r) (by kernel_rfl) (by kernel_rfl) (sums_of (sh:=R_dadd.c224581s) (fun ρ x_ k_=>(nat_br (nat_bnd fun _=>nat_leaf) nat_leaf)) (fun ρ x_ t k=>(by kernel_rfl)) (fun x_=>by kernel_rfl))
theorem R_dadd.p3:PcA R_dadd.G Try.f124 3 :=
 join_ok (s:=R_dadd.c232773r) (by kernel_rfl) (by kernel_rfl) (sums_of (sh:=R_dadd.c232773s) (fun ρ x_ k_=>(nat_br (nat_bnd fun _=>nat_leaf) nat_leaf)) (fun ρ x_ t k=>(by kernel_rfl)) (fun x_=>by kernel_rfl))
theorem R_dadd.ok:CalleeOk Try.prog 124 R_dadd.ce:=fn_ok (G:=R_dadd.G) tab_ok mixed Try.func124 ⟨fns_nil,mfns_nil,tab_eqs_ok⟩ (m:=4) (by kernel_rfl) ⟨⟨⟨⟨trivial,R_dadd.p0⟩,R_dadd.p1⟩,R_dadd.p2⟩,R_dadd.p3⟩ (by kernel_rfl) R_dadd.eq
def R_dcmp.c8 {ρ:Type} (a:List Int) (b:List Int) (i:Int) (k_:Bool → Option ρ):Option ρ :=
 bnd (idx a i) fun y =>
 bnd (idx b i) fun y_1 =>
 k_ (decide (y < y_1))
def R_dcmp.c8s:Shape:=⟨[(0,tb36),(1,tb36),(4,tb5),(5,tb5)],[]⟩
def R_dcmp.c8x0:Shape:=⟨[(0,tb36),(1,tb36),(4,tb5),(5,tb5),(31,tb7)],[]⟩
def R_dcmp.c8r:Ck:=Ck.of (T:=Bool) R_dcmp.c8s (fun ρ x_ k_=>R_dcmp.c8 x_.1 x_.2.1 x_.2.2.2.1 k_) (fun ρ x_ r_ k_=>k_ 0 (Shape.inj R_dcmp.c8x0 (x_.1,x_.2.1,x_.2.2.1,x_.2.2.2.1,r_,())))
def R_dcmp.c10 {ρ:Type} (a:List Int) (b:List Int) (i:Int) (k_:Bool → Option ρ):Option ρ :=
 bnd (idx a i) fun y =>
 bnd (idx b i) fun y_1 =>
 k_ (decide (y > y_1))
def R_dcmp.c10s:Shape:=R_dcmp.c8s
def R_dcmp.c10x0:Shape:=⟨[(0,tb36),(1,tb36),(4,tb5),(5,tb5),(40,tb7)],[]⟩
def R_dcmp.c10r:Ck:=Ck.of (T:=Bool) R_dcmp.c10s (fun ρ x_ k_=>R_dcmp.c10 x_.1 x_.2.1 x_.2.2.2.1 k_) (fun ρ x_ r_ k_=>k_ 0 (Shape.inj R_dcmp.c10x0 (x_.1,x_.2.1,x_.2.2.1,x_.2.2.2.1,r_,())))
def R_dcmp.c100006 {ρ:Type} (a:List Int) (b:List Int) (i:Int) (k_:Int ⊕ ((Int×Int) ⊕ Int) → Option ρ):Option ρ :=
 br (decide (i ≥ (0:Int)))
 (bnd (W.R_dcmp.c8 a b i some) fun y =>
 br y
 (k_ (.inr (.inl ((-1:Int),i))))
 (bnd (W.R_dcmp.c10 a b i some) fun y_1 =>
 br y_1
 (k_ (.inr (.inl ((1:Int),i))))
 (k_ (.inl (IntKind.wrap IntKind.i64 (i - (1:Int)))))))
 (k_ (.inr (.inr i)))
def R_dcmp.c100006s:Shape:=R_dcmp.c8s
def R_dcmp.c100006x0:Shape:=R_dcmp.c8s
def R_dcmp.c100006x1:Shape:=R_dcmp.c8s
def R_dcmp.c100006r:Ck:=Ck.ofLoop (S:=Int) (T:=(Int×Int) ⊕ Int) R_dcmp.c100006s (fun x_=>x_.2.2.2.1) (fun ρ x_ s_ k_=>R_dcmp.c100006 x_.1 x_.2.1 s_ k_) (fun ρ x_ r_ k_=>sel r_ (fun r_=>k_ 1 (Shape.inj R_dcmp.c100006x0 (x_.1,x_.2.1,r_.1,r_.2,()))) (fun r_=>k_ 2 (Shape.inj R_dcmp.c100006x1 (x_.1,x_.2.1,x_.2.2.1,r_,()))))
def R_dcmp (a:List Int) (b:List Int):Option Int :=
 br ((↑(List.length a):Int) != (↑(List.length b):Int))
 (br (decide ((↑(List.length a):Int) < (↑(List.length b):Int)))
 (some (-1:Int))
 (some (1:Int)))
 (bnd (iter (fun s ↦ W.R_dcmp.c100006 a b s some) (IntKind.wrap IntKind.i64 ((↑(List.length a):Int) - (1:Int)))) fun y =>
 sel y
 (fun u=>some (Prod.fst u))
 (fun v=>some (0:Int)))
def R_dcmp.ce:Go.Ql.Callee:=⟨[(.sl (.int .i64)),(.sl (.int .i64))],[(.int .i64)],fun x_=>R_dcmp x_.1 x_.2⟩
def R_dcmp.G:Env:=⟨41,tab,[],[0,1,4,5,10,15,20,31,40],[],[(10,[⟨[],[],[33,36,37,38,39],[]⟩,⟨[],[],[32,36,37,38,39],[]⟩,⟨[0,1],[],[36,37,38,39],[]⟩,⟨[2,0,1],[],[36,37,38,39],[]⟩,⟨[],[],[32,33,34,35,37],[]⟩,⟨[],[],[32,33,34,35,36],[]⟩,⟨[4,5],[],[32,33,34,35],[]⟩,⟨[6,4,5],[],[32,33,34,35],[]⟩,⟨[3,2,0,1,7,6,4,5],[],[],[]⟩]),
 (8,[⟨[],[],[24,27,28,29,30],[]⟩,⟨[],[],[23,27,28,29,30],[]⟩,⟨[0,1],[],[27,28,29,30],[]⟩,⟨[2,0,1],[],[27,28,29,30],[]⟩,⟨[],[],[23,24,25,26,28],[]⟩,⟨[],[],[23,24,25,26,27],[]⟩,⟨[4,5],[],[23,24,25,26],[]⟩,⟨[6,4,5],[],[23,24,25,26],[]⟩,⟨[3,2,0,1,7,6,4,5],[],[],[]⟩])],[(100006,R_dcmp.c100006r),(10,R_dcmp.c10r),(8,R_dcmp.c8r)],[],tab_eqs⟩
theorem R_dcmp.eq (x_:dens R_dcmp.ce.params):den R_dcmp.G Try.f125 R_dcmp.ce.params R_dcmp.ce.res x_ = R_dcmp.ce.F x_:=by kernel_rfl
theorem R_dcmp.p0:PcA R_dcmp.G Try.f125 0 :=
 loop_ok (s:=R_dcmp.c100006r) (by kernel_rfl) (by kernel_rfl) (loops_of (sh:=R_dcmp.c100006s) (I:=fun x_ s_=>(x_.1,x_.2.1,x_.2.2.1,s_,())) (fun x_=>rfl) (fun ρ x_ s_ k_=>(nat_br (nat_bnd fun _=>(nat_br nat_leaf (nat_bnd fun _=>(nat_br nat_leaf nat_leaf)))) nat_leaf)) (fun ρ x_ t k=>(nat_sel (fun _=>(by kernel_rfl)) (fun _=>(by kernel_rfl)))) (fun x_ s=>by kernel_rfl))
theorem R_dcmp.p1:PcA R_dcmp.G Try.f125 1 :=
 region_ok (s:=R_dcmp.c8r) (by kernel_rfl) (by kernel_rfl) (sums_of (sh:=R_dcmp.c8s) (fun ρ x_ k_=>(nat_bnd fun _=>(nat_bnd fun _=>nat_leaf))) (fun ρ x_ t k=>(by kernel_rfl)) (fun x_=>by kernel_rfl))
theorem R_dcmp.p2:PcA R_dcmp.G Try.f125 2 :=
 region_ok (s:=R_dcmp.c10r) (by kernel_rfl) (by kernel_rfl) (sums_of (sh:=R_dcmp.c10s) (fun ρ x_ k_=>(nat_bnd fun _=>(nat_bnd fun _=>nat_leaf))) (fun ρ x_ t k=>(by kernel_rfl)) (fun x_=>by kernel_rfl))
theorem R_dcmp.ok:CalleeOk Try.prog 125 R_dcmp.ce:=fn_ok (G:=R_dcmp.G) tab_ok mixed Try.func125 ⟨fns_nil,mfns_nil,tab_eqs_ok⟩ (m:=3) (by kernel_rfl) ⟨⟨⟨trivial,R_dcmp.p0⟩,R_dcmp.p1⟩,R_dcmp.p2⟩ (by kernel_rfl) R_dcmp.eq
def R_dsub.c228677 {ρ:Type} (b:List Int) (i:Int) (x:Int) (k_:Int → Option ρ):Option ρ :=
 br (decide (i < (↑(List.length b):Int)))
 (bnd (idx b i) fun y =>
 k_ (IntKind.wrap IntKind.i64 (x - y)))
 (k_ x)
def R_dsub.c228677s:Shape:=⟨[(0,tb36),(1,tb36),(4,tb36),(5,tb20),(6,tb5),(7,tb5),(8,tb5)],[(5,tb50)]⟩
def R_dsub.c228677x0:Shape:=R_dsub.c228677s
def R_dsub.c228677r:Ck:=Ck.of (T:=Int) R_dsub.c228677s (fun ρ x_ k_=>R_dsub.c228677 x_.2.1 x_.2.2.2.2.1 x_.2.2.2.2.2.1 k_) (fun ρ x_ r_ k_=>k_ 0 (Shape.inj R_dsub.c228677x0 (x_.1,x_.2.1,x_.2.2.1,x_.2.2.2.1,x_.2.2.2.2.1,r_,x_.2.2.2.2.2.2)))
def R_dsub.c240967 {ρ:Type} (c:Int) (x:Int) (k_:Int×Int → Option ρ):Option ρ :=
 br (decide (x < (0:Int)))
 (k_ ((1:Int),(IntKind.wrap IntKind.i64 (x + (10000:Int)))))
 (k_ (c,x))
def R_dsub.c240967s:Shape:=R_dsub.c228677s
def R_dsub.c240967x0:Shape:=R_dsub.c228677s
def R_dsub.c240967r:Ck:=Ck.of (T:=Int×Int) R_dsub.c240967s (fun ρ x_ k_=>R_dsub.c240967 x_.2.2.2.1 x_.2.2.2.2.2.1 k_) (fun ρ x_ r_ k_=>k_ 0 (Shape.inj R_dsub.c240967x0 (x_.1,x_.2.1,x_.2.2.1,r_.1,x_.2.2.2.2.1,r_.2,x_.2.2.2.2.2.2)))
def R_dsub.c100004 {ρ:Type} (a:List Int) (b:List Int) (c:Int) (i:Int) (out:List Int) (k_:(Int×Int×(List Int)) ⊕ (Int×Int×(List Int)) → Option ρ):Option ρ :=
 br (decide (i < (↑(List.length a):Int)))
 (bnd (idx a i) fun y =>
 bnd (W.R_dsub.c228677 b i (IntKind.wrap IntKind.i64 (y - c)) some) fun y_1 =>
 bnd (W.R_dsub.c240967 (0:Int) y_1 some) fun y_2 =>
 bnd (okIf (decide ((List.length out + (1:Nat)) * (8:Nat) ≤ (140737488355328:Nat)) && decide (List.length out + (1:Nat) ≤ (140737488355328:Nat)))) fun y_3 =>
 k_ (.inl ((Prod.fst y_2),(IntKind.wrap IntKind.i64 (i + (1:Int))),(out ++ [Prod.snd y_2]))))
 (k_ (.inr (c,i,out)))
def R_dsub.c100004s:Shape:=⟨[(0,tb36),(1,tb36),(4,tb36),(5,tb20),(6,tb5),(7,tb5)],[(5,tb50)]⟩
def R_dsub.c100004x0:Shape:=R_dsub.c100004s
def R_dsub.c100004r:Ck:=Ck.ofLoop (S:=Int×Int×(List Int)) (T:=Int×Int×(List Int)) R_dsub.c100004s (fun x_=>(x_.2.2.2.1,x_.2.2.2.2.1,x_.2.2.2.2.2.1)) (fun ρ x_ s_ k_=>R_dsub.c100004 x_.1 x_.2.1 s_.1 s_.2.1 s_.2.2 k_) (fun ρ x_ r_ k_=>k_ 2 (Shape.inj R_dsub.c100004x0 (x_.1,x_.2.1,x_.2.2.1,r_.1,r_.2.1,r_.2.2,())))
def R_dsub (a:List Int) (b:List Int):Option (List Int) :=
 bnd (iter (fun s ↦ W.R_dsub.c100004 a b (Prod.fst s) (Prod.fst (Prod.snd s)) (Prod.snd (Prod.snd s)) some) ((0:Int),(0:Int),[])) fun y =>
 some (Prod.snd (Prod.snd y))
def R_dsub.ce:Go.Ql.Callee:=⟨[(.sl (.int .i64)),(.sl (.int .i64))],[(.sl (.int .i64))],fun x_=>R_dsub x_.1 x_.2⟩
def R_dsub.G:Env:=⟨40,tab,[],[0,1,4,5,6,7,8,12,24,32],[5],[],[(100004,R_dsub.c100004r),(240967,R_dsub.c240967r),(228677,R_dsub.c228677r)],[],tab_eqs⟩
theorem R_dsub.eq (x_:dens R_dsub.ce.params):den R_dsub.G Try.f126 R_dsub.ce.params R_dsub.ce.res x_ = R_dsub.ce.F x_:=by kernel_rfl
theorem R_dsub.p0:PcA R_dsub.G Try.f126 0 :=
 loop_ok (s:=R_dsub.c100004r) (by kernel_rfl) (by kernel_rfl) (loops_of (sh:=R_dsub.c100004s) (I:=fun x_ s_=>(x_.1,x_.2.1,x_.2.2.1,s_.1,s_.2.1,s_.2.2,())) (fun x_=>rfl) (fun ρ x_ s_ k_=>(nat_br (nat_bnd fun _=>(nat_bnd fun _=>(nat_bnd fun _=>(nat_bnd fun _=>nat_leaf)))) nat_leaf)) (fun ρ x_ t k=>(by kernel_rfl)) (fun x_ s=>by kernel_rfl))
theorem R_dsub.p1:PcA R_dsub.G Try.f126 1 :=
 join_ok (s:=R_dsub.c228677r) (by kernel_rfl) (by kernel_rfl) (sums_of (sh:=R_dsub.c228677s) (fun ρ x_ k_=>(nat_br (nat_bnd fun _=>nat_leaf) nat_leaf)) (fun ρ x_ t k=>(by kernel_rfl)) (fun x_=>by kernel_rfl))
theorem R_dsub.p2:PcA R_dsub.G Try.f126 2 :=
 join_ok (s:=R_dsub.c240967r) (by kernel_rfl) (by kernel_rfl) (sums_of (sh:=R_dsub.c240967s) (fun ρ x_ k_=>(nat_br nat_leaf nat_leaf)) (fun ρ x_ t k=>(by kernel_rfl)) (fun x_=>by kernel_rfl))
theorem R_dsub.ok:CalleeOk Try.prog 126 R_dsub.ce:=fn_ok (G:=R_dsub.G) tab_ok mixed Try.func126 ⟨fns_nil,mfns_nil,tab_eqs_ok⟩ (m:=3) (by kernel_rfl) ⟨⟨⟨trivial,R_dsub.p0⟩,R_dsub.p1⟩,R_dsub.p2⟩ (by kernel_rfl) R_dsub.eq
def R_ZAdd.c6 {ρ:Type} (a0:Bool) (a1:List Int) (b1:List Int) (k_:(Bool)×(List Int) → Option ρ):Option ρ :=
 bnd (W.R_dadd a1 b1) fun y =>
 bnd (W.R_zmade a0 y) fun y_1 =>
 k_ ((Prod.fst y_1),(Prod.snd y_1))
def R_ZAdd.c6s:Shape:=⟨[(0,tb102),(1,tb102),(2,tb2),(3,tb12),(4,tb6)],[(2,tb98),(3,tb98),(4,tb98)]⟩
def R_ZAdd.c6x0:Shape:=R_ZAdd.c6s
def R_ZAdd.c6r:Ck:=Ck.of (T:=(Bool)×(List Int)) R_ZAdd.c6s (fun ρ x_ k_=>R_ZAdd.c6 x_.2.2.1 x_.2.2.2.1 x_.2.2.2.2.2.1 k_) (fun ρ x_ r_ k_=>k_ 0 (Shape.inj R_ZAdd.c6x0 (x_.1,x_.2.1,x_.2.2.1,x_.2.2.2.1,x_.2.2.2.2.1,x_.2.2.2.2.2.1,r_.1,r_.2,())))
def R_ZAdd.c8 {ρ:Type} (a0:Bool) (a1:List Int) (b1:List Int) (k_:(Bool)×(List Int) → Option ρ):Option ρ :=
 bnd (W.R_dsub a1 b1) fun y =>
 bnd (W.R_zmade a0 y) fun y_1 =>
 k_ ((Prod.fst y_1),(Prod.snd y_1))
def R_ZAdd.c8s:Shape:=R_ZAdd.c6s
def R_ZAdd.c8x0:Shape:=R_ZAdd.c6s
def R_ZAdd.c8r:Ck:=Ck.of (T:=(Bool)×(List Int)) R_ZAdd.c8s (fun ρ x_ k_=>R_ZAdd.c8 x_.2.2.1 x_.2.2.2.1 x_.2.2.2.2.2.1 k_) (fun ρ x_ r_ k_=>k_ 0 (Shape.inj R_ZAdd.c8x0 (x_.1,x_.2.1,x_.2.2.1,x_.2.2.2.1,x_.2.2.2.2.1,x_.2.2.2.2.2.1,r_.1,r_.2,())))
def R_ZAdd.c9 {ρ:Type} (a1:List Int) (b0:Bool) (b1:List Int) (k_:(Bool)×(List Int) → Option ρ):Option ρ :=
 bnd (W.R_dsub b1 a1) fun y =>
 bnd (W.R_zmade b0 y) fun y_1 =>
 k_ ((Prod.fst y_1),(Prod.snd y_1))
def R_ZAdd.c9s:Shape:=R_ZAdd.c6s
def R_ZAdd.c9x0:Shape:=R_ZAdd.c6s
def R_ZAdd.c9r:Ck:=Ck.of (T:=(Bool)×(List Int)) R_ZAdd.c9s (fun ρ x_ k_=>R_ZAdd.c9 x_.2.2.2.1 x_.2.2.2.2.1 x_.2.2.2.2.2.1 k_) (fun ρ x_ r_ k_=>k_ 0 (Shape.inj R_ZAdd.c9x0 (x_.1,x_.2.1,x_.2.2.1,x_.2.2.2.1,x_.2.2.2.2.1,x_.2.2.2.2.2.1,r_.1,r_.2,())))
def R_ZAdd (a:(Bool)×(List Int)) (b:(Bool)×(List Int)):Option ((Bool)×(List Int)) :=
 br ((↑(List.length (Prod.snd a)):Int) == (0:Int))
 (some (Prod.fst b,Prod.snd b))
 (br ((↑(List.length (Prod.snd b)):Int) == (0:Int))
 (some (Prod.fst a,Prod.snd a))
 (br (Prod.fst a == Prod.fst b)
 (bnd (W.R_ZAdd.c6 (Prod.fst a) (Prod.snd a) (Prod.snd b) some) fun y =>
 some (Prod.fst y,Prod.snd y))
 (bnd (W.R_dcmp (Prod.snd a) (Prod.snd b)) fun y_1 =>
 br (decide (y_1 ≥ (0:Int)))
 (bnd (W.R_ZAdd.c8 (Prod.fst a) (Prod.snd a) (Prod.snd b) some) fun y_2 =>
 some (Prod.fst y_2,Prod.snd y_2))
 (bnd (W.R_ZAdd.c9 (Prod.snd a) (Prod.fst b) (Prod.snd b) some) fun y_3 =>
 some (Prod.fst y_3,Prod.snd y_3)))))
def R_ZAdd.ce:Go.Ql.Callee:=⟨[(.st (.pair .bool (.sl (.int .i64)))),(.st (.pair .bool (.sl (.int .i64))))],[(.st (.pair .bool (.sl (.int .i64))))],fun x_=>R_ZAdd x_.1 x_.2⟩
def R_ZAdd.G:Env:=⟨50,tab,[(124,R_dadd.ce),(95,R_zmade.ce),(125,R_dcmp.ce),(126,R_dsub.ce)],[0,1,2,3,4,8,13,19,33],[],[(9,[⟨[],[],[44,45,46,47,48],[]⟩,⟨[0],[],[44,45,46,47,48],[]⟩,⟨[],[],[42,43,46,47],[]⟩,⟨[2],[],[42,43,46,47],[]⟩,⟨[],[],[42,43,44,45],[]⟩,⟨[4],[],[42,43,44,45],[]⟩,⟨[3,2,5,4],[],[42,43],[]⟩,⟨[1,0,6,3,2,5,4],[],[],[]⟩,⟨[7,1,0,6,3,2,5,4],[4],[],[]⟩]),
 (8,[⟨[],[],[36,37,38,39,40],[]⟩,⟨[0],[],[36,37,38,39,40],[]⟩,⟨[],[],[34,35,38,39],[]⟩,⟨[2],[],[34,35,38,39],[]⟩,⟨[],[],[34,35,36,37],[]⟩,⟨[4],[],[34,35,36,37],[]⟩,⟨[3,2,5,4],[],[34,35],[]⟩,⟨[1,0,6,3,2,5,4],[],[],[]⟩,⟨[7,1,0,6,3,2,5,4],[4],[],[]⟩]),
 (6,[⟨[],[],[22,23,24,25,26],[]⟩,⟨[0],[],[22,23,24,25,26],[]⟩,⟨[],[],[20,21,24,25],[]⟩,⟨[2],[],[20,21,24,25],[]⟩,⟨[],[],[20,21,22,23],[]⟩,⟨[4],[],[20,21,22,23],[]⟩,⟨[3,2,5,4],[],[20,21],[]⟩,⟨[1,0,6,3,2,5,4],[],[],[]⟩,⟨[7,1,0,6,3,2,5,4],[4],[],[]⟩])],[(9,R_ZAdd.c9r),(8,R_ZAdd.c8r),(6,R_ZAdd.c6r)],[],tab_eqs⟩
theorem R_ZAdd.eq (x_:dens R_ZAdd.ce.params):den R_ZAdd.G Try.f97 R_ZAdd.ce.params R_ZAdd.ce.res x_ = R_ZAdd.ce.F x_:=by kernel_rfl
theorem R_ZAdd.p0:PcA R_ZAdd.G Try.f97 0 :=
 region_ok (s:=R_ZAdd.c6r) (by kernel_rfl) (by kernel_rfl) (sums_of (sh:=R_ZAdd.c6s) (fun ρ x_ k_=>(nat_bnd fun _=>(nat_bnd fun _=>nat_leaf))) (fun ρ x_ t k=>(by kernel_rfl)) (fun x_=>by kernel_rfl))
theorem R_ZAdd.p1:PcA R_ZAdd.G Try.f97 1 :=
 region_ok (s:=R_ZAdd.c8r) (by kernel_rfl) (by kernel_rfl) (sums_of (sh:=R_ZAdd.c8s) (fun ρ x_ k_=>(nat_bnd fun _=>(nat_bnd fun _=>nat_leaf))) (fun ρ x_ t k=>(by kernel_rfl)) (fun x_=>by kernel_rfl))
theorem R_ZAdd.p2:PcA R_ZAdd.G Try.f97 2 :=
 region_ok (s:=R_ZAdd.c9r) (by kernel_rfl) (by kernel_rfl) (sums_of (sh:=R_ZAdd.c9s) (fun ρ x_ k_=>(nat_bnd fun _=>(nat_bnd fun _=>nat_leaf))) (fun ρ x_ t k=>(by kernel_rfl)) (fun x_=>by kernel_rfl))
theorem R_ZAdd.ok:CalleeOk Try.prog 97 R_ZAdd.ce:=fn_ok (G:=R_ZAdd.G) tab_ok mixed Try.func97 ⟨(fns_cons R_dadd.ok (fns_cons R_zmade.ok (fns_cons R_dcmp.ok (fns_cons R_dsub.ok fns_nil)))),mfns_nil,tab_eqs_ok⟩ (m:=3) (by kernel_rfl) ⟨⟨⟨trivial,R_ZAdd.p0⟩,R_ZAdd.p1⟩,R_ZAdd.p2⟩ (by kernel_rfl) R_ZAdd.eq
def R_zodd.c1 {ρ:Type} (a1:List Int) (k_:Bool → Option ρ):Option ρ :=
 br (decide ((↑(List.length a1):Int) > (0:Int)))
 (bnd (idx a1 (0:Int)) fun y =>
 k_ (Int.tmod y (2:Int) == (1:Int)))
 (k_ false)
def R_zodd.c1s:Shape:=⟨[(0,tb102),(1,tb1),(2,tb7)],[(1,tb98)]⟩
def R_zodd.c1x0:Shape:=R_zodd.c1s
def R_zodd.c1r:Ck:=Ck.of (T:=Bool) R_zodd.c1s (fun ρ x_ k_=>R_zodd.c1 x_.2.2.2.1 k_) (fun ρ x_ r_ k_=>k_ 0 (Shape.inj R_zodd.c1x0 (x_.1,r_,x_.2.2)))
def R_zodd (a:(Bool)×(List Int)):Option (Bool) :=
 bnd (W.R_zodd.c1 (Prod.snd a) some) fun y =>
 some y
def R_zodd.ce:Go.Ql.Callee:=⟨[(.st (.pair .bool (.sl (.int .i64))))],[.bool],fun x_=>R_zodd x_⟩
def R_zodd.G:Env:=⟨15,tab,[],[0,1,2],[],[],[(1,R_zodd.c1r)],[],tab_eqs⟩
theorem R_zodd.eq (x_:dens R_zodd.ce.params):den R_zodd.G Try.f127 R_zodd.ce.params R_zodd.ce.res x_ = R_zodd.ce.F x_:=by kernel_rfl
theorem R_zodd.p0:PcA R_zodd.G Try.f127 0 :=
 region_ok (s:=R_zodd.c1r) (by kernel_rfl) (by kernel_rfl) (sums_of (sh:=R_zodd.c1s) (fun ρ x_ k_=>(nat_br (nat_bnd fun _=>nat_leaf) nat_leaf)) (fun ρ x_ t k=>(by kernel_rfl)) (fun x_=>by kernel_rfl))
theorem R_zodd.ok:CalleeOk Try.prog 127 R_zodd.ce:=fn_ok (G:=R_zodd.G) tab_ok mixed Try.func127 ⟨fns_nil,mfns_nil,tab_eqs_ok⟩ (m:=1) (by kernel_rfl) ⟨trivial,R_zodd.p0⟩ (by kernel_rfl) R_zodd.eq
def R_zhalf.c100004 {ρ:Type} (c:Int) (i:Int) (a1:List Int) (t10:List Int) (k_:(Int×Int×(List Int)) ⊕ (Int×Int×(List Int)) → Option ρ):Option ρ :=
 br (decide (i ≥ (0:Int)))
 (bnd (idx a1 i) fun y =>
 bnd (inR (List.length t10) i) fun y_1 =>
 bnd (idx t10 i) fun y_2 =>
 k_ (.inl ((Int.tmod (IntKind.wrap IntKind.i64 (IntKind.wrap IntKind.i64 (c * (10000:Int)) + y)) (2:Int)),(IntKind.wrap IntKind.i64 (i - (1:Int))),(List.set t10 (Int.toNat i) (IntKind.wrap IntKind.i64 (Int.tdiv (IntKind.wrap IntKind.i64 (IntKind.wrap IntKind.i64 (c * (10000:Int)) + y)) (2:Int)))))))
 (k_ (.inr (c,i,t10)))
def R_zhalf.c100004s:Shape:=⟨[(0,tb102),(1,tb1),(2,tb2),(3,tb7),(4,tb49),(5,tb5),(6,tb5)],[(1,tb98),(2,tb98),(10,tb50)]⟩
def R_zhalf.c100004x0:Shape:=R_zhalf.c100004s
def R_zhalf.c100004r:Ck:=Ck.ofLoop (S:=Int×Int×(List Int)) (T:=Int×Int×(List Int)) R_zhalf.c100004s (fun x_=>(x_.2.2.1,x_.2.2.2.1,x_.2.2.2.2.2.2.2.2.1)) (fun ρ x_ s_ k_=>R_zhalf.c100004 s_.1 s_.2.1 x_.2.2.2.2.2.1 s_.2.2 k_) (fun ρ x_ r_ k_=>k_ 2 (Shape.inj R_zhalf.c100004x0 (x_.1,x_.2.1,r_.1,r_.2.1,x_.2.2.2.2.1,x_.2.2.2.2.2.1,x_.2.2.2.2.2.2.1,x_.2.2.2.2.2.2.2.1,r_.2.2,())))
def R_zhalf (a:(Bool)×(List Int)):Option (((Bool)×(List Int))×(Bool)) :=
 bnd (okIf (decide ((0:Int) ≤ (↑(List.length (Prod.snd a)):Int)) && decide ((↑(List.length (Prod.snd a)):Int) ≤ (↑(List.length (Prod.snd a)):Int)) && decide ((↑(List.length (Prod.snd a)):Int) * (↑(8:Nat):Int) ≤ (140737488355328:Int)) && decide ((↑(List.length (Prod.snd a)):Int) ≤ (140737488355328:Int)))) fun y =>
 bnd (iter (fun s ↦ W.R_zhalf.c100004 (Prod.fst s) (Prod.fst (Prod.snd s)) (Prod.snd a) (Prod.snd (Prod.snd s)) some) ((0:Int),IntKind.wrap IntKind.i64 ((↑(List.length (Prod.snd a)):Int) - (1:Int)),List.replicate (Int.toNat (↑(List.length (Prod.snd a)):Int)) (0:Int))) fun y_1 =>
 bnd (W.R_zmade (Prod.fst a) (Prod.snd (Prod.snd y_1))) fun y_2 =>
 some ((Prod.fst y_2,Prod.snd y_2),decide (Prod.fst y_1 > (0:Int)))
def R_zhalf.ce:Go.Ql.Callee:=⟨[(.st (.pair .bool (.sl (.int .i64))))],[(.st (.pair .bool (.sl (.int .i64)))),.bool],fun x_=>R_zhalf x_⟩
def R_zhalf.G:Env:=⟨40,tab,[(95,R_zmade.ce)],[0,1,2,3,4,5,6,16],[10],[],[(100004,R_zhalf.c100004r)],[],tab_eqs⟩
theorem R_zhalf.eq (x_:dens R_zhalf.ce.params):den R_zhalf.G Try.f128 R_zhalf.ce.params R_zhalf.ce.res x_ = R_zhalf.ce.F x_:=by kernel_rfl
theorem R_zhalf.p0:PcA R_zhalf.G Try.f128 0 :=
 loop_ok (s:=R_zhalf.c100004r) (by kernel_rfl) (by kernel_rfl) (loops_of (sh:=R_zhalf.c100004s) (I:=fun x_ s_=>(x_.1,x_.2.1,s_.1,s_.2.1,x_.2.2.2.2.1,x_.2.2.2.2.2.1,x_.2.2.2.2.2.2.1,x_.2.2.2.2.2.2.2.1,s_.2.2,())) (fun x_=>rfl) (fun ρ x_ s_ k_=>(nat_br (nat_bnd fun _=>(nat_bnd fun _=>(nat_bnd fun _=>nat_leaf))) nat_leaf)) (fun ρ x_ t k=>(by kernel_rfl)) (fun x_ s=>by kernel_rfl))
theorem R_zhalf.ok:CalleeOk Try.prog 128 R_zhalf.ce:=fn_ok (G:=R_zhalf.G) tab_ok mixed Try.func128 ⟨(fns_cons R_zmade.ok fns_nil),mfns_nil,tab_eqs_ok⟩ (m:=1) (by kernel_rfl) ⟨trivial,R_zhalf.p0⟩ (by kernel_rfl) R_zhalf.eq
abbrev tb107:SD:=.one (.aptr 1 0)
def R_rleast.c100003 {ρ:Type} (i:Int) (a_1:List ((List ((Bool)×(List Int)))×Int)) (t2:List ((List ((Bool)×(List Int)))×Int)) (k_:Int ⊕ ((Int×(List ((List ((Bool)×(List Int)))×Int))) ⊕ Int) → Option ρ):Option ρ :=
 br (decide (i < (8:Int)))
 (bnd (inR (List.length a_1) (0:Int)) fun y =>
 bnd (okIf (decide ((0:Ty.den (Ty.int IntKind.i64)) ≤ i) && decide (i < (↑(8:Nat):Int)))) fun y_1 =>
 bnd (idx a_1 (0:Int)) fun y_2 =>
 bnd (idx (Prod.fst y_2) i) fun y_3 =>
 bnd (W.R_zodd y_3) fun y_4 =>
 br y_4
 (bnd (idx a_1 (0:Int)) fun y_5 =>
 bnd (idx t2 (0:Int)) fun y_6 =>
 k_ (.inr (.inl (i,(List.set t2 (0:Nat) y_5)))))
 (k_ (.inl (IntKind.wrap IntKind.i64 (i + (1:Int))))))
 (k_ (.inr (.inr i)))
def R_rleast.c100003s:Shape:=⟨[(0,tb100),(1,tb107),(2,tb104),(3,tb5)],[(1,tb106),(2,tb106)]⟩
def R_rleast.c100003x0:Shape:=R_rleast.c100003s
def R_rleast.c100003x1:Shape:=R_rleast.c100003s
def R_rleast.c100003r:Ck:=Ck.ofLoop (S:=Int) (T:=(Int×(List ((List ((Bool)×(List Int)))×Int))) ⊕ Int) R_rleast.c100003s (fun x_=>x_.2.1) (fun ρ x_ s_ k_=>R_rleast.c100003 s_ x_.2.2.1 x_.2.2.2.1 k_) (fun ρ x_ r_ k_=>sel r_ (fun r_=>k_ 1 (Shape.inj R_rleast.c100003x0 (x_.1,r_.1,x_.2.2.1,r_.2,()))) (fun r_=>k_ 4 (Shape.inj R_rleast.c100003x1 (x_.1,r_,x_.2.2))))
def R_rleast.c100008 {ρ:Type} (i_1:Int) (a_1:List ((List ((Bool)×(List Int)))×Int)) (k_:(Int×(List ((List ((Bool)×(List Int)))×Int))) ⊕ (Int×(List ((List ((Bool)×(List Int)))×Int))) → Option ρ):Option ρ :=
 br (decide (i_1 < (8:Int)))
 (bnd (inR (List.length a_1) (0:Int)) fun y =>
 bnd (okIf (decide ((0:Ty.den (Ty.int IntKind.i64)) ≤ i_1) && decide (i_1 < (↑(8:Nat):Int)))) fun y_1 =>
 bnd (idx a_1 (0:Int)) fun y_2 =>
 bnd (idx (Prod.fst y_2) i_1) fun y_3 =>
 bnd (W.R_zhalf y_3) fun y_4 =>
 bnd (inR (List.length a_1) (0:Int)) fun y_5 =>
 bnd (okIf (decide ((0:Ty.den (Ty.int IntKind.i64)) ≤ i_1) && decide (i_1 < (↑(8:Nat):Int)))) fun y_6 =>
 bnd (idx a_1 (0:Int)) fun y_7 =>
 bnd (idx (Prod.fst y_7) i_1) fun y_8 =>
 k_ (.inl ((IntKind.wrap IntKind.i64 (i_1 + (1:Int))),(List.set a_1 (0:Nat) (List.set (Prod.fst y_7) (Int.toNat i_1) (Prod.fst y_4),Prod.snd y_7)))))
 (k_ (.inr (i_1,a_1)))
def R_rleast.c100008s:Shape:=⟨[(0,tb100),(1,tb107),(2,tb104),(3,tb5),(4,tb5)],[(1,tb106),(2,tb106)]⟩
def R_rleast.c100008x0:Shape:=R_rleast.c100008s
def R_rleast.c100008r:Ck:=Ck.ofLoop (S:=Int×(List ((List ((Bool)×(List Int)))×Int))) (T:=Int×(List ((List ((Bool)×(List Int)))×Int))) R_rleast.c100008s (fun x_=>(x_.2.2.1,x_.2.2.2.1)) (fun ρ x_ s_ k_=>R_rleast.c100008 s_.1 s_.2 k_) (fun ρ x_ r_ k_=>k_ 6 (Shape.inj R_rleast.c100008x0 (x_.1,x_.2.1,r_.1,r_.2,x_.2.2.2.2)))
def R_rleast.c100001 {ρ:Type} (a_1:List ((List ((Bool)×(List Int)))×Int)) (t2:List ((List ((Bool)×(List Int)))×Int)) (k_:(List ((List ((Bool)×(List Int)))×Int)) ⊕ (((List ((List ((Bool)×(List Int)))×Int))×(List ((List ((Bool)×(List Int)))×Int))) ⊕ (List ((List ((Bool)×(List Int)))×Int))) → Option ρ):Option ρ :=
 bnd (inR (List.length a_1) (0:Int)) fun y =>
 bnd (idx a_1 (0:Int)) fun y_1 =>
 br (decide (Prod.snd y_1 > (0:Int)))
 (bnd (iter (fun s ↦ W.R_rleast.c100003 s a_1 t2 some) (0:Int)) fun y_2 =>
 sel y_2
 (fun u=>k_ (.inr (.inl (a_1,(Prod.snd u)))))
 (fun v=>bnd (iter (fun s ↦ W.R_rleast.c100008 (Prod.fst s) (Prod.snd s) some) ((0:Int),a_1)) fun y_3 =>
 bnd (idx (Prod.snd y_3) (0:Int)) fun y_4 =>
 bnd (W.R_RZero y_4) fun y_5 =>
 br y_5
 (bnd (idx t2 (0:Int)) fun y_6 =>
 k_ (.inr (.inl ((Prod.snd y_3),(List.set t2 (0:Nat) (List.replicate (8:Nat) (false,[]),(0:Int)))))))
 (bnd (inR (List.length (Prod.snd y_3)) (0:Int)) fun y_7 =>
 bnd (idx (Prod.snd y_3) (0:Int)) fun y_8 =>
 bnd (inR (List.length (Prod.snd y_3)) (0:Int)) fun y_9 =>
 bnd (idx (Prod.snd y_3) (0:Int)) fun y_10 =>
 k_ (.inl (List.set (Prod.snd y_3) (0:Nat) (Prod.fst y_10,IntKind.wrap IntKind.i64 (Prod.snd y_8 - (1:Int))))))))
 (k_ (.inr (.inr a_1)))
def R_rleast.c100001s:Shape:=⟨[(0,tb100),(1,tb107),(2,tb104)],[(1,tb106),(2,tb106)]⟩
def R_rleast.c100001x0:Shape:=R_rleast.c100001s
def R_rleast.c100001x1:Shape:=R_rleast.c100001s
def R_rleast.c100001r:Ck:=Ck.ofLoop (S:=List ((List ((Bool)×(List Int)))×Int)) (T:=((List ((List ((Bool)×(List Int)))×Int))×(List ((List ((Bool)×(List Int)))×Int))) ⊕ (List ((List ((Bool)×(List Int)))×Int))) R_rleast.c100001s (fun x_=>x_.2.1) (fun ρ x_ s_ k_=>R_rleast.c100001 s_ x_.2.2.1 k_) (fun ρ x_ r_ k_=>sel r_ (fun r_=>k_ 1 (Shape.inj R_rleast.c100001x0 (x_.1,r_.1,r_.2,()))) (fun r_=>k_ 2 (Shape.inj R_rleast.c100001x1 (x_.1,r_,x_.2.2))))
def R_rleast (a:(List ((Bool)×(List Int)))×Int):Option ((List ((Bool)×(List Int)))×Int) :=
 bnd (iter (fun s ↦ W.R_rleast.c100001 s [(List.replicate (8:Nat) (false,[]),(0:Int))] some) [a]) fun y =>
 sel y
 (fun u=>bnd (idx (Prod.snd u) (0:Int)) fun y_1 =>
 some y_1)
 (fun v=>bnd (idx v (0:Int)) fun y_2 =>
 some y_2)
def R_rleast.ce:Go.Ql.Callee:=⟨[(.st (.pair (.ar 8 (.st (.pair .bool (.sl (.int .i64))))) (.int .i64)))],[(.st (.pair (.ar 8 (.st (.pair .bool (.sl (.int .i64))))) (.int .i64)))],fun x_=>R_rleast x_⟩
def R_rleast.G:Env:=⟨41,tab,[(127,R_zodd.ce),(128,R_zhalf.ce),(48,R_RZero.ce)],[0,1,2,3,4,7,9,16,19,34],[1,2,35],[],[(100001,R_rleast.c100001r),(100008,R_rleast.c100008r),(100003,R_rleast.c100003r)],[],tab_eqs⟩
theorem R_rleast.eq (x_:dens R_rleast.ce.params):den R_rleast.G Try.f98 R_rleast.ce.params R_rleast.ce.res x_ = R_rleast.ce.F x_:=by kernel_rfl
theorem R_rleast.p0:PcA R_rleast.G Try.f98 0 :=
 loop_ok (s:=R_rleast.c100001r) (by kernel_rfl) (by kernel_rfl) (loops_of (sh:=R_rleast.c100001s) (I:=fun x_ s_=>(x_.1,s_,x_.2.2)) (fun x_=>rfl) (fun ρ x_ s_ k_=>(nat_bnd fun _=>(nat_bnd fun _=>(nat_br (nat_bnd fun _=>(nat_sel (fun _=>nat_leaf) (fun _=>(nat_bnd fun _=>(nat_bnd fun _=>(nat_bnd fun _=>(nat_br (nat_bnd fun _=>nat_leaf) (nat_bnd fun _=>(nat_bnd fun _=>(nat_bnd fun _=>(nat_bnd fun _=>nat_leaf))))))))))) nat_leaf)))) (fun ρ x_ t k=>(nat_sel (fun _=>(by kernel_rfl)) (fun _=>(by kernel_rfl)))) (fun x_ s=>by kernel_rfl))
theorem R_rleast.p1:PcA R_rleast.G Try.f98 1 :=
 loop_ok (s:=R_rleast.c100003r) (by kernel_rfl) (by kernel_rfl) (loops_of (sh:=R_rleast.c100003s) (I:=fun x_ s_=>(x_.1,s_,x_.2.2)) (fun x_=>rfl) (fun ρ x_ s_ k_=>(nat_br (nat_bnd fun _=>(nat_bnd fun _=>(nat_bnd fun _=>(nat_bnd fun _=>(nat_bnd fun _=>(nat_br (nat_bnd fun _=>(nat_bnd fun _=>nat_leaf)) nat_leaf)))))) nat_leaf)) (fun ρ x_ t k=>(nat_sel (fun _=>(by kernel_rfl)) (fun _=>(by kernel_rfl)))) (fun x_ s=>by kernel_rfl))
theorem R_rleast.p2:PcA R_rleast.G Try.f98 2 :=
 loop_ok (s:=R_rleast.c100008r) (by kernel_rfl) (by kernel_rfl) (loops_of (sh:=R_rleast.c100008s) (I:=fun x_ s_=>(x_.1,x_.2.1,s_.1,s_.2,x_.2.2.2.2)) (fun x_=>rfl) (fun ρ x_ s_ k_=>(nat_br (nat_bnd fun _=>(nat_bnd fun _=>(nat_bnd fun _=>(nat_bnd fun _=>(nat_bnd fun _=>(nat_bnd fun _=>(nat_bnd fun _=>(nat_bnd fun _=>(nat_bnd fun _=>nat_leaf))))))))) nat_leaf)) (fun ρ x_ t k=>(by kernel_rfl)) (fun x_ s=>by kernel_rfl))
theorem R_rleast.ok:CalleeOk Try.prog 98 R_rleast.ce:=fn_ok (G:=R_rleast.G) tab_ok mixed Try.func98 ⟨(fns_cons R_zodd.ok (fns_cons R_zhalf.ok (fns_cons R_RZero.ok fns_nil))),mfns_nil,tab_eqs_ok⟩ (m:=3) (by kernel_rfl) ⟨⟨⟨trivial,R_rleast.p0⟩,R_rleast.p1⟩,R_rleast.p2⟩ (by kernel_rfl) R_rleast.eq
abbrev tb108:SD:=.one (.aptr 3 0)
def R_RAdd.c10 {ρ:Type} (i:Int) (a_1:List ((List ((Bool)×(List Int)))×Int)) (b_1:List ((List ((Bool)×(List Int)))×Int)) (k_:List ((List ((Bool)×(List Int)))×Int) → Option ρ):Option ρ :=
 bnd (inR (List.length a_1) (0:Int)) fun y =>
 bnd (okIf (decide ((0:Ty.den (Ty.int IntKind.i64)) ≤ i) && decide (i < (↑(8:Nat):Int)))) fun y_1 =>
 bnd (idx a_1 (0:Int)) fun y_2 =>
 bnd (idx (Prod.fst y_2) i) fun y_3 =>
 bnd (inR (List.length b_1) (0:Int)) fun y_4 =>
 bnd (okIf (decide ((0:Ty.den (Ty.int IntKind.i64)) ≤ i) && decide (i < (↑(8:Nat):Int)))) fun y_5 =>
 bnd (idx b_1 (0:Int)) fun y_6 =>
 bnd (idx (Prod.fst y_6) i) fun y_7 =>
 bnd (W.R_ZAdd y_3 y_7) fun y_8 =>
 bnd (inR (List.length a_1) (0:Int)) fun y_9 =>
 bnd (okIf (decide ((0:Ty.den (Ty.int IntKind.i64)) ≤ i) && decide (i < (↑(8:Nat):Int)))) fun y_10 =>
 bnd (idx a_1 (0:Int)) fun y_11 =>
 bnd (idx (Prod.fst y_11) i) fun y_12 =>
 k_ (List.set a_1 (0:Nat) (List.set (Prod.fst y_11) (Int.toNat i) y_8,Prod.snd y_11))
def R_RAdd.c10s:Shape:=⟨[(0,tb100),(1,tb100),(2,tb104),(3,tb108),(4,tb105),(5,tb5)],[(2,tb106),(3,tb106),(4,tb106)]⟩
def R_RAdd.c10x0:Shape:=R_RAdd.c10s
def R_RAdd.c10r:Ck:=Ck.of (T:=List ((List ((Bool)×(List Int)))×Int)) R_RAdd.c10s (fun ρ x_ k_=>R_RAdd.c10 x_.2.2.1 x_.2.2.2.1 x_.2.2.2.2.1 k_) (fun ρ x_ r_ k_=>k_ 0 (Shape.inj R_RAdd.c10x0 (x_.1,x_.2.1,x_.2.2.1,r_,x_.2.2.2.2)))
def R_RAdd.c100008 {ρ:Type} (i:Int) (a_1:List ((List ((Bool)×(List Int)))×Int)) (b_1:List ((List ((Bool)×(List Int)))×Int)) (k_:(Int×(List ((List ((Bool)×(List Int)))×Int))) ⊕ (Int×(List ((List ((Bool)×(List Int)))×Int))) → Option ρ):Option ρ :=
 br (decide (i < (8:Int)))
 (bnd (W.R_RAdd.c10 i a_1 b_1 some) fun y =>
 k_ (.inl ((IntKind.wrap IntKind.i64 (i + (1:Int))),y)))
 (k_ (.inr (i,a_1)))
def R_RAdd.c100008s:Shape:=R_RAdd.c10s
def R_RAdd.c100008x0:Shape:=R_RAdd.c10s
def R_RAdd.c100008r:Ck:=Ck.ofLoop (S:=Int×(List ((List ((Bool)×(List Int)))×Int))) (T:=Int×(List ((List ((Bool)×(List Int)))×Int))) R_RAdd.c100008s (fun x_=>(x_.2.2.1,x_.2.2.2.1)) (fun ρ x_ s_ k_=>R_RAdd.c100008 s_.1 s_.2 x_.2.2.2.2.1 k_) (fun ρ x_ r_ k_=>k_ 2 (Shape.inj R_RAdd.c100008x0 (x_.1,x_.2.1,r_.1,r_.2,x_.2.2.2.2)))
def R_RAdd (a:(List ((Bool)×(List Int)))×Int) (b:(List ((Bool)×(List Int)))×Int):Option ((List ((Bool)×(List Int)))×Int) :=
 bnd (W.R_RZero a) fun y =>
 br y
 (some b)
 (bnd (W.R_RZero b) fun y_1 =>
 br y_1
 (some a)
 (bnd (W.R_rto a (Prod.snd b)) fun y_2 =>
 bnd (W.R_rto b (Prod.snd y_2)) fun y_3 =>
 bnd (iter (fun s ↦ W.R_RAdd.c100008 (Prod.fst s) (Prod.snd s) [y_3] some) ((0:Int),[y_2])) fun y_4 =>
 bnd (idx (Prod.snd y_4) (0:Int)) fun y_5 =>
 bnd (W.R_RZero y_5) fun y_6 =>
 br y_6
 (some (List.replicate (8:Nat) (false,[]),(0:Int)))
 (bnd (idx (Prod.snd y_4) (0:Int)) fun y_7 =>
 bnd (W.R_rleast y_7) fun y_8 =>
 some y_8)))
def R_RAdd.ce:Go.Ql.Callee:=⟨[(.st (.pair (.ar 8 (.st (.pair .bool (.sl (.int .i64))))) (.int .i64))),(.st (.pair (.ar 8 (.st (.pair .bool (.sl (.int .i64))))) (.int .i64)))],[(.st (.pair (.ar 8 (.st (.pair .bool (.sl (.int .i64))))) (.int .i64)))],fun x_=>R_RAdd x_.1 x_.2⟩
def R_RAdd.G:Env:=⟨41,tab,[(48,R_RZero.ce),(96,R_rto.ce),(97,R_ZAdd.ce),(98,R_rleast.ce)],[0,1,2,3,4,5,7,10,21,37],[2,3,4,38],[(10,[⟨[],[],[25,26,27,28,29,30,31,32,33,34],[]⟩,⟨[],[],[24,26,29,30,31,32,34],[]⟩,⟨[],[],[24,25,29,30,31,32,34],[]⟩,⟨[2,1],[],[24,29,30,31,32,34],[]⟩,⟨[3,2,1],[],[24,29,30,31,32,34],[]⟩,⟨[],[],[24,25,26,27,28,30,34],[]⟩,⟨[],[],[24,25,26,27,28,29,34],[]⟩,⟨[6,5],[],[24,25,26,27,28,34],[]⟩,⟨[7,6,5],[],[24,25,26,27,28,34],[]⟩,⟨[4,3,2,1,8,7,6,5],[],[24,34],[]⟩,⟨[],[],[24,25,26,27,28,29,30,31,32,33],[]⟩,⟨[10,0,1,2,3,4,5,6,7,8,9],[],[],[]⟩,⟨[11,10,0,1,2,3,4,5,6,7,8,9],[2],[],[]⟩])],[(100008,R_RAdd.c100008r),(10,R_RAdd.c10r)],[],tab_eqs⟩
theorem R_RAdd.eq (x_:dens R_RAdd.ce.params):den R_RAdd.G Try.f62 R_RAdd.ce.params R_RAdd.ce.res x_ = R_RAdd.ce.F x_:=by kernel_rfl
theorem R_RAdd.p0:PcA R_RAdd.G Try.f62 0 :=
 loop_ok (s:=R_RAdd.c100008r) (by kernel_rfl) (by kernel_rfl) (loops_of (sh:=R_RAdd.c100008s) (I:=fun x_ s_=>(x_.1,x_.2.1,s_.1,s_.2,x_.2.2.2.2)) (fun x_=>rfl) (fun ρ x_ s_ k_=>(nat_br (nat_bnd fun _=>nat_leaf) nat_leaf)) (fun ρ x_ t k=>(by kernel_rfl)) (fun x_ s=>by kernel_rfl))
theorem R_RAdd.p1:PcA R_RAdd.G Try.f62 1 :=
 region_ok (s:=R_RAdd.c10r) (by kernel_rfl) (by kernel_rfl) (sums_of (sh:=R_RAdd.c10s) (fun ρ x_ k_=>(nat_bnd fun _=>(nat_bnd fun _=>(nat_bnd fun _=>(nat_bnd fun _=>(nat_bnd fun _=>(nat_bnd fun _=>(nat_bnd fun _=>(nat_bnd fun _=>(nat_bnd fun _=>(nat_bnd fun _=>(nat_bnd fun _=>(nat_bnd fun _=>(nat_bnd fun _=>nat_leaf)))))))))))))) (fun ρ x_ t k=>(by kernel_rfl)) (fun x_=>by kernel_rfl))
theorem R_RAdd.ok:CalleeOk Try.prog 62 R_RAdd.ce:=fn_ok (G:=R_RAdd.G) tab_ok mixed Try.func62 ⟨(fns_cons R_RZero.ok (fns_cons R_rto.ok (fns_cons R_ZAdd.ok (fns_cons R_rleast.ok fns_nil)))),mfns_nil,tab_eqs_ok⟩ (m:=2) (by kernel_rfl) ⟨⟨trivial,R_RAdd.p0⟩,R_RAdd.p1⟩ (by kernel_rfl) R_RAdd.eq
def R_ZNeg (a:(Bool)×(List Int)):Option ((Bool)×(List Int)) :=
 bnd (W.R_zmade (!Prod.fst a) (Prod.snd a)) fun y =>
 some (Prod.fst y,Prod.snd y)
def R_ZNeg.ce:Go.Ql.Callee:=⟨[(.st (.pair .bool (.sl (.int .i64))))],[(.st (.pair .bool (.sl (.int .i64))))],fun x_=>R_ZNeg x_⟩
def R_ZNeg.G:Env:=⟨9,tab,[(95,R_zmade.ce)],[0,1,2],[],[],[],[],tab_eqs⟩
theorem R_ZNeg.eq (x_:dens R_ZNeg.ce.params):den R_ZNeg.G Try.f99 R_ZNeg.ce.params R_ZNeg.ce.res x_ = R_ZNeg.ce.F x_:=by kernel_rfl
theorem R_ZNeg.ok:CalleeOk Try.prog 99 R_ZNeg.ce:=fn_ok (G:=R_ZNeg.G) tab_ok mixed Try.func99 ⟨(fns_cons R_zmade.ok fns_nil),mfns_nil,tab_eqs_ok⟩ (m:=0) (by kernel_rfl) trivial (by kernel_rfl) R_ZNeg.eq
def R_RTurn.c208197 {ρ:Type} (t1:Int) (k_:Int → Option ρ):Option ρ :=
 br (decide (t1 < (0:Int)))
 (k_ (IntKind.wrap IntKind.i64 (t1 + (16:Int))))
 (k_ t1)
def R_RTurn.c208197s:Shape:=⟨[(0,tb100),(1,tb5),(2,tb101),(4,tb105)],[(4,tb106)]⟩
def R_RTurn.c208197x0:Shape:=R_RTurn.c208197s
def R_RTurn.c208197r:Ck:=Ck.of (T:=Int) R_RTurn.c208197s (fun ρ x_ k_=>R_RTurn.c208197 x_.2.1 k_) (fun ρ x_ r_ k_=>k_ 0 (Shape.inj R_RTurn.c208197x0 (x_.1,r_,x_.2.2)))
def R_RTurn.c236872 {ρ:Type} (t1:Int) (a_1:(List ((Bool)×(List Int)))×Int) (i:Int) (out:List ((List ((Bool)×(List Int)))×Int)) (k_:List ((List ((Bool)×(List Int)))×Int) → Option ρ):Option ρ :=
 br (decide (Int.tmod (IntKind.wrap IntKind.i64 (i + t1)) (16:Int) < (8:Int)))
 (bnd (idx (Prod.fst a_1) i) fun y =>
 bnd (inR (List.length out) (0:Int)) fun y_1 =>
 bnd (okIf (decide ((0:Ty.den (Ty.int IntKind.i64)) ≤ Int.tmod (IntKind.wrap IntKind.i64 (i + t1)) (16:Int)) && decide (Int.tmod (IntKind.wrap IntKind.i64 (i + t1)) (16:Int) < (↑(8:Nat):Int)))) fun y_2 =>
 bnd (idx out (0:Int)) fun y_3 =>
 bnd (idx (Prod.fst y_3) (Int.tmod (IntKind.wrap IntKind.i64 (i + t1)) (16:Int))) fun y_4 =>
 k_ (List.set out (0:Nat) (List.set (Prod.fst y_3) (Int.toNat (Int.tmod (IntKind.wrap IntKind.i64 (i + t1)) (16:Int))) y,Prod.snd y_3)))
 (bnd (idx (Prod.fst a_1) i) fun y_5 =>
 bnd (W.R_ZNeg y_5) fun y_6 =>
 bnd (inR (List.length out) (0:Int)) fun y_7 =>
 bnd (okIf (decide ((0:Ty.den (Ty.int IntKind.i64)) ≤ IntKind.wrap IntKind.i64 (Int.tmod (IntKind.wrap IntKind.i64 (i + t1)) (16:Int) - (8:Int))) && decide (IntKind.wrap IntKind.i64 (Int.tmod (IntKind.wrap IntKind.i64 (i + t1)) (16:Int) - (8:Int)) < (↑(8:Nat):Int)))) fun y_8 =>
 bnd (idx out (0:Int)) fun y_9 =>
 bnd (idx (Prod.fst y_9) (IntKind.wrap IntKind.i64 (Int.tmod (IntKind.wrap IntKind.i64 (i + t1)) (16:Int) - (8:Int)))) fun y_10 =>
 k_ (List.set out (0:Nat) (List.set (Prod.fst y_9) (Int.toNat (IntKind.wrap IntKind.i64 (Int.tmod (IntKind.wrap IntKind.i64 (i + t1)) (16:Int) - (8:Int)))) y_6,Prod.snd y_9)))
def R_RTurn.c236872s:Shape:=⟨[(0,tb100),(1,tb5),(2,tb101),(4,tb105),(5,tb35),(6,tb5)],[(4,tb106),(5,tb106)]⟩
def R_RTurn.c236872x0:Shape:=R_RTurn.c236872s
def R_RTurn.c236872r:Ck:=Ck.of (T:=List ((List ((Bool)×(List Int)))×Int)) R_RTurn.c236872s (fun ρ x_ k_=>R_RTurn.c236872 x_.2.1 x_.2.2.1 x_.2.2.2.1 x_.2.2.2.2.2.1 k_) (fun ρ x_ r_ k_=>k_ 0 (Shape.inj R_RTurn.c236872x0 (x_.1,x_.2.1,x_.2.2.1,x_.2.2.2.1,x_.2.2.2.2.1,r_,())))
def R_RTurn.c100007 {ρ:Type} (t1:Int) (a_1:(List ((Bool)×(List Int)))×Int) (i:Int) (out:List ((List ((Bool)×(List Int)))×Int)) (k_:(Int×(List ((List ((Bool)×(List Int)))×Int))) ⊕ (Int×(List ((List ((Bool)×(List Int)))×Int))) → Option ρ):Option ρ :=
 br (decide (i < (8:Int)))
 (bnd (W.R_RTurn.c236872 t1 a_1 i out some) fun y =>
 k_ (.inl ((IntKind.wrap IntKind.i64 (i + (1:Int))),y)))
 (k_ (.inr (i,out)))
def R_RTurn.c100007s:Shape:=R_RTurn.c236872s
def R_RTurn.c100007x0:Shape:=R_RTurn.c236872s
def R_RTurn.c100007r:Ck:=Ck.ofLoop (S:=Int×(List ((List ((Bool)×(List Int)))×Int))) (T:=Int×(List ((List ((Bool)×(List Int)))×Int))) R_RTurn.c100007s (fun x_=>(x_.2.2.2.1,x_.2.2.2.2.2.1)) (fun ρ x_ s_ k_=>R_RTurn.c100007 x_.2.1 x_.2.2.1 s_.1 s_.2 k_) (fun ρ x_ r_ k_=>k_ 2 (Shape.inj R_RTurn.c100007x0 (x_.1,x_.2.1,x_.2.2.1,r_.1,x_.2.2.2.2.1,r_.2,())))
def R_RTurn (a:(List ((Bool)×(List Int)))×Int) (t1:Int):Option ((List ((Bool)×(List Int)))×Int) :=
 bnd (W.R_RTurn.c208197 (Int.tmod t1 (16:Int)) some) fun y =>
 bnd (iter (fun s ↦ W.R_RTurn.c100007 y a (Prod.fst s) (Prod.snd s) some) ((0:Int),[(List.replicate (8:Nat) (false,[]),Prod.snd a)])) fun y_1 =>
 bnd (idx (Prod.snd y_1) (0:Int)) fun y_2 =>
 some y_2
def R_RTurn.ce:Go.Ql.Callee:=⟨[(.st (.pair (.ar 8 (.st (.pair .bool (.sl (.int .i64))))) (.int .i64))),(.int .i64)],[(.st (.pair (.ar 8 (.st (.pair .bool (.sl (.int .i64))))) (.int .i64)))],fun x_=>R_RTurn x_.1 x_.2⟩
def R_RTurn.G:Env:=⟨45,tab,[(99,R_ZNeg.ce)],[0,1,2,4,5,6,7,11,19,27],[4,5,14,8000002],[],[(100007,R_RTurn.c100007r),(236872,R_RTurn.c236872r),(208197,R_RTurn.c208197r)],[],tab_eqs⟩
theorem R_RTurn.eq (x_:dens R_RTurn.ce.params):den R_RTurn.G Try.f64 R_RTurn.ce.params R_RTurn.ce.res x_ = R_RTurn.ce.F x_:=by kernel_rfl
theorem R_RTurn.p0:PcA R_RTurn.G Try.f64 0 :=
 join_ok (s:=R_RTurn.c208197r) (by kernel_rfl) (by kernel_rfl) (sums_of (sh:=R_RTurn.c208197s) (fun ρ x_ k_=>(nat_br nat_leaf nat_leaf)) (fun ρ x_ t k=>(by kernel_rfl)) (fun x_=>by kernel_rfl))
theorem R_RTurn.p1:PcA R_RTurn.G Try.f64 1 :=
 loop_ok (s:=R_RTurn.c100007r) (by kernel_rfl) (by kernel_rfl) (loops_of (sh:=R_RTurn.c100007s) (I:=fun x_ s_=>(x_.1,x_.2.1,x_.2.2.1,s_.1,x_.2.2.2.2.1,s_.2,())) (fun x_=>rfl) (fun ρ x_ s_ k_=>(nat_br (nat_bnd fun _=>nat_leaf) nat_leaf)) (fun ρ x_ t k=>(by kernel_rfl)) (fun x_ s=>by kernel_rfl))
theorem R_RTurn.p2:PcA R_RTurn.G Try.f64 2 :=
 join_ok (s:=R_RTurn.c236872r) (by kernel_rfl) (by kernel_rfl) (sums_of (sh:=R_RTurn.c236872s) (fun ρ x_ k_=>(nat_br (nat_bnd fun _=>(nat_bnd fun _=>(nat_bnd fun _=>(nat_bnd fun _=>(nat_bnd fun _=>nat_leaf))))) (nat_bnd fun _=>(nat_bnd fun _=>(nat_bnd fun _=>(nat_bnd fun _=>(nat_bnd fun _=>(nat_bnd fun _=>nat_leaf)))))))) (fun ρ x_ t k=>(by kernel_rfl)) (fun x_=>by kernel_rfl))
theorem R_RTurn.ok:CalleeOk Try.prog 64 R_RTurn.ce:=fn_ok (G:=R_RTurn.G) tab_ok mixed Try.func64 ⟨(fns_cons R_ZNeg.ok fns_nil),mfns_nil,tab_eqs_ok⟩ (m:=3) (by kernel_rfl) ⟨⟨⟨trivial,R_RTurn.p0⟩,R_RTurn.p1⟩,R_RTurn.p2⟩ (by kernel_rfl) R_RTurn.eq
def R_RNeg.c100002 {ρ:Type} (i:Int) (a_1:List ((List ((Bool)×(List Int)))×Int)) (k_:(Int×(List ((List ((Bool)×(List Int)))×Int))) ⊕ (Int×(List ((List ((Bool)×(List Int)))×Int))) → Option ρ):Option ρ :=
 br (decide (i < (8:Int)))
 (bnd (inR (List.length a_1) (0:Int)) fun y =>
 bnd (okIf (decide ((0:Ty.den (Ty.int IntKind.i64)) ≤ i) && decide (i < (↑(8:Nat):Int)))) fun y_1 =>
 bnd (idx a_1 (0:Int)) fun y_2 =>
 bnd (idx (Prod.fst y_2) i) fun y_3 =>
 bnd (W.R_ZNeg y_3) fun y_4 =>
 bnd (inR (List.length a_1) (0:Int)) fun y_5 =>
 bnd (okIf (decide ((0:Ty.den (Ty.int IntKind.i64)) ≤ i) && decide (i < (↑(8:Nat):Int)))) fun y_6 =>
 bnd (idx a_1 (0:Int)) fun y_7 =>
 bnd (idx (Prod.fst y_7) i) fun y_8 =>
 k_ (.inl ((IntKind.wrap IntKind.i64 (i + (1:Int))),(List.set a_1 (0:Nat) (List.set (Prod.fst y_7) (Int.toNat i) y_4,Prod.snd y_7)))))
 (k_ (.inr (i,a_1)))
def R_RNeg.c100002s:Shape:=⟨[(0,tb100),(1,tb107),(2,tb104),(3,tb5)],[(1,tb106),(2,tb106)]⟩
def R_RNeg.c100002x0:Shape:=R_RNeg.c100002s
def R_RNeg.c100002r:Ck:=Ck.ofLoop (S:=Int×(List ((List ((Bool)×(List Int)))×Int))) (T:=Int×(List ((List ((Bool)×(List Int)))×Int))) R_RNeg.c100002s (fun x_=>(x_.2.1,x_.2.2.1)) (fun ρ x_ s_ k_=>R_RNeg.c100002 s_.1 s_.2 k_) (fun ρ x_ r_ k_=>k_ 2 (Shape.inj R_RNeg.c100002x0 (x_.1,r_.1,r_.2,x_.2.2.2)))
def R_RNeg (a:(List ((Bool)×(List Int)))×Int):Option ((List ((Bool)×(List Int)))×Int) :=
 bnd (iter (fun s ↦ W.R_RNeg.c100002 (Prod.fst s) (Prod.snd s) some) ((0:Int),[a])) fun y =>
 bnd (idx (Prod.snd y) (0:Int)) fun y_1 =>
 some y_1
def R_RNeg.ce:Go.Ql.Callee:=⟨[(.st (.pair (.ar 8 (.st (.pair .bool (.sl (.int .i64))))) (.int .i64)))],[(.st (.pair (.ar 8 (.st (.pair .bool (.sl (.int .i64))))) (.int .i64)))],fun x_=>R_RNeg x_⟩
def R_RNeg.G:Env:=⟨17,tab,[(99,R_ZNeg.ce)],[0,1,2,3,5],[1,2],[],[(100002,R_RNeg.c100002r)],[],tab_eqs⟩
theorem R_RNeg.eq (x_:dens R_RNeg.ce.params):den R_RNeg.G Try.f66 R_RNeg.ce.params R_RNeg.ce.res x_ = R_RNeg.ce.F x_:=by kernel_rfl
theorem R_RNeg.p0:PcA R_RNeg.G Try.f66 0 :=
 loop_ok (s:=R_RNeg.c100002r) (by kernel_rfl) (by kernel_rfl) (loops_of (sh:=R_RNeg.c100002s) (I:=fun x_ s_=>(x_.1,s_.1,s_.2,x_.2.2.2)) (fun x_=>rfl) (fun ρ x_ s_ k_=>(nat_br (nat_bnd fun _=>(nat_bnd fun _=>(nat_bnd fun _=>(nat_bnd fun _=>(nat_bnd fun _=>(nat_bnd fun _=>(nat_bnd fun _=>(nat_bnd fun _=>(nat_bnd fun _=>nat_leaf))))))))) nat_leaf)) (fun ρ x_ t k=>(by kernel_rfl)) (fun x_ s=>by kernel_rfl))
theorem R_RNeg.ok:CalleeOk Try.prog 66 R_RNeg.ce:=fn_ok (G:=R_RNeg.G) tab_ok mixed Try.func66 ⟨(fns_cons R_ZNeg.ok fns_nil),mfns_nil,tab_eqs_ok⟩ (m:=1) (by kernel_rfl) ⟨trivial,R_RNeg.p0⟩ (by kernel_rfl) R_RNeg.eq
def R_RSub.c1 {ρ:Type} (a_1:(List ((Bool)×(List Int)))×Int) (b_1:(List ((Bool)×(List Int)))×Int) (t4:List ((List ((Bool)×(List Int)))×Int)) (k_:List ((List ((Bool)×(List Int)))×Int) → Option ρ):Option ρ :=
 bnd (W.R_RNeg b_1) fun y =>
 bnd (W.R_RAdd a_1 y) fun y_1 =>
 bnd (idx t4 (0:Int)) fun y_2 =>
 k_ (List.set t4 (0:Nat) y_1)
def R_RSub.c1s:Shape:=⟨[(0,tb100),(1,tb100),(2,tb101),(3,tb101),(4,tb105)],[(4,tb106)]⟩
def R_RSub.c1x0:Shape:=R_RSub.c1s
def R_RSub.c1r:Ck:=Ck.of (T:=List ((List ((Bool)×(List Int)))×Int)) R_RSub.c1s (fun ρ x_ k_=>R_RSub.c1 x_.2.2.1 x_.2.2.2.1 x_.2.2.2.2.1 k_) (fun ρ x_ r_ k_=>k_ 0 (Shape.inj R_RSub.c1x0 (x_.1,x_.2.1,x_.2.2.1,x_.2.2.2.1,r_,())))
def R_RSub (a:(List ((Bool)×(List Int)))×Int) (b:(List ((Bool)×(List Int)))×Int):Option ((List ((Bool)×(List Int)))×Int) :=
 bnd (W.R_RSub.c1 a b [(List.replicate (8:Nat) (false,[]),(0:Int))] some) fun y =>
 bnd (idx y (0:Int)) fun y_1 =>
 some y_1
def R_RSub.ce:Go.Ql.Callee:=⟨[(.st (.pair (.ar 8 (.st (.pair .bool (.sl (.int .i64))))) (.int .i64))),(.st (.pair (.ar 8 (.st (.pair .bool (.sl (.int .i64))))) (.int .i64)))],[(.st (.pair (.ar 8 (.st (.pair .bool (.sl (.int .i64))))) (.int .i64)))],fun x_=>R_RSub x_.1 x_.2⟩
def R_RSub.G:Env:=⟨9,tab,[(66,R_RNeg.ce),(62,R_RAdd.ce)],[0,1,2,3,4],[4,8000002,8000003],[(1,[⟨[],[],[6,7],[]⟩,⟨[],[],[5],[]⟩,⟨[1],[],[5],[]⟩,⟨[0,2,1],[],[],[]⟩,⟨[3,0,2,1],[4],[],[]⟩])],[(1,R_RSub.c1r)],[],tab_eqs⟩
theorem R_RSub.eq (x_:dens R_RSub.ce.params):den R_RSub.G Try.f100 R_RSub.ce.params R_RSub.ce.res x_ = R_RSub.ce.F x_:=by kernel_rfl
theorem R_RSub.p0:PcA R_RSub.G Try.f100 0 :=
 region_ok (s:=R_RSub.c1r) (by kernel_rfl) (by kernel_rfl) (sums_of (sh:=R_RSub.c1s) (fun ρ x_ k_=>(nat_bnd fun _=>(nat_bnd fun _=>(nat_bnd fun _=>nat_leaf)))) (fun ρ x_ t k=>(by kernel_rfl)) (fun x_=>by kernel_rfl))
theorem R_RSub.ok:CalleeOk Try.prog 100 R_RSub.ce:=fn_ok (G:=R_RSub.G) tab_ok mixed Try.func100 ⟨(fns_cons R_RNeg.ok (fns_cons R_RAdd.ok fns_nil)),mfns_nil,tab_eqs_ok⟩ (m:=1) (by kernel_rfl) ⟨trivial,R_RSub.p0⟩ (by kernel_rfl) R_RSub.eq
def R_RHalf.c1 {ρ:Type} (a_1:(List ((Bool)×(List Int)))×Int) (k_:List ((List ((Bool)×(List Int)))×Int) → Option ρ):Option ρ :=
 bnd (W.R_RTurn a_1 (2:Int)) fun y =>
 bnd (W.R_RTurn a_1 (6:Int)) fun y_1 =>
 bnd (W.R_RSub y y_1) fun y_2 =>
 k_ [y_2]
def R_RHalf.c1s:Shape:=⟨[(0,tb100),(1,tb101),(2,tb104)],[(2,tb106)]⟩
def R_RHalf.c1x0:Shape:=⟨[(0,tb100),(1,tb101),(2,tb104),(3,tb108)],[(2,tb106),(3,tb106)]⟩
def R_RHalf.c1r:Ck:=Ck.of (T:=List ((List ((Bool)×(List Int)))×Int)) R_RHalf.c1s (fun ρ x_ k_=>R_RHalf.c1 x_.2.1 k_) (fun ρ x_ r_ k_=>k_ 0 (Shape.inj R_RHalf.c1x0 (x_.1,x_.2.1,x_.2.2.1,r_,())))
def R_RHalf (a:(List ((Bool)×(List Int)))×Int):Option ((List ((Bool)×(List Int)))×Int) :=
 bnd (W.R_RHalf.c1 a some) fun y =>
 bnd (idx y (0:Int)) fun y_1 =>
 bnd (W.R_RZero y_1) fun y_2 =>
 br y_2
 (bnd (idx y (0:Int)) fun y_3 =>
 some y_3)
 (bnd (inR (List.length y) (0:Int)) fun y_4 =>
 bnd (idx y (0:Int)) fun y_5 =>
 bnd (inR (List.length y) (0:Int)) fun y_6 =>
 bnd (idx y (0:Int)) fun y_7 =>
 bnd (idx (List.set y (0:Nat) (Prod.fst y_7,IntKind.wrap IntKind.i64 (Prod.snd y_5 + (1:Int)))) (0:Int)) fun y_8 =>
 bnd (W.R_rleast y_8) fun y_9 =>
 some y_9)
def R_RHalf.ce:Go.Ql.Callee:=⟨[(.st (.pair (.ar 8 (.st (.pair .bool (.sl (.int .i64))))) (.int .i64)))],[(.st (.pair (.ar 8 (.st (.pair .bool (.sl (.int .i64))))) (.int .i64)))],fun x_=>R_RHalf x_⟩
def R_RHalf.G:Env:=⟨18,tab,[(64,R_RTurn.ce),(100,R_RSub.ce),(48,R_RZero.ce),(98,R_rleast.ce)],[0,1,2,3,10],[2,3,8000001],[(1,[⟨[],[],[6,3],[3]⟩,⟨[0],[],[6,3],[3]⟩,⟨[],[],[4,5,3],[3]⟩,⟨[2,1,0],[],[3],[3]⟩,⟨[1,0,3,2],[],[3],[3]⟩,⟨[],[3],[4,5,6,7,8],[]⟩,⟨[5,4,1,0,3,2],[3],[],[]⟩])],[(1,R_RHalf.c1r)],[],tab_eqs⟩
theorem R_RHalf.eq (x_:dens R_RHalf.ce.params):den R_RHalf.G Try.f65 R_RHalf.ce.params R_RHalf.ce.res x_ = R_RHalf.ce.F x_:=by kernel_rfl
theorem R_RHalf.p0:PcA R_RHalf.G Try.f65 0 :=
 region_ok (s:=R_RHalf.c1r) (by kernel_rfl) (by kernel_rfl) (sums_of (sh:=R_RHalf.c1s) (fun ρ x_ k_=>(nat_bnd fun _=>(nat_bnd fun _=>(nat_bnd fun _=>nat_leaf)))) (fun ρ x_ t k=>(by kernel_rfl)) (fun x_=>by kernel_rfl))
theorem R_RHalf.ok:CalleeOk Try.prog 65 R_RHalf.ce:=fn_ok (G:=R_RHalf.G) tab_ok mixed Try.func65 ⟨(fns_cons R_RTurn.ok (fns_cons R_RSub.ok (fns_cons R_RZero.ok (fns_cons R_rleast.ok fns_nil)))),mfns_nil,tab_eqs_ok⟩ (m:=1) (by kernel_rfl) ⟨trivial,R_RHalf.p0⟩ (by kernel_rfl) R_RHalf.eq
abbrev tb109:SD:=.one (.val (.sl (.st (.pair (.ar 8 (.st (.pair .bool (.sl (.int .i64))))) (.int .i64)))))
abbrev tb110:SD:=.one (.aptr 8 0)
def R_Gate.c7 {ρ:Type} (v:List ((List ((Bool)×(List Int)))×Int)) (x:Int) (t11:List ((List ((Bool)×(List Int)))×Int)) (k_:List ((List ((Bool)×(List Int)))×Int) → Option ρ):Option ρ :=
 bnd (inR (List.length t11) x) fun y =>
 bnd (idx t11 x) fun y_1 =>
 bnd (idx v x) fun y_2 =>
 bnd (W.R_RAdd y_1 y_2) fun y_3 =>
 bnd (inR (List.length t11) x) fun y_4 =>
 bnd (idx t11 x) fun y_5 =>
 k_ (List.set t11 (Int.toNat x) y_3)
def R_Gate.c7s:Shape:=⟨[(0,tb109),(1,tb25),(3,tb12),(4,tb109),(5,tb86),(6,tb5)],[(3,tb26),(11,tb106)]⟩
def R_Gate.c7x0:Shape:=R_Gate.c7s
def R_Gate.c7r:Ck:=Ck.of (T:=List ((List ((Bool)×(List Int)))×Int)) R_Gate.c7s (fun ρ x_ k_=>R_Gate.c7 x_.1 x_.2.2.2.1 x_.2.2.2.2.2.2.2.2.2.2.1 k_) (fun ρ x_ r_ k_=>k_ 0 (Shape.inj R_Gate.c7x0 (x_.1,x_.2.1,x_.2.2.1,x_.2.2.2.1,x_.2.2.2.2.1,x_.2.2.2.2.2.1,x_.2.2.2.2.2.2.1,x_.2.2.2.2.2.2.2.1,x_.2.2.2.2.2.2.2.2.1,x_.2.2.2.2.2.2.2.2.2.1,r_,())))
def R_Gate.c9 {ρ:Type} (x:Int) (o0:Int) (o3:Int) (k_:Bool → Option ρ):Option ρ :=
 br (o0 == (1:Int))
 (k_ true)
 (br (o0 == (4:Int))
 (bnd (W.R_bitOf x o3) fun y =>
 k_ (y == (1:Int)))
 (k_ false))
def R_Gate.c9s:Shape:=⟨[(0,tb109),(1,tb25),(3,tb12),(4,tb109),(5,tb86),(6,tb5),(7,tb5)],[(3,tb26),(11,tb106)]⟩
def R_Gate.c9x0:Shape:=⟨[(0,tb109),(1,tb25),(3,tb12),(4,tb109),(5,tb86),(6,tb5),(7,tb5),(59,tb7)],[(3,tb26),(11,tb106)]⟩
def R_Gate.c9r:Ck:=Ck.of (T:=Bool) R_Gate.c9s (fun ρ x_ k_=>R_Gate.c9 x_.2.2.2.1 x_.2.2.2.2.2.1 x_.2.2.2.2.2.2.2.2.1 k_) (fun ρ x_ r_ k_=>k_ 0 (Shape.inj R_Gate.c9x0 (x_.1,x_.2.1,x_.2.2.1,x_.2.2.2.1,x_.2.2.2.2.1,r_,x_.2.2.2.2.2)))
def R_Gate.c10 {ρ:Type} (v:List ((List ((Bool)×(List Int)))×Int)) (x:Int) (o1:Int) (t11:List ((List ((Bool)×(List Int)))×Int)) (k_:List ((List ((Bool)×(List Int)))×Int) → Option ρ):Option ρ :=
 bnd (idx v x) fun y =>
 bnd (W.R_RTurn y o1) fun y_1 =>
 bnd (inR (List.length t11) x) fun y_2 =>
 bnd (idx t11 x) fun y_3 =>
 k_ (List.set t11 (Int.toNat x) y_1)
def R_Gate.c10s:Shape:=R_Gate.c9s
def R_Gate.c10x0:Shape:=R_Gate.c9s
def R_Gate.c10r:Ck:=Ck.of (T:=List ((List ((Bool)×(List Int)))×Int)) R_Gate.c10s (fun ρ x_ k_=>R_Gate.c10 x_.1 x_.2.2.2.1 x_.2.2.2.2.2.2.1 x_.2.2.2.2.2.2.2.2.2.2.2.1 k_) (fun ρ x_ r_ k_=>k_ 0 (Shape.inj R_Gate.c10x0 (x_.1,x_.2.1,x_.2.2.1,x_.2.2.2.1,x_.2.2.2.2.1,x_.2.2.2.2.2.1,x_.2.2.2.2.2.2.1,x_.2.2.2.2.2.2.2.1,x_.2.2.2.2.2.2.2.2.1,x_.2.2.2.2.2.2.2.2.2.1,x_.2.2.2.2.2.2.2.2.2.2.1,r_,())))
def R_Gate.c16 {ρ:Type} (other:Int) (half:List ((List ((Bool)×(List Int)))×Int)) (t11:List ((List ((Bool)×(List Int)))×Int)) (k_:List ((List ((Bool)×(List Int)))×Int) → Option ρ):Option ρ :=
 bnd (inR (List.length t11) other) fun y =>
 bnd (idx t11 other) fun y_1 =>
 bnd (idx half (0:Int)) fun y_2 =>
 bnd (W.R_RAdd y_1 y_2) fun y_3 =>
 bnd (inR (List.length t11) other) fun y_4 =>
 bnd (idx t11 other) fun y_5 =>
 k_ (List.set t11 (Int.toNat other) y_3)
def R_Gate.c16s:Shape:=⟨[(0,tb109),(1,tb25),(3,tb12),(4,tb109),(5,tb86),(6,tb5),(7,tb5),(8,tb110)],[(3,tb26),(8,tb106),(11,tb106)]⟩
def R_Gate.c16x0:Shape:=R_Gate.c16s
def R_Gate.c16r:Ck:=Ck.of (T:=List ((List ((Bool)×(List Int)))×Int)) R_Gate.c16s (fun ρ x_ k_=>R_Gate.c16 x_.2.2.2.2.1 x_.2.2.2.2.2.2.2.2.2.2.2.1 x_.2.2.2.2.2.2.2.2.2.2.2.2.1 k_) (fun ρ x_ r_ k_=>k_ 0 (Shape.inj R_Gate.c16x0 (x_.1,x_.2.1,x_.2.2.1,x_.2.2.2.1,x_.2.2.2.2.1,x_.2.2.2.2.2.1,x_.2.2.2.2.2.2.1,x_.2.2.2.2.2.2.2.1,x_.2.2.2.2.2.2.2.2.1,x_.2.2.2.2.2.2.2.2.2.1,x_.2.2.2.2.2.2.2.2.2.2.1,x_.2.2.2.2.2.2.2.2.2.2.2.1,r_,())))
def R_Gate.c269637 {ρ:Type} (x:Int) (o3:Int) (half:List ((List ((Bool)×(List Int)))×Int)) (k_:List ((List ((Bool)×(List Int)))×Int) → Option ρ):Option ρ :=
 bnd (W.R_bitOf x o3) fun y =>
 br (y == (1:Int))
 (bnd (idx half (0:Int)) fun y_1 =>
 bnd (W.R_RNeg y_1) fun y_2 =>
 bnd (idx half (0:Int)) fun y_3 =>
 k_ (List.set half (0:Nat) y_2))
 (k_ half)
def R_Gate.c269637s:Shape:=R_Gate.c16s
def R_Gate.c269637x0:Shape:=R_Gate.c16s
def R_Gate.c269637r:Ck:=Ck.of (T:=List ((List ((Bool)×(List Int)))×Int)) R_Gate.c269637s (fun ρ x_ k_=>R_Gate.c269637 x_.2.2.2.1 x_.2.2.2.2.2.2.2.2.1 x_.2.2.2.2.2.2.2.2.2.2.2.1 k_) (fun ρ x_ r_ k_=>k_ 0 (Shape.inj R_Gate.c269637x0 (x_.1,x_.2.1,x_.2.2.1,x_.2.2.2.1,x_.2.2.2.2.1,x_.2.2.2.2.2.1,x_.2.2.2.2.2.2.1,x_.2.2.2.2.2.2.2.1,x_.2.2.2.2.2.2.2.2.1,x_.2.2.2.2.2.2.2.2.2.1,x_.2.2.2.2.2.2.2.2.2.2.1,r_,x_.2.2.2.2.2.2.2.2.2.2.2.2)))
def R_Gate.c19 {ρ:Type} (x:Int) (half:List ((List ((Bool)×(List Int)))×Int)) (t11:List ((List ((Bool)×(List Int)))×Int)) (k_:List ((List ((Bool)×(List Int)))×Int) → Option ρ):Option ρ :=
 bnd (inR (List.length t11) x) fun y =>
 bnd (idx t11 x) fun y_1 =>
 bnd (idx half (0:Int)) fun y_2 =>
 bnd (W.R_RAdd y_1 y_2) fun y_3 =>
 bnd (inR (List.length t11) x) fun y_4 =>
 bnd (idx t11 x) fun y_5 =>
 k_ (List.set t11 (Int.toNat x) y_3)
def R_Gate.c19s:Shape:=R_Gate.c16s
def R_Gate.c19x0:Shape:=R_Gate.c16s
def R_Gate.c19r:Ck:=Ck.of (T:=List ((List ((Bool)×(List Int)))×Int)) R_Gate.c19s (fun ρ x_ k_=>R_Gate.c19 x_.2.2.2.1 x_.2.2.2.2.2.2.2.2.2.2.2.1 x_.2.2.2.2.2.2.2.2.2.2.2.2.1 k_) (fun ρ x_ r_ k_=>k_ 0 (Shape.inj R_Gate.c19x0 (x_.1,x_.2.1,x_.2.2.1,x_.2.2.2.1,x_.2.2.2.2.1,x_.2.2.2.2.2.1,x_.2.2.2.2.2.2.1,x_.2.2.2.2.2.2.2.1,x_.2.2.2.2.2.2.2.2.1,x_.2.2.2.2.2.2.2.2.2.1,x_.2.2.2.2.2.2.2.2.2.2.1,x_.2.2.2.2.2.2.2.2.2.2.2.1,r_,())))
def R_Gate.c220520 {ρ:Type} (v:List ((List ((Bool)×(List Int)))×Int)) (x:Int) (o0:Int) (o1:Int) (o2:List Int) (o3:Int) (t11:List ((List ((Bool)×(List Int)))×Int)) (k_:List ((List ((Bool)×(List Int)))×Int) → Option ρ):Option ρ :=
 bnd (idx v x) fun y =>
 bnd (W.R_RZero y) fun y_1 =>
 br y_1
 (k_ t11)
 (bnd (W.R_allOne x o2) fun y_2 =>
 br (!y_2)
 (bnd (W.R_Gate.c7 v x t11 some) fun y_3 =>
 k_ y_3)
 (bnd (okIf (decide ((0:Int) ≤ o3))) fun y_4 =>
 bnd (W.R_Gate.c9 x o0 o3 some) fun y_5 =>
 br y_5
 (bnd (W.R_Gate.c10 v x o1 t11 some) fun y_6 =>
 k_ y_6)
 (br (o0 == (4:Int))
 (bnd (idx v x) fun y_7 =>
 bnd (inR (List.length t11) x) fun y_8 =>
 bnd (idx t11 x) fun y_9 =>
 k_ (List.set t11 (Int.toNat x) y_7))
 (br (o0 == (2:Int))
 (bnd (idx v x) fun y_10 =>
 bnd (inR (List.length t11) (ibits BinOp.xor IntKind.i64 x (IntKind.wrap IntKind.i64 ((1:Int) * (2:Int) ^ Min.min (Int.toNat o3) (64:Nat))))) fun y_11 =>
 bnd (idx t11 (ibits BinOp.xor IntKind.i64 x (IntKind.wrap IntKind.i64 ((1:Int) * (2:Int) ^ Min.min (Int.toNat o3) (64:Nat))))) fun y_12 =>
 k_ (List.set t11 (Int.toNat (ibits BinOp.xor IntKind.i64 x (IntKind.wrap IntKind.i64 ((1:Int) * (2:Int) ^ Min.min (Int.toNat o3) (64:Nat))))) y_10))
 (bnd (idx v x) fun y_13 =>
 bnd (W.R_RHalf y_13) fun y_14 =>
 bnd (W.R_Gate.c16 (ibits BinOp.xor IntKind.i64 x (IntKind.wrap IntKind.i64 ((1:Int) * (2:Int) ^ Min.min (Int.toNat o3) (64:Nat)))) [y_14] t11 some) fun y_15 =>
 bnd (W.R_Gate.c269637 x o3 [y_14] some) fun y_16 =>
 bnd (W.R_Gate.c19 x y_16 y_15 some) fun y_17 =>
 k_ y_17)))))
def R_Gate.c220520s:Shape:=R_Gate.c7s
def R_Gate.c220520x0:Shape:=R_Gate.c7s
def R_Gate.c220520r:Ck:=Ck.of (T:=List ((List ((Bool)×(List Int)))×Int)) R_Gate.c220520s (fun ρ x_ k_=>R_Gate.c220520 x_.1 x_.2.2.2.1 x_.2.2.2.2.1 x_.2.2.2.2.2.1 x_.2.2.2.2.2.2.1 x_.2.2.2.2.2.2.2.1 x_.2.2.2.2.2.2.2.2.2.2.1 k_) (fun ρ x_ r_ k_=>k_ 0 (Shape.inj R_Gate.c220520x0 (x_.1,x_.2.1,x_.2.2.1,x_.2.2.2.1,x_.2.2.2.2.1,x_.2.2.2.2.2.1,x_.2.2.2.2.2.2.1,x_.2.2.2.2.2.2.2.1,x_.2.2.2.2.2.2.2.2.1,x_.2.2.2.2.2.2.2.2.2.1,r_,())))
def R_Gate.c100003 {ρ:Type} (v:List ((List ((Bool)×(List Int)))×Int)) (x:Int) (o0:Int) (o1:Int) (o2:List Int) (o3:Int) (t11:List ((List ((Bool)×(List Int)))×Int)) (k_:(Int×(List ((List ((Bool)×(List Int)))×Int))) ⊕ (Int×(List ((List ((Bool)×(List Int)))×Int))) → Option ρ):Option ρ :=
 br (decide (x < (↑(List.length v):Int)))
 (bnd (W.R_Gate.c220520 v x o0 o1 o2 o3 t11 some) fun y =>
 k_ (.inl ((IntKind.wrap IntKind.i64 (x + (1:Int))),y)))
 (k_ (.inr (x,t11)))
def R_Gate.c100003s:Shape:=R_Gate.c7s
def R_Gate.c100003x0:Shape:=R_Gate.c7s
def R_Gate.c100003r:Ck:=Ck.ofLoop (S:=Int×(List ((List ((Bool)×(List Int)))×Int))) (T:=Int×(List ((List ((Bool)×(List Int)))×Int))) R_Gate.c100003s (fun x_=>(x_.2.2.2.1,x_.2.2.2.2.2.2.2.2.2.2.1)) (fun ρ x_ s_ k_=>R_Gate.c100003 x_.1 s_.1 x_.2.2.2.2.1 x_.2.2.2.2.2.1 x_.2.2.2.2.2.2.1 x_.2.2.2.2.2.2.2.1 s_.2 k_) (fun ρ x_ r_ k_=>k_ 2 (Shape.inj R_Gate.c100003x0 (x_.1,x_.2.1,x_.2.2.1,r_.1,x_.2.2.2.2.1,x_.2.2.2.2.2.1,x_.2.2.2.2.2.2.1,x_.2.2.2.2.2.2.2.1,x_.2.2.2.2.2.2.2.2.1,x_.2.2.2.2.2.2.2.2.2.1,r_.2,())))
def R_Gate (v:List ((List ((Bool)×(List Int)))×Int)) (o:Int×(Int×((List Int)×(Int×(Int×(List Int)))))):Option (List ((List ((Bool)×(List Int)))×Int)) :=
 bnd (okIf (decide ((0:Int) ≤ (↑(List.length v):Int)) && decide ((↑(List.length v):Int) ≤ (↑(List.length v):Int)) && decide ((↑(List.length v):Int) * (↑(264:Nat):Int) ≤ (140737488355328:Int)) && decide ((↑(List.length v):Int) ≤ (140737488355328:Int)))) fun y =>
 bnd (iter (fun s ↦ W.R_Gate.c100003 v (Prod.fst s) (Prod.fst o) (Prod.fst (Prod.snd o)) (Prod.fst (Prod.snd (Prod.snd o))) (Prod.fst (Prod.snd (Prod.snd (Prod.snd o)))) (Prod.snd s) some) ((0:Int),List.replicate (Int.toNat (↑(List.length v):Int)) (List.replicate (8:Nat) (false,[]),(0:Int)))) fun y_1 =>
 some (Prod.snd y_1)
def R_Gate.ce:Go.Ql.Callee:=⟨[(.sl (.st (.pair (.ar 8 (.st (.pair .bool (.sl (.int .i64))))) (.int .i64)))),(.st (.pair (.int .i64) (.pair (.int .i64) (.pair (.sl (.int .i64)) (.pair (.int .i64) (.pair (.int .i64) (.sl (.int .i64))))))))],[(.sl (.st (.pair (.ar 8 (.st (.pair .bool (.sl (.int .i64))))) (.int .i64))))],fun x_=>R_Gate x_.1 x_.2⟩
def R_Gate.G:Env:=⟨121,tab,[(48,R_RZero.ce),(61,R_allOne.ce),(62,R_RAdd.ce),(63,R_bitOf.ce),(64,R_RTurn.ce),(65,R_RHalf.ce),(66,R_RNeg.ce)],[0,1,3,4,5,6,7,8,15,22,27,59,72,82,108],[8,11],[(19,[⟨[],[],[112,113,114,115,116,117,118],[]⟩,⟨[],[],[111,113,114,115,116,117,118],[]⟩,⟨[],[],[111,112,114,117],[]⟩,⟨[],[],[111,112,113,117],[]⟩,⟨[2,3],[],[111,112,117],[]⟩,⟨[4,2,3],[],[111,112,117],[]⟩,⟨[],[],[111,112,113,114,115,116],[]⟩,⟨[5,4,2,3,6],[],[111,112],[]⟩,⟨[0,1,2,3,4,5,6,7],[],[],[]⟩,⟨[8,0,1,2,3,4,5,6,7],[11],[],[]⟩]),
 (16,[⟨[],[],[96,97,98,99,100,101,102],[]⟩,⟨[],[],[95,97,98,99,100,101,102],[]⟩,⟨[],[],[95,96,98,101],[]⟩,⟨[],[],[95,96,97,101],[]⟩,⟨[2,3],[],[95,96,101],[]⟩,⟨[4,2,3],[],[95,96,101],[]⟩,⟨[],[],[95,96,97,98,99,100],[]⟩,⟨[5,4,2,3,6],[],[95,96],[]⟩,⟨[0,1,2,3,4,5,6,7],[],[],[]⟩,⟨[8,0,1,2,3,4,5,6,7],[11],[],[]⟩]),
 (10,[⟨[],[],[61,62,63,64,65,66,67,68],[]⟩,⟨[],[],[60,62,63,64,65,66,67,68],[]⟩,⟨[],[],[60,61,63,66,67],[]⟩,⟨[],[],[60,61,62,66,67],[]⟩,⟨[2,3],[],[60,61,66,67],[]⟩,⟨[4,2,3],[],[60,61,66,67],[]⟩,⟨[],[],[60,61,62,63,64,65],[]⟩,⟨[6],[],[60,61,62,63,64,65],[]⟩,⟨[5,4,2,3,7,6],[],[60,61],[]⟩,⟨[0,1,2,3,4,5,6,7,8],[],[],[]⟩,⟨[9,0,1,2,3,4,5,6,7,8],[11],[],[]⟩]),
 (7,[⟨[],[],[29,30,31,32,33,34,35,36,37,38],[]⟩,⟨[],[],[28,30,31,32,33,34,35,36,37,38],[]⟩,⟨[],[],[28,29,31,34,35,36,37],[]⟩,⟨[],[],[28,29,30,34,35,36,37],[]⟩,⟨[2,3],[],[28,29,34,35,36,37],[]⟩,⟨[4,2,3],[],[28,29,34,35,36,37],[]⟩,⟨[],[],[28,29,30,31,32,33,35],[]⟩,⟨[],[],[28,29,30,31,32,33,34],[]⟩,⟨[6,7],[],[28,29,30,31,32,33],[]⟩,⟨[8,6,7],[],[28,29,30,31,32,33],[]⟩,⟨[5,4,2,3,9,8,6,7],[],[28,29],[]⟩,⟨[0,1,2,3,4,5,6,7,8,9,10],[],[],[]⟩,⟨[11,0,1,2,3,4,5,6,7,8,9,10],[11],[],[]⟩])],[(100003,R_Gate.c100003r),(220520,R_Gate.c220520r),(19,R_Gate.c19r),(269637,R_Gate.c269637r),(16,R_Gate.c16r),(10,R_Gate.c10r),(9,R_Gate.c9r),(7,R_Gate.c7r)],[],tab_eqs⟩
theorem R_Gate.eq (x_:dens R_Gate.ce.params):den R_Gate.G Try.f24 R_Gate.ce.params R_Gate.ce.res x_ = R_Gate.ce.F x_:=by kernel_rfl
theorem R_Gate.p0:PcA R_Gate.G Try.f24 0 :=
 loop_ok (s:=R_Gate.c100003r) (by kernel_rfl) (by kernel_rfl) (loops_of (sh:=R_Gate.c100003s) (I:=fun x_ s_=>(x_.1,x_.2.1,x_.2.2.1,s_.1,x_.2.2.2.2.1,x_.2.2.2.2.2.1,x_.2.2.2.2.2.2.1,x_.2.2.2.2.2.2.2.1,x_.2.2.2.2.2.2.2.2.1,x_.2.2.2.2.2.2.2.2.2.1,s_.2,())) (fun x_=>rfl) (fun ρ x_ s_ k_=>(nat_br (nat_bnd fun _=>nat_leaf) nat_leaf)) (fun ρ x_ t k=>(by kernel_rfl)) (fun x_ s=>by kernel_rfl))
theorem R_Gate.p1:PcA R_Gate.G Try.f24 1 :=
 join_ok (s:=R_Gate.c220520r) (by kernel_rfl) (by kernel_rfl) (sums_of (sh:=R_Gate.c220520s) (fun ρ x_ k_=>(nat_bnd fun _=>(nat_bnd fun _=>(nat_br nat_leaf (nat_bnd fun _=>(nat_br (nat_bnd fun _=>nat_leaf) (nat_bnd fun _=>(nat_bnd fun _=>(nat_br (nat_bnd fun _=>nat_leaf) (nat_br (nat_bnd fun _=>(nat_bnd fun _=>(nat_bnd fun _=>nat_leaf))) (nat_br (nat_bnd fun _=>(nat_bnd fun _=>(nat_bnd fun _=>nat_leaf))) (nat_bnd fun _=>(nat_bnd fun _=>(nat_bnd fun _=>(nat_bnd fun _=>(nat_bnd fun _=>nat_leaf)))))))))))))))) (fun ρ x_ t k=>(by kernel_rfl)) (fun x_=>by kernel_rfl))
theorem R_Gate.p2:PcA R_Gate.G Try.f24 2 :=
 region_ok (s:=R_Gate.c7r) (by kernel_rfl) (by kernel_rfl) (sums_of (sh:=R_Gate.c7s) (fun ρ x_ k_=>(nat_bnd fun _=>(nat_bnd fun _=>(nat_bnd fun _=>(nat_bnd fun _=>(nat_bnd fun _=>(nat_bnd fun _=>nat_leaf))))))) (fun ρ x_ t k=>(by kernel_rfl)) (fun x_=>by kernel_rfl))
theorem R_Gate.p3:PcA R_Gate.G Try.f24 3 :=
 region_ok (s:=R_Gate.c9r) (by kernel_rfl) (by kernel_rfl) (sums_of (sh:=R_Gate.c9s) (fun ρ x_ k_=>(nat_br nat_leaf (nat_br (nat_bnd fun _=>nat_leaf) nat_leaf))) (fun ρ x_ t k=>(by kernel_rfl)) (fun x_=>by kernel_rfl))
theorem R_Gate.p4:PcA R_Gate.G Try.f24 4 :=
 region_ok (s:=R_Gate.c10r) (by kernel_rfl) (by kernel_rfl) (sums_of (sh:=R_Gate.c10s) (fun ρ x_ k_=>(nat_bnd fun _=>(nat_bnd fun _=>(nat_bnd fun _=>(nat_bnd fun _=>nat_leaf))))) (fun ρ x_ t k=>(by kernel_rfl)) (fun x_=>by kernel_rfl))
theorem R_Gate.p5:PcA R_Gate.G Try.f24 5 :=
 region_ok (s:=R_Gate.c16r) (by kernel_rfl) (by kernel_rfl) (sums_of (sh:=R_Gate.c16s) (fun ρ x_ k_=>(nat_bnd fun _=>(nat_bnd fun _=>(nat_bnd fun _=>(nat_bnd fun _=>(nat_bnd fun _=>(nat_bnd fun _=>nat_leaf))))))) (fun ρ x_ t k=>(by kernel_rfl)) (fun x_=>by kernel_rfl))
theorem R_Gate.p6:PcA R_Gate.G Try.f24 6 :=
 join_ok (s:=R_Gate.c269637r) (by kernel_rfl) (by kernel_rfl) (sums_of (sh:=R_Gate.c269637s) (fun ρ x_ k_=>(nat_bnd fun _=>(nat_br (nat_bnd fun _=>(nat_bnd fun _=>(nat_bnd fun _=>nat_leaf))) nat_leaf))) (fun ρ x_ t k=>(by kernel_rfl)) (fun x_=>by kernel_rfl))
theorem R_Gate.p7:PcA R_Gate.G Try.f24 7 :=
 region_ok (s:=R_Gate.c19r) (by kernel_rfl) (by kernel_rfl) (sums_of (sh:=R_Gate.c19s) (fun ρ x_ k_=>(nat_bnd fun _=>(nat_bnd fun _=>(nat_bnd fun _=>(nat_bnd fun _=>(nat_bnd fun _=>(nat_bnd fun _=>nat_leaf))))))) (fun ρ x_ t k=>(by kernel_rfl)) (fun x_=>by kernel_rfl))
theorem R_Gate.ok:CalleeOk Try.prog 24 R_Gate.ce:=fn_ok (G:=R_Gate.G) tab_ok mixed Try.func24 ⟨(fns_cons R_RZero.ok (fns_cons R_allOne.ok (fns_cons R_RAdd.ok (fns_cons R_bitOf.ok (fns_cons R_RTurn.ok (fns_cons R_RHalf.ok (fns_cons R_RNeg.ok fns_nil))))))),mfns_nil,tab_eqs_ok⟩ (m:=8) (by kernel_rfl) ⟨⟨⟨⟨⟨⟨⟨⟨trivial,R_Gate.p0⟩,R_Gate.p1⟩,R_Gate.p2⟩,R_Gate.p3⟩,R_Gate.p4⟩,R_Gate.p5⟩,R_Gate.p6⟩,R_Gate.p7⟩ (by kernel_rfl) R_Gate.eq
abbrev tb111:SD:=.one (.val (.st (.pair .bool .str)))
def R_Pauli_On.c220501 {ρ:Type} (out:List ((List ((Bool)×(List Int)))×Int)) (q:Int) (p1:List UInt8) (k_:List ((List ((Bool)×(List Int)))×Int) → Option ρ):Option ρ :=
 bnd (idx p1 q) fun y =>
 br ((↑(UInt8.toNat y):Int) == (88:Int))
 (bnd (W.R_Gate out ((2:Int),(0:Int),[],q,(0:Int),[])) fun y_1 =>
 k_ y_1)
 (br ((↑(UInt8.toNat y):Int) == (90:Int))
 (bnd (W.R_Gate out ((4:Int),(8:Int),[],q,(0:Int),[])) fun y_2 =>
 k_ y_2)
 (br ((↑(UInt8.toNat y):Int) == (89:Int))
 (bnd (W.R_Gate out ((4:Int),(8:Int),[],q,(0:Int),[])) fun y_3 =>
 bnd (W.R_Gate y_3 ((2:Int),(0:Int),[],q,(0:Int),[])) fun y_4 =>
 bnd (W.R_Gate y_4 ((1:Int),(4:Int),[],(0:Int),(0:Int),[])) fun y_5 =>
 k_ y_5)
 (k_ out)))
def R_Pauli_On.c220501s:Shape:=⟨[(0,tb111),(1,tb109),(2,tb2),(4,tb109),(5,tb109),(6,tb5)],[(2,tb45)]⟩
def R_Pauli_On.c220501x0:Shape:=R_Pauli_On.c220501s
def R_Pauli_On.c220501r:Ck:=Ck.of (T:=List ((List ((Bool)×(List Int)))×Int)) R_Pauli_On.c220501s (fun ρ x_ k_=>R_Pauli_On.c220501 x_.2.2.2.1 x_.2.2.2.2.1 x_.2.2.2.2.2.2.1 k_) (fun ρ x_ r_ k_=>k_ 0 (Shape.inj R_Pauli_On.c220501x0 (x_.1,x_.2.1,x_.2.2.1,r_,x_.2.2.2.2)))
def R_Pauli_On.c100003 {ρ:Type} (out:List ((List ((Bool)×(List Int)))×Int)) (q:Int) (p1:List UInt8) (k_:((List ((List ((Bool)×(List Int)))×Int))×Int) ⊕ ((List ((List ((Bool)×(List Int)))×Int))×Int) → Option ρ):Option ρ :=
 br (decide (q < (↑(List.length p1):Int)))
 (bnd (W.R_Pauli_On.c220501 out q p1 some) fun y =>
 k_ (.inl (y,(IntKind.wrap IntKind.i64 (q + (1:Int))))))
 (k_ (.inr (out,q)))
def R_Pauli_On.c100003s:Shape:=R_Pauli_On.c220501s
def R_Pauli_On.c100003x0:Shape:=R_Pauli_On.c220501s
def R_Pauli_On.c100003r:Ck:=Ck.ofLoop (S:=(List ((List ((Bool)×(List Int)))×Int))×Int) (T:=(List ((List ((Bool)×(List Int)))×Int))×Int) R_Pauli_On.c100003s (fun x_=>(x_.2.2.2.1,x_.2.2.2.2.1)) (fun ρ x_ s_ k_=>R_Pauli_On.c100003 s_.1 s_.2 x_.2.2.2.2.2.2.1 k_) (fun ρ x_ r_ k_=>k_ 2 (Shape.inj R_Pauli_On.c100003x0 (x_.1,x_.2.1,x_.2.2.1,r_.1,r_.2,x_.2.2.2.2.2)))
def R_Pauli_On.c257349 {ρ:Type} (out:List ((List ((Bool)×(List Int)))×Int)) (p0:Bool) (k_:List ((List ((Bool)×(List Int)))×Int) → Option ρ):Option ρ :=
 br p0
 (bnd (W.R_Gate out ((1:Int),(8:Int),[],(0:Int),(0:Int),[])) fun y =>
 k_ y)
 (k_ out)
def R_Pauli_On.c257349s:Shape:=R_Pauli_On.c220501s
def R_Pauli_On.c257349x0:Shape:=R_Pauli_On.c220501s
def R_Pauli_On.c257349r:Ck:=Ck.of (T:=List ((List ((Bool)×(List Int)))×Int)) R_Pauli_On.c257349s (fun ρ x_ k_=>R_Pauli_On.c257349 x_.2.2.2.1 x_.2.2.2.2.2.1 k_) (fun ρ x_ r_ k_=>k_ 0 (Shape.inj R_Pauli_On.c257349x0 (x_.1,x_.2.1,x_.2.2.1,r_,x_.2.2.2.2)))
def R_Pauli_On (p:(Bool)×(List UInt8)) (v:List ((List ((Bool)×(List Int)))×Int)):Option (List ((List ((Bool)×(List Int)))×Int)) :=
 bnd (okIf (decide (((0:Nat) + List.length v) * (264:Nat) ≤ (140737488355328:Nat)) && decide ((0:Nat) + List.length v ≤ (140737488355328:Nat)))) fun y =>
 bnd (iter (fun s ↦ W.R_Pauli_On.c100003 (Prod.fst s) (Prod.snd s) (Prod.snd p) some) (v,(0:Int))) fun y_1 =>
 bnd (W.R_Pauli_On.c257349 (Prod.fst y_1) (Prod.fst p) some) fun y_2 =>
 some y_2
def R_Pauli_On.ce:Go.Ql.Callee:=⟨[(.st (.pair .bool .str)),(.sl (.st (.pair (.ar 8 (.st (.pair .bool (.sl (.int .i64))))) (.int .i64))))],[(.sl (.st (.pair (.ar 8 (.st (.pair .bool (.sl (.int .i64))))) (.int .i64))))],fun x_=>R_Pauli_On x_.1 x_.2⟩
def R_Pauli_On.G:Env:=⟨51,tab,[(24,R_Gate.ce)],[0,1,2,4,5,6,13,19,20,26,32,46],[],[],[(257349,R_Pauli_On.c257349r),(100003,R_Pauli_On.c100003r),(220501,R_Pauli_On.c220501r)],[],tab_eqs⟩
theorem R_Pauli_On.eq (x_:dens R_Pauli_On.ce.params):den R_Pauli_On.G Try.f18 R_Pauli_On.ce.params R_Pauli_On.ce.res x_ = R_Pauli_On.ce.F x_:=by kernel_rfl
theorem R_Pauli_On.p0:PcA R_Pauli_On.G Try.f18 0 :=
 loop_ok (s:=R_Pauli_On.c100003r) (by kernel_rfl) (by kernel_rfl) (loops_of (sh:=R_Pauli_On.c100003s) (I:=fun x_ s_=>(x_.1,x_.2.1,x_.2.2.1,s_.1,s_.2,x_.2.2.2.2.2)) (fun x_=>rfl) (fun ρ x_ s_ k_=>(nat_br (nat_bnd fun _=>nat_leaf) nat_leaf)) (fun ρ x_ t k=>(by kernel_rfl)) (fun x_ s=>by kernel_rfl))
theorem R_Pauli_On.p1:PcA R_Pauli_On.G Try.f18 1 :=
 join_ok (s:=R_Pauli_On.c220501r) (by kernel_rfl) (by kernel_rfl) (sums_of (sh:=R_Pauli_On.c220501s) (fun ρ x_ k_=>(nat_bnd fun _=>(nat_br (nat_bnd fun _=>nat_leaf) (nat_br (nat_bnd fun _=>nat_leaf) (nat_br (nat_bnd fun _=>(nat_bnd fun _=>(nat_bnd fun _=>nat_leaf))) nat_leaf))))) (fun ρ x_ t k=>(by kernel_rfl)) (fun x_=>by kernel_rfl))
theorem R_Pauli_On.p2:PcA R_Pauli_On.G Try.f18 2 :=
 join_ok (s:=R_Pauli_On.c257349r) (by kernel_rfl) (by kernel_rfl) (sums_of (sh:=R_Pauli_On.c257349s) (fun ρ x_ k_=>(nat_br (nat_bnd fun _=>nat_leaf) nat_leaf)) (fun ρ x_ t k=>(by kernel_rfl)) (fun x_=>by kernel_rfl))
theorem R_Pauli_On.ok:CalleeOk Try.prog 18 R_Pauli_On.ce:=fn_ok (G:=R_Pauli_On.G) tab_ok mixed Try.func18 ⟨(fns_cons R_Gate.ok fns_nil),mfns_nil,tab_eqs_ok⟩ (m:=3) (by kernel_rfl) ⟨⟨⟨trivial,R_Pauli_On.p0⟩,R_Pauli_On.p1⟩,R_Pauli_On.p2⟩ (by kernel_rfl) R_Pauli_On.eq
def R_ZText.c216389 {ρ:Type} (text:List UInt8) (a0:Bool) (k_:List UInt8 → Option ρ):Option ρ :=
 br a0
 (k_ (Array.toList (ByteArray.data (ByteArray.mk #[(45:UInt8)]))))
 (k_ text)
def R_ZText.c216389s:Shape:=⟨[(0,tb102),(1,tb1),(2,tb4),(3,tb4)],[(1,tb98)]⟩
def R_ZText.c216389x0:Shape:=R_ZText.c216389s
def R_ZText.c216389r:Ck:=Ck.of (T:=List UInt8) R_ZText.c216389s (fun ρ x_ k_=>R_ZText.c216389 x_.2.2.1 x_.2.2.2.1 k_) (fun ρ x_ r_ k_=>k_ 0 (Shape.inj R_ZText.c216389x0 (x_.1,x_.2.1,r_,x_.2.2.2)))
def R_ZText.c9 {ρ:Type} (i:Int) (a1:List Int) (k_:List Int → Option ρ):Option ρ :=
 bnd (idx a1 i) fun y =>
 bnd (idx a1 i) fun y_1 =>
 bnd (idx a1 i) fun y_2 =>
 bnd (idx a1 i) fun y_3 =>
 k_ ([IntKind.wrap IntKind.u8 (IntKind.wrap IntKind.i64 ((48:Int) + IntKind.wrap IntKind.i64 (Int.tdiv y (1000:Int)))),IntKind.wrap IntKind.u8 (IntKind.wrap IntKind.i64 ((48:Int) + Int.tmod (IntKind.wrap IntKind.i64 (Int.tdiv y_1 (100:Int))) (10:Int))),IntKind.wrap IntKind.u8 (IntKind.wrap IntKind.i64 ((48:Int) + Int.tmod (IntKind.wrap IntKind.i64 (Int.tdiv y_2 (10:Int))) (10:Int))),IntKind.wrap IntKind.u8 (IntKind.wrap IntKind.i64 ((48:Int) + Int.tmod y_3 (10:Int)))])
def R_ZText.c9s:Shape:=⟨[(0,tb102),(1,tb1),(2,tb4),(3,tb4),(4,tb5)],[(1,tb98)]⟩
def R_ZText.c9x0:Shape:=⟨[(0,tb102),(1,tb1),(2,tb4),(3,tb4),(4,tb5),(5,tb68)],[(1,tb98)]⟩
def R_ZText.c9r:Ck:=Ck.of (T:=List Int) R_ZText.c9s (fun ρ x_ k_=>R_ZText.c9 x_.2.2.2.1 x_.2.2.2.2.2.1 k_) (fun ρ x_ r_ k_=>k_ 0 (Shape.inj R_ZText.c9x0 (x_.1,x_.2.1,x_.2.2.1,x_.2.2.2.1,r_,x_.2.2.2.2)))
def R_ZText.c11 {ρ:Type} (i:Int) (four:List Int) (t6:Int) (a1:List Int) (k_:Bool → Option ρ):Option ρ :=
 br (i == IntKind.wrap IntKind.i64 ((↑(List.length a1):Int) - (1:Int)))
 (br (decide (t6 < (3:Int)))
 (bnd (idx four t6) fun y =>
 k_ (y == (48:Int)))
 (k_ false))
 (k_ false)
def R_ZText.c11s:Shape:=⟨[(0,tb102),(1,tb1),(2,tb4),(3,tb4),(4,tb5),(5,tb68),(6,tb5)],[(1,tb98)]⟩
def R_ZText.c11x0:Shape:=⟨[(0,tb102),(1,tb1),(2,tb4),(3,tb4),(4,tb5),(5,tb68),(6,tb5),(72,tb7)],[(1,tb98)]⟩
def R_ZText.c11r:Ck:=Ck.of (T:=Bool) R_ZText.c11s (fun ρ x_ k_=>R_ZText.c11 x_.2.2.2.1 x_.2.2.2.2.1 x_.2.2.2.2.2.1 x_.2.2.2.2.2.2.2.1 k_) (fun ρ x_ r_ k_=>k_ 0 (Shape.inj R_ZText.c11x0 (x_.1,x_.2.1,x_.2.2.1,x_.2.2.2.1,x_.2.2.2.2.1,x_.2.2.2.2.2.1,r_,x_.2.2.2.2.2.2)))
def R_ZText.c100011 {ρ:Type} (i:Int) (four:List Int) (t6:Int) (a1:List Int) (k_:Int ⊕ Int → Option ρ):Option ρ :=
 bnd (W.R_ZText.c11 i four t6 a1 some) fun y =>
 br y
 (k_ (.inl (IntKind.wrap IntKind.i64 (t6 + (1:Int)))))
 (k_ (.inr t6))
def R_ZText.c100011s:Shape:=R_ZText.c11s
def R_ZText.c100011x0:Shape:=R_ZText.c11s
def R_ZText.c100011r:Ck:=Ck.ofLoop (S:=Int) (T:=Int) R_ZText.c100011s (fun x_=>x_.2.2.2.2.2.1) (fun ρ x_ s_ k_=>R_ZText.c100011 x_.2.2.2.1 x_.2.2.2.2.1 s_ x_.2.2.2.2.2.2.2.1 k_) (fun ρ x_ r_ k_=>k_ 4 (Shape.inj R_ZText.c100011x0 (x_.1,x_.2.1,x_.2.2.1,x_.2.2.2.1,x_.2.2.2.2.1,r_,x_.2.2.2.2.2.2)))
def R_ZText.c100007 {ρ:Type} (text:List UInt8) (i:Int) (a1:List Int) (k_:((List UInt8)×Int) ⊕ ((List UInt8)×Int) → Option ρ):Option ρ :=
 br (decide (i ≥ (0:Int)))
 (bnd (W.R_ZText.c9 i a1 some) fun y =>
 bnd (iter (fun s ↦ W.R_ZText.c100011 i y s a1 some) (0:Int)) fun y_1 =>
 bnd (okIf (decide ((0:Int) ≤ y_1) && decide (y_1 ≤ (↑(List.length y):Int)) && decide ((↑(List.length y):Int) ≤ (↑(List.length y):Int)))) fun y_2 =>
 bnd (okIf (decide (List.length text + List.length (List.map (fun n ↦ UInt8.ofNat (Int.toNat n)) (List.drop (Int.toNat y_1) (List.take (Int.toNat (↑(List.length y):Int)) y))) ≤ (9223372036854775807:Nat)))) fun y_3 =>
 k_ (.inl ((text ++ List.map (fun n ↦ UInt8.ofNat (Int.toNat n)) (List.drop (Int.toNat y_1) (List.take (Int.toNat (↑(List.length y):Int)) y))),(IntKind.wrap IntKind.i64 (i - (1:Int))))))
 (k_ (.inr (text,i)))
def R_ZText.c100007s:Shape:=R_ZText.c9s
def R_ZText.c100007x0:Shape:=R_ZText.c9s
def R_ZText.c100007r:Ck:=Ck.ofLoop (S:=(List UInt8)×Int) (T:=(List UInt8)×Int) R_ZText.c100007s (fun x_=>(x_.2.2.1,x_.2.2.2.1)) (fun ρ x_ s_ k_=>R_ZText.c100007 s_.1 s_.2 x_.2.2.2.2.2.1 k_) (fun ρ x_ r_ k_=>k_ 2 (Shape.inj R_ZText.c100007x0 (x_.1,x_.2.1,r_.1,r_.2,x_.2.2.2.2)))
def R_ZText (a:(Bool)×(List Int)):Option (List UInt8) :=
 br ((↑(List.length (Prod.snd a)):Int) == (0:Int))
 (some (Array.toList (ByteArray.data (ByteArray.mk #[(48:UInt8)]))))
 (bnd (W.R_ZText.c216389 (Array.toList (ByteArray.data (ByteArray.mk #[]))) (Prod.fst a) some) fun y =>
 bnd (iter (fun s ↦ W.R_ZText.c100007 (Prod.fst s) (Prod.snd s) (Prod.snd a) some) (y,IntKind.wrap IntKind.i64 ((↑(List.length (Prod.snd a)):Int) - (1:Int)))) fun y_1 =>
 some (Prod.fst y_1))
def R_ZText.ce:Go.Ql.Callee:=⟨[(.st (.pair .bool (.sl (.int .i64))))],[.str],fun x_=>R_ZText x_⟩
def R_ZText.G:Env:=⟨82,tab,[],[0,1,2,3,4,5,6,10,12,18,72],[],[(9,[⟨[],[],[23,29,30,31,32,33,34,35,36,37,38,39,40,41,42,43,44,45,46,47,48,49,50,51,52,53,54],[]⟩,⟨[0],[],[23,29,30,31,32,33,34,35,36,37,38,39,40,41,42,43,44,45,46,47,48,49,50,51,52,53,54],[]⟩,⟨[],[],[21,22,29,30,31,32,33,34,35,36,37,38,39,40,41,42,43,44,45,46,47,48,49,50,51,52,53,54],[]⟩,⟨[1,0,2],[],[29,30,31,32,33,34,35,36,37,38,39,40,41,42,43,44,45,46,47,48,49,50,51,52,53,54],[]⟩,⟨[3,1,0,2],[],[29,30,31,32,33,34,35,36,37,38,39,40,41,42,43,44,45,46,47,48,49,50,51,52,53,54],[]⟩,⟨[4,3,1,0,2],[],[29,30,31,32,33,34,35,36,37,38,39,40,41,42,43,44,45,46,47,48,49,50,51,52,53,54],[]⟩,⟨[5,4,3,1,0,2],[],[29,30,31,32,33,34,35,36,37,38,39,40,41,42,43,44,45,46,47,48,49,50,51,52,53,54],[]⟩,⟨[6,5,4,3,1,0,2],[],[29,30,31,32,33,34,35,36,37,38,39,40,41,42,43,44,45,46,47,48,49,50,51,52,53,54],[]⟩,⟨[],[],[21,22,23,24,25,26,27,28,31,38,39,40,41,42,43,44,45,46,47,48,49,50,51,52,53,54],[]⟩,⟨[8],[],[21,22,23,24,25,26,27,28,31,38,39,40,41,42,43,44,45,46,47,48,49,50,51,52,53,54],[]⟩,⟨[],[],[21,22,23,24,25,26,27,28,29,30,38,39,40,41,42,43,44,45,46,47,48,49,50,51,52,53,54],[]⟩,⟨[9,8,10],[],[21,22,23,24,25,26,27,28,38,39,40,41,42,43,44,45,46,47,48,49,50,51,52,53,54],[]⟩,⟨[11,9,8,10],[],[21,22,23,24,25,26,27,28,38,39,40,41,42,43,44,45,46,47,48,49,50,51,52,53,54],[]⟩,⟨[12,11,9,8,10],[],[21,22,23,24,25,26,27,28,38,39,40,41,42,43,44,45,46,47,48,49,50,51,52,53,54],[]⟩,⟨[13,12,11,9,8,10],[],[21,22,23,24,25,26,27,28,38,39,40,41,42,43,44,45,46,47,48,49,50,51,52,53,54],[]⟩,⟨[14,13,12,11,9,8,10],[],[21,22,23,24,25,26,27,28,38,39,40,41,42,43,44,45,46,47,48,49,50,51,52,53,54],[]⟩,⟨[15,14,13,12,11,9,8,10],[],[21,22,23,24,25,26,27,28,38,39,40,41,42,43,44,45,46,47,48,49,50,51,52,53,54],[]⟩,⟨[],[],[21,22,23,24,25,26,27,28,29,30,31,32,33,34,35,36,37,40,47,48,49,50,51,52,53,54],[]⟩,⟨[17],[],[21,22,23,24,25,26,27,28,29,30,31,32,33,34,35,36,37,40,47,48,49,50,51,52,53,54],[]⟩,⟨[],[],[21,22,23,24,25,26,27,28,29,30,31,32,33,34,35,36,37,38,39,47,48,49,50,51,52,53,54],[]⟩,⟨[18,17,19],[],[21,22,23,24,25,26,27,28,29,30,31,32,33,34,35,36,37,47,48,49,50,51,52,53,54],[]⟩,⟨[20,18,17,19],[],[21,22,23,24,25,26,27,28,29,30,31,32,33,34,35,36,37,47,48,49,50,51,52,53,54],[]⟩,⟨[21,20,18,17,19],[],[21,22,23,24,25,26,27,28,29,30,31,32,33,34,35,36,37,47,48,49,50,51,52,53,54],[]⟩,⟨[22,21,20,18,17,19],[],[21,22,23,24,25,26,27,28,29,30,31,32,33,34,35,36,37,47,48,49,50,51,52,53,54],[]⟩,⟨[23,22,21,20,18,17,19],[],[21,22,23,24,25,26,27,28,29,30,31,32,33,34,35,36,37,47,48,49,50,51,52,53,54],[]⟩,⟨[24,23,22,21,20,18,17,19],[],[21,22,23,24,25,26,27,28,29,30,31,32,33,34,35,36,37,47,48,49,50,51,52,53,54],[]⟩,⟨[],[],[21,22,23,24,25,26,27,28,29,30,31,32,33,34,35,36,37,38,39,40,41,42,43,44,45,46,49],[]⟩,⟨[26],[],[21,22,23,24,25,26,27,28,29,30,31,32,33,34,35,36,37,38,39,40,41,42,43,44,45,46,49],[]⟩,⟨[],[],[21,22,23,24,25,26,27,28,29,30,31,32,33,34,35,36,37,38,39,40,41,42,43,44,45,46,47,48],[]⟩,⟨[27,26,28],[],[21,22,23,24,25,26,27,28,29,30,31,32,33,34,35,36,37,38,39,40,41,42,43,44,45,46],[]⟩,⟨[29,27,26,28],[],[21,22,23,24,25,26,27,28,29,30,31,32,33,34,35,36,37,38,39,40,41,42,43,44,45,46],[]⟩,⟨[30,29,27,26,28],[],[21,22,23,24,25,26,27,28,29,30,31,32,33,34,35,36,37,38,39,40,41,42,43,44,45,46],[]⟩,⟨[31,30,29,27,26,28],[],[21,22,23,24,25,26,27,28,29,30,31,32,33,34,35,36,37,38,39,40,41,42,43,44,45,46],[]⟩,⟨[32,31,30,29,27,26,28],[],[21,22,23,24,25,26,27,28,29,30,31,32,33,34,35,36,37,38,39,40,41,42,43,44,45,46],[]⟩,⟨[7,6,5,4,3,1,0,2,16,15,14,13,12,11,9,8,10,25,24,23,22,21,20,18,17,19,33,32,31,30,29,27,26,28],[55],[],[]⟩,⟨[34,7,6,5,4,3,1,0,2,16,15,14,13,12,11,9,8,10,25,24,23,22,21,20,18,17,19,33,32,31,30,29,27,26,28],[],[],[]⟩])],[(100007,R_ZText.c100007r),(100011,R_ZText.c100011r),(11,R_ZText.c11r),(9,R_ZText.c9r),(216389,R_ZText.c216389r)],[],tab_eqs⟩
theorem R_ZText.eq (x_:dens R_ZText.ce.params):den R_ZText.G Try.f91 R_ZText.ce.params R_ZText.ce.res x_ = R_ZText.ce.F x_:=by kernel_rfl
theorem R_ZText.p0:PcA R_ZText.G Try.f91 0 :=
 join_ok (s:=R_ZText.c216389r) (by kernel_rfl) (by kernel_rfl) (sums_of (sh:=R_ZText.c216389s) (fun ρ x_ k_=>(nat_br nat_leaf nat_leaf)) (fun ρ x_ t k=>(by kernel_rfl)) (fun x_=>by kernel_rfl))
theorem R_ZText.p1:PcA R_ZText.G Try.f91 1 :=
 loop_ok (s:=R_ZText.c100007r) (by kernel_rfl) (by kernel_rfl) (loops_of (sh:=R_ZText.c100007s) (I:=fun x_ s_=>(x_.1,x_.2.1,s_.1,s_.2,x_.2.2.2.2)) (fun x_=>rfl) (fun ρ x_ s_ k_=>(nat_br (nat_bnd fun _=>(nat_bnd fun _=>(nat_bnd fun _=>(nat_bnd fun _=>nat_leaf)))) nat_leaf)) (fun ρ x_ t k=>(by kernel_rfl)) (fun x_ s=>by kernel_rfl))
theorem R_ZText.p2:PcA R_ZText.G Try.f91 2 :=
 region_ok (s:=R_ZText.c9r) (by kernel_rfl) (by kernel_rfl) (sums_of (sh:=R_ZText.c9s) (fun ρ x_ k_=>(nat_bnd fun _=>(nat_bnd fun _=>(nat_bnd fun _=>(nat_bnd fun _=>nat_leaf))))) (fun ρ x_ t k=>(by kernel_rfl)) (fun x_=>by kernel_rfl))
theorem R_ZText.p3:PcA R_ZText.G Try.f91 3 :=
 loop_ok (s:=R_ZText.c100011r) (by kernel_rfl) (by kernel_rfl) (loops_of (sh:=R_ZText.c100011s) (I:=fun x_ s_=>(x_.1,x_.2.1,x_.2.2.1,x_.2.2.2.1,x_.2.2.2.2.1,s_,x_.2.2.2.2.2.2)) (fun x_=>rfl) (fun ρ x_ s_ k_=>(nat_bnd fun _=>(nat_br nat_leaf nat_leaf))) (fun ρ x_ t k=>(by kernel_rfl)) (fun x_ s=>by kernel_rfl))
theorem R_ZText.p4:PcA R_ZText.G Try.f91 4 :=
 region_ok (s:=R_ZText.c11r) (by kernel_rfl) (by kernel_rfl) (sums_of (sh:=R_ZText.c11s) (fun ρ x_ k_=>(nat_br (nat_br (nat_bnd fun _=>nat_leaf) nat_leaf) nat_leaf)) (fun ρ x_ t k=>(by kernel_rfl)) (fun x_=>by kernel_rfl))
theorem R_ZText.ok:CalleeOk Try.prog 91 R_ZText.ce:=fn_ok (G:=R_ZText.G) tab_ok mixed Try.func91 ⟨fns_nil,mfns_nil,tab_eqs_ok⟩ (m:=5) (by kernel_rfl) ⟨⟨⟨⟨⟨trivial,R_ZText.p0⟩,R_ZText.p1⟩,R_ZText.p2⟩,R_ZText.p3⟩,R_ZText.p4⟩ (by kernel_rfl) R_ZText.eq
def R_RText.c220486 {ρ:Type} (a_1:(List ((Bool)×(List Int)))×Int) (last:Int) (i:Int) (k_:Int → Option ρ):Option ρ :=
 bnd (idx (Prod.fst a_1) i) fun y =>
 br (decide ((↑(List.length (Prod.snd y)):Int) > (0:Int)))
 (k_ i)
 (k_ last)
def R_RText.c220486s:Shape:=⟨[(0,tb100),(1,tb101),(2,tb4),(3,tb5),(4,tb5)],[]⟩
def R_RText.c220486x0:Shape:=R_RText.c220486s
def R_RText.c220486r:Ck:=Ck.of (T:=Int) R_RText.c220486s (fun ρ x_ k_=>R_RText.c220486 x_.2.1 x_.2.2.2.1 x_.2.2.2.2.1 k_) (fun ρ x_ r_ k_=>k_ 0 (Shape.inj R_RText.c220486x0 (x_.1,x_.2.1,x_.2.2.1,r_,x_.2.2.2.2)))
def R_RText.c100003 {ρ:Type} (a_1:(List ((Bool)×(List Int)))×Int) (last:Int) (i:Int) (k_:(Int×Int) ⊕ (Int×Int) → Option ρ):Option ρ :=
 br (decide (i < (8:Int)))
 (bnd (W.R_RText.c220486 a_1 last i some) fun y =>
 k_ (.inl (y,(IntKind.wrap IntKind.i64 (i + (1:Int))))))
 (k_ (.inr (last,i)))
def R_RText.c100003s:Shape:=R_RText.c220486s
def R_RText.c100003x0:Shape:=R_RText.c220486s
def R_RText.c100003r:Ck:=Ck.ofLoop (S:=Int×Int) (T:=Int×Int) R_RText.c100003s (fun x_=>(x_.2.2.2.1,x_.2.2.2.2.1)) (fun ρ x_ s_ k_=>R_RText.c100003 x_.2.1 s_.1 s_.2 k_) (fun ρ x_ r_ k_=>k_ 2 (Shape.inj R_RText.c100003x0 (x_.1,x_.2.1,x_.2.2.1,r_.1,r_.2,())))
def R_RText.c100009 {ρ:Type} (a_1:(List ((Bool)×(List Int)))×Int) (last:Int) (text:List UInt8) (i_1:Int) (k_:((List UInt8)×Int) ⊕ ((List UInt8)×Int) → Option ρ):Option ρ :=
 br (decide (i_1 ≤ last))
 (bnd (idx (Prod.fst a_1) i_1) fun y =>
 bnd (W.R_ZText y) fun y_1 =>
 bnd (okIf (decide (List.length (Array.toList (ByteArray.data (ByteArray.mk #[(44:UInt8)]))) + List.length y_1 ≤ (9223372036854775807:Nat)))) fun y_2 =>
 bnd (okIf (decide (List.length text + List.length (Array.toList (ByteArray.data (ByteArray.mk #[(44:UInt8)])) ++ y_1) ≤ (9223372036854775807:Nat)))) fun y_3 =>
 k_ (.inl ((text ++ (Array.toList (ByteArray.data (ByteArray.mk #[(44:UInt8)])) ++ y_1)),(IntKind.wrap IntKind.i64 (i_1 + (1:Int))))))
 (k_ (.inr (text,i_1)))
def R_RText.c100009s:Shape:=⟨[(0,tb100),(1,tb101),(2,tb4),(3,tb5),(4,tb5),(5,tb4),(6,tb5)],[]⟩
def R_RText.c100009x0:Shape:=R_RText.c100009s
def R_RText.c100009r:Ck:=Ck.ofLoop (S:=(List UInt8)×Int) (T:=(List UInt8)×Int) R_RText.c100009s (fun x_=>(x_.2.2.2.2.2.1,x_.2.2.2.2.2.2.1)) (fun ρ x_ s_ k_=>R_RText.c100009 x_.2.1 x_.2.2.2.1 s_.1 s_.2 k_) (fun ρ x_ r_ k_=>k_ 4 (Shape.inj R_RText.c100009x0 (x_.1,x_.2.1,x_.2.2.1,x_.2.2.2.1,x_.2.2.2.2.1,r_.1,r_.2,())))
def R_RText.c249157 {ρ:Type} (a_1:(List ((Bool)×(List Int)))×Int) (text:List UInt8) (k_:List UInt8 → Option ρ):Option ρ :=
 br (decide (Prod.snd a_1 > (0:Int)))
 (bnd (W.R_ZOf (Prod.snd a_1)) fun y =>
 bnd (W.R_ZText y) fun y_1 =>
 bnd (okIf (decide (List.length (Array.toList (ByteArray.data (ByteArray.mk #[(47:UInt8)]))) + List.length y_1 ≤ (9223372036854775807:Nat)))) fun y_2 =>
 bnd (okIf (decide (List.length text + List.length (Array.toList (ByteArray.data (ByteArray.mk #[(47:UInt8)])) ++ y_1) ≤ (9223372036854775807:Nat)))) fun y_3 =>
 k_ (text ++ (Array.toList (ByteArray.data (ByteArray.mk #[(47:UInt8)])) ++ y_1)))
 (k_ text)
def R_RText.c249157s:Shape:=R_RText.c100009s
def R_RText.c249157x0:Shape:=R_RText.c100009s
def R_RText.c249157r:Ck:=Ck.of (T:=List UInt8) R_RText.c249157s (fun ρ x_ k_=>R_RText.c249157 x_.2.1 x_.2.2.2.2.2.1 k_) (fun ρ x_ r_ k_=>k_ 0 (Shape.inj R_RText.c249157x0 (x_.1,x_.2.1,x_.2.2.1,x_.2.2.2.1,x_.2.2.2.2.1,r_,x_.2.2.2.2.2.2)))
def R_RText (a:(List ((Bool)×(List Int)))×Int):Option (List UInt8) :=
 bnd (iter (fun s ↦ W.R_RText.c100003 a (Prod.fst s) (Prod.snd s) some) ((0:Int),(0:Int))) fun y =>
 bnd (idx (Prod.fst a) (0:Int)) fun y_1 =>
 bnd (W.R_ZText y_1) fun y_2 =>
 bnd (iter (fun s ↦ W.R_RText.c100009 a (Prod.fst y) (Prod.fst s) (Prod.snd s) some) (y_2,(1:Int))) fun y_3 =>
 bnd (W.R_RText.c249157 a (Prod.fst y_3) some) fun y_4 =>
 some y_4
def R_RText.ce:Go.Ql.Callee:=⟨[(.st (.pair (.ar 8 (.st (.pair .bool (.sl (.int .i64))))) (.int .i64)))],[.str],fun x_=>R_RText x_⟩
def R_RText.G:Env:=⟨47,tab,[(91,R_ZText.ce),(60,R_ZOf.ce)],[0,1,2,3,4,5,6,8,17,25,38],[8000001],[],[(249157,R_RText.c249157r),(100009,R_RText.c100009r),(100003,R_RText.c100003r),(220486,R_RText.c220486r)],[],tab_eqs⟩
theorem R_RText.eq (x_:dens R_RText.ce.params):den R_RText.G Try.f50 R_RText.ce.params R_RText.ce.res x_ = R_RText.ce.F x_:=by kernel_rfl
theorem R_RText.p0:PcA R_RText.G Try.f50 0 :=
 loop_ok (s:=R_RText.c100003r) (by kernel_rfl) (by kernel_rfl) (loops_of (sh:=R_RText.c100003s) (I:=fun x_ s_=>(x_.1,x_.2.1,x_.2.2.1,s_.1,s_.2,())) (fun x_=>rfl) (fun ρ x_ s_ k_=>(nat_br (nat_bnd fun _=>nat_leaf) nat_leaf)) (fun ρ x_ t k=>(by kernel_rfl)) (fun x_ s=>by kernel_rfl))
theorem R_RText.p1:PcA R_RText.G Try.f50 1 :=
 join_ok (s:=R_RText.c220486r) (by kernel_rfl) (by kernel_rfl) (sums_of (sh:=R_RText.c220486s) (fun ρ x_ k_=>(nat_bnd fun _=>(nat_br nat_leaf nat_leaf))) (fun ρ x_ t k=>(by kernel_rfl)) (fun x_=>by kernel_rfl))
theorem R_RText.p2:PcA R_RText.G Try.f50 2 :=
 loop_ok (s:=R_RText.c100009r) (by kernel_rfl) (by kernel_rfl) (loops_of (sh:=R_RText.c100009s) (I:=fun x_ s_=>(x_.1,x_.2.1,x_.2.2.1,x_.2.2.2.1,x_.2.2.2.2.1,s_.1,s_.2,())) (fun x_=>rfl) (fun ρ x_ s_ k_=>(nat_br (nat_bnd fun _=>(nat_bnd fun _=>(nat_bnd fun _=>(nat_bnd fun _=>nat_leaf)))) nat_leaf)) (fun ρ x_ t k=>(by kernel_rfl)) (fun x_ s=>by kernel_rfl))
theorem R_RText.p3:PcA R_RText.G Try.f50 3 :=
 join_ok (s:=R_RText.c249157r) (by kernel_rfl) (by kernel_rfl) (sums_of (sh:=R_RText.c249157s) (fun ρ x_ k_=>(nat_br (nat_bnd fun _=>(nat_bnd fun _=>(nat_bnd fun _=>(nat_bnd fun _=>nat_leaf)))) nat_leaf)) (fun ρ x_ t k=>(by kernel_rfl)) (fun x_=>by kernel_rfl))
theorem R_RText.ok:CalleeOk Try.prog 50 R_RText.ce:=fn_ok (G:=R_RText.G) tab_ok mixed Try.func50 ⟨(fns_cons R_ZText.ok (fns_cons R_ZOf.ok fns_nil)),mfns_nil,tab_eqs_ok⟩ (m:=4) (by kernel_rfl) ⟨⟨⟨⟨trivial,R_RText.p0⟩,R_RText.p1⟩,R_RText.p2⟩,R_RText.p3⟩ (by kernel_rfl) R_RText.eq
def R_Texts.c100003 {ρ:Type} (v:List ((List ((Bool)×(List Int)))×Int)) (x:Int) (out:List (List UInt8)) (k_:(Int×(List (List UInt8))) ⊕ (Int×(List (List UInt8))) → Option ρ):Option ρ :=
 br (decide (x < (↑(List.length v):Int)))
 (bnd (idx v x) fun y =>
 bnd (W.R_RText y) fun y_1 =>
 bnd (okIf (decide ((List.length out + (1:Nat)) * (16:Nat) ≤ (140737488355328:Nat)) && decide (List.length out + (1:Nat) ≤ (140737488355328:Nat)))) fun y_2 =>
 k_ (.inl ((IntKind.wrap IntKind.i64 (x + (1:Int))),(out ++ [y_1]))))
 (k_ (.inr (x,out)))
def R_Texts.c100003s:Shape:=⟨[(0,tb109),(2,tb21),(3,tb46),(4,tb5)],[(3,tb47)]⟩
def R_Texts.c100003x0:Shape:=R_Texts.c100003s
def R_Texts.c100003r:Ck:=Ck.ofLoop (S:=Int×(List (List UInt8))) (T:=Int×(List (List UInt8))) R_Texts.c100003s (fun x_=>(x_.2.2.1,x_.2.2.2.1)) (fun ρ x_ s_ k_=>R_Texts.c100003 x_.1 s_.1 s_.2 k_) (fun ρ x_ r_ k_=>k_ 2 (Shape.inj R_Texts.c100003x0 (x_.1,x_.2.1,r_.1,r_.2,())))
def R_Texts (v:List ((List ((Bool)×(List Int)))×Int)):Option (List (List UInt8)) :=
 bnd (iter (fun s ↦ W.R_Texts.c100003 v (Prod.fst s) (Prod.snd s) some) ((0:Int),[])) fun y =>
 some (Prod.snd y)
def R_Texts.ce:Go.Ql.Callee:=⟨[(.sl (.st (.pair (.ar 8 (.st (.pair .bool (.sl (.int .i64))))) (.int .i64))))],[(.sl .str)],fun x_=>R_Texts x_⟩
def R_Texts.G:Env:=⟨20,tab,[(50,R_RText.ce)],[0,2,3,4,8],[3],[],[(100003,R_Texts.c100003r)],[],tab_eqs⟩
theorem R_Texts.eq (x_:dens R_Texts.ce.params):den R_Texts.G Try.f17 R_Texts.ce.params R_Texts.ce.res x_ = R_Texts.ce.F x_:=by kernel_rfl
theorem R_Texts.p0:PcA R_Texts.G Try.f17 0 :=
 loop_ok (s:=R_Texts.c100003r) (by kernel_rfl) (by kernel_rfl) (loops_of (sh:=R_Texts.c100003s) (I:=fun x_ s_=>(x_.1,x_.2.1,s_.1,s_.2,())) (fun x_=>rfl) (fun ρ x_ s_ k_=>(nat_br (nat_bnd fun _=>(nat_bnd fun _=>(nat_bnd fun _=>nat_leaf))) nat_leaf)) (fun ρ x_ t k=>(by kernel_rfl)) (fun x_ s=>by kernel_rfl))
theorem R_Texts.ok:CalleeOk Try.prog 17 R_Texts.ce:=fn_ok (G:=R_Texts.G) tab_ok mixed Try.func17 ⟨(fns_cons R_RText.ok fns_nil),mfns_nil,tab_eqs_ok⟩ (m:=1) (by kernel_rfl) ⟨trivial,R_Texts.p0⟩ (by kernel_rfl) R_Texts.eq
end
end W
end

section
set_option maxHeartbeats 4000000
set_option maxRecDepth 100000
set_option linter.unusedVariables false
namespace W
open Go Go.Ql Go.Proofs
noncomputable section
abbrev tb112:SD:=.one (.ref 10 0)
def Law_TableauImages.c220485 {ρ:Type} (c0:Int) (c1:Int) (c2:List (Int×(Int×((List Int)×(Int×(Int×(List Int))))))) (g0:Int) (g1:Int) (k_:Int×Int → Option ρ):Option ρ :=
 br (g0 == (0:Int))
 (bnd (W.R_NormalFault (c0,c1,c2)) fun y =>
 k_ ((Prod.fst y),(Prod.snd y)))
 (k_ (g0,g1))
def Law_TableauImages.c220485s:Shape:=⟨[(0,tb38),(1,tb4),(2,tb2),(4,tb7),(5,tb4),(6,tb8),(7,tb42)],[(2,tb34),(6,tb19),(7,tb19)]⟩
def Law_TableauImages.c220485x0:Shape:=Law_TableauImages.c220485s
def Law_TableauImages.c220485r:Ck:=Ck.of (T:=Int×Int) Law_TableauImages.c220485s (fun ρ x_ k_=>Law_TableauImages.c220485 x_.2.2.2.2.1 x_.2.2.2.2.2.1 x_.2.2.2.2.2.2.1 x_.2.2.2.2.2.2.2.2.2.1 x_.2.2.2.2.2.2.2.2.2.2.1 k_) (fun ρ x_ r_ k_=>k_ 0 (Shape.inj Law_TableauImages.c220485x0 (x_.1,x_.2.1,x_.2.2.1,x_.2.2.2.1,x_.2.2.2.2.1,x_.2.2.2.2.2.1,x_.2.2.2.2.2.2.1,x_.2.2.2.2.2.2.2.1,x_.2.2.2.2.2.2.2.2.1,r_.1,r_.2,())))
def Law_TableauImages.c8 {ρ:Type} (is:Bool) (g0:Int) (k_:Bool → Option ρ):Option ρ :=
 br (g0 == (0:Int))
 (k_ (!is))
 (k_ false)
def Law_TableauImages.c8s:Shape:=⟨[(0,tb38),(1,tb4),(2,tb2),(4,tb7),(5,tb4),(6,tb8),(7,tb42),(8,tb27),(9,tb7)],[(2,tb34),(6,tb19),(7,tb19),(8,tb45)]⟩
def Law_TableauImages.c8x0:Shape:=⟨[(0,tb38),(1,tb4),(2,tb2),(4,tb7),(5,tb4),(6,tb8),(7,tb42),(8,tb27),(9,tb7),(44,tb7)],[(2,tb34),(6,tb19),(7,tb19),(8,tb45)]⟩
def Law_TableauImages.c8r:Ck:=Ck.of (T:=Bool) Law_TableauImages.c8s (fun ρ x_ k_=>Law_TableauImages.c8 x_.2.2.2.2.1 x_.2.2.2.2.2.2.2.2.2.2.1 k_) (fun ρ x_ r_ k_=>k_ 0 (Shape.inj Law_TableauImages.c8x0 (x_.1,x_.2.1,x_.2.2.1,x_.2.2.2.1,x_.2.2.2.2.1,r_,x_.2.2.2.2.2)))
def Law_TableauImages.c232773 {ρ:Type} (is:Bool) (g0:Int) (g1:Int) (k_:Int×Int → Option ρ):Option ρ :=
 bnd (W.Law_TableauImages.c8 is g0 some) fun y =>
 br y
 (k_ ((33:Int),(0:Int)))
 (k_ (g0,g1))
def Law_TableauImages.c232773s:Shape:=Law_TableauImages.c8s
def Law_TableauImages.c232773x0:Shape:=Law_TableauImages.c8s
def Law_TableauImages.c232773r:Ck:=Ck.of (T:=Int×Int) Law_TableauImages.c232773s (fun ρ x_ k_=>Law_TableauImages.c232773 x_.2.2.2.2.1 x_.2.2.2.2.2.2.2.2.2.2.1 x_.2.2.2.2.2.2.2.2.2.2.2.1 k_) (fun ρ x_ r_ k_=>k_ 0 (Shape.inj Law_TableauImages.c232773x0 (x_.1,x_.2.1,x_.2.2.1,x_.2.2.2.1,x_.2.2.2.2.1,x_.2.2.2.2.2.1,x_.2.2.2.2.2.2.1,x_.2.2.2.2.2.2.2.1,x_.2.2.2.2.2.2.2.2.1,x_.2.2.2.2.2.2.2.2.2.1,r_.1,r_.2,x_.2.2.2.2.2.2.2.2.2.2.2.2)))
def Law_TableauImages.c22 {ρ:Type} (x:Int) (c0:Int) (p0:Bool) (p1:List UInt8) (k_:List ((List ((Bool)×(List Int)))×Int) → Option ρ):Option ρ :=
 bnd (W.R_Basis c0 x) fun y =>
 bnd (W.R_Pauli_On (p0,p1) y) fun y_1 =>
 k_ y_1
def Law_TableauImages.c22s:Shape:=⟨[(0,tb38),(1,tb4),(2,tb2),(4,tb7),(5,tb4),(6,tb8),(7,tb42),(8,tb27),(9,tb7),(10,tb112),(11,tb5)],[(2,tb34),(6,tb19),(7,tb19),(8,tb45),(10,tb45)]⟩
def Law_TableauImages.c22x0:Shape:=⟨[(0,tb38),(1,tb4),(2,tb2),(4,tb7),(5,tb4),(6,tb8),(7,tb42),(8,tb27),(9,tb7),(10,tb112),(11,tb5),(12,tb109)],[(2,tb34),(6,tb19),(7,tb19),(8,tb45),(10,tb45)]⟩
def Law_TableauImages.c22r:Ck:=Ck.of (T:=List ((List ((Bool)×(List Int)))×Int)) Law_TableauImages.c22s (fun ρ x_ k_=>Law_TableauImages.c22 x_.2.2.2.2.2.1 x_.2.2.2.2.2.2.1 x_.2.2.2.2.2.2.2.2.2.2.2.2.2.1 x_.2.2.2.2.2.2.2.2.2.2.2.2.2.2.1 k_) (fun ρ x_ r_ k_=>k_ 0 (Shape.inj Law_TableauImages.c22x0 (x_.1,x_.2.1,x_.2.2.1,x_.2.2.2.1,x_.2.2.2.2.1,x_.2.2.2.2.2.1,r_,x_.2.2.2.2.2.2)))
def Law_TableauImages.c100025 {ρ:Type} (a:List ((List ((Bool)×(List Int)))×Int)) (b:List ((List ((Bool)×(List Int)))×Int)) (i:Int) (c2:List (Int×(Int×((List Int)×(Int×(Int×(List Int))))))) (k_:((List ((List ((Bool)×(List Int)))×Int))×(List ((List ((Bool)×(List Int)))×Int))×Int) ⊕ ((List ((List ((Bool)×(List Int)))×Int))×(List ((List ((Bool)×(List Int)))×Int))×Int) → Option ρ):Option ρ :=
 br (decide (i < (↑(List.length c2):Int)))
 (bnd (idx c2 i) fun y =>
 bnd (W.R_Gate a y) fun y_1 =>
 bnd (idx c2 i) fun y_2 =>
 bnd (W.R_Gate b y_2) fun y_3 =>
 k_ (.inl (y_1,y_3,(IntKind.wrap IntKind.i64 (i + (1:Int))))))
 (k_ (.inr (a,b,i)))
def Law_TableauImages.c100025s:Shape:=⟨[(0,tb38),(1,tb4),(2,tb2),(4,tb7),(5,tb4),(6,tb8),(7,tb42),(8,tb27),(9,tb7),(10,tb112),(11,tb5),(12,tb109),(13,tb109),(14,tb5)],[(2,tb34),(6,tb19),(7,tb19),(8,tb45),(10,tb45)]⟩
def Law_TableauImages.c100025x0:Shape:=Law_TableauImages.c100025s
def Law_TableauImages.c100025r:Ck:=Ck.ofLoop (S:=(List ((List ((Bool)×(List Int)))×Int))×(List ((List ((Bool)×(List Int)))×Int))×Int) (T:=(List ((List ((Bool)×(List Int)))×Int))×(List ((List ((Bool)×(List Int)))×Int))×Int) Law_TableauImages.c100025s (fun x_=>(x_.2.2.2.2.2.2.1,x_.2.2.2.2.2.2.2.1,x_.2.2.2.2.2.2.2.2.1)) (fun ρ x_ s_ k_=>Law_TableauImages.c100025 s_.1 s_.2.1 s_.2.2 x_.2.2.2.2.2.2.2.2.2.2.2.1 k_) (fun ρ x_ r_ k_=>k_ 4 (Shape.inj Law_TableauImages.c100025x0 (x_.1,x_.2.1,x_.2.2.1,x_.2.2.2.1,x_.2.2.2.2.1,x_.2.2.2.2.2.1,r_.1,r_.2.1,r_.2.2,x_.2.2.2.2.2.2.2.2.2)))
def Law_TableauImages.c29 {ρ:Type} (a:List ((List ((Bool)×(List Int)))×Int)) (b:List ((List ((Bool)×(List Int)))×Int)) (o0:Bool) (o1:List UInt8) (k_:Bool → Option ρ):Option ρ :=
 bnd (W.R_Texts a) fun y =>
 bnd (W.R_Pauli_On (o0,o1) b) fun y_1 =>
 bnd (W.R_Texts y_1) fun y_2 =>
 bnd (W.R_SameTexts y y_2) fun y_3 =>
 k_ (!y_3)
def Law_TableauImages.c29s:Shape:=Law_TableauImages.c100025s
def Law_TableauImages.c29x0:Shape:=⟨[(0,tb38),(1,tb4),(2,tb2),(4,tb7),(5,tb4),(6,tb8),(7,tb42),(8,tb27),(9,tb7),(10,tb112),(11,tb5),(12,tb109),(13,tb109),(14,tb5),(111,tb7)],[(2,tb34),(6,tb19),(7,tb19),(8,tb45),(10,tb45)]⟩
def Law_TableauImages.c29r:Ck:=Ck.of (T:=Bool) Law_TableauImages.c29s (fun ρ x_ k_=>Law_TableauImages.c29 x_.2.2.2.2.2.2.1 x_.2.2.2.2.2.2.2.1 x_.2.2.2.2.2.2.2.2.2.2.2.2.2.2.2.2.2.2.1 x_.2.2.2.2.2.2.2.2.2.2.2.2.2.2.2.2.2.2.2.1 k_) (fun ρ x_ r_ k_=>k_ 0 (Shape.inj Law_TableauImages.c29x0 (x_.1,x_.2.1,x_.2.2.1,x_.2.2.2.1,x_.2.2.2.2.1,x_.2.2.2.2.2.1,x_.2.2.2.2.2.2.1,x_.2.2.2.2.2.2.2.1,x_.2.2.2.2.2.2.2.2.1,r_,x_.2.2.2.2.2.2.2.2.2)))
def Law_TableauImages.c100020 {ρ:Type} (x:Int) (c0:Int) (c2:List (Int×(Int×((List Int)×(Int×(Int×(List Int))))))) (p0:Bool) (p1:List UInt8) (o0:Bool) (o1:List UInt8) (k_:Int ⊕ (Int ⊕ Int) → Option ρ):Option ρ :=
 bnd (okIf (decide ((0:Int) ≤ c0))) fun y =>
 br (decide (x < IntKind.wrap IntKind.i64 ((1:Int) * (2:Int) ^ Min.min (Int.toNat c0) (64:Nat))))
 (bnd (W.Law_TableauImages.c22 x c0 p0 p1 some) fun y_1 =>
 bnd (W.R_Basis c0 x) fun y_2 =>
 bnd (iter (fun s ↦ W.Law_TableauImages.c100025 (Prod.fst s) (Prod.fst (Prod.snd s)) (Prod.snd (Prod.snd s)) c2 some) (y_1,y_2,(0:Int))) fun y_3 =>
 bnd (W.Law_TableauImages.c29 (Prod.fst y_3) (Prod.fst (Prod.snd y_3)) o0 o1 some) fun y_4 =>
 br y_4
 (k_ (.inr (.inl x)))
 (k_ (.inl (IntKind.wrap IntKind.i64 (x + (1:Int))))))
 (k_ (.inr (.inr x)))
def Law_TableauImages.c100020s:Shape:=Law_TableauImages.c22s
def Law_TableauImages.c100020x0:Shape:=Law_TableauImages.c22s
def Law_TableauImages.c100020x1:Shape:=Law_TableauImages.c22s
def Law_TableauImages.c100020r:Ck:=Ck.ofLoop (S:=Int) (T:=Int ⊕ Int) Law_TableauImages.c100020s (fun x_=>x_.2.2.2.2.2.1) (fun ρ x_ s_ k_=>Law_TableauImages.c100020 s_ x_.2.2.2.2.2.2.1 x_.2.2.2.2.2.2.2.2.1 x_.2.2.2.2.2.2.2.2.2.2.2.2.2.1 x_.2.2.2.2.2.2.2.2.2.2.2.2.2.2.1 x_.2.2.2.2.2.2.2.2.2.2.2.2.2.2.2.1 x_.2.2.2.2.2.2.2.2.2.2.2.2.2.2.2.2.1 k_) (fun ρ x_ r_ k_=>sel r_ (fun r_=>k_ 1 (Shape.inj Law_TableauImages.c100020x0 (x_.1,x_.2.1,false,x_.2.2.2.1,x_.2.2.2.2.1,r_,x_.2.2.2.2.2.2))) (fun r_=>k_ 2 (Shape.inj Law_TableauImages.c100020x1 (x_.1,x_.2.1,x_.2.2.1,x_.2.2.2.1,x_.2.2.2.2.1,r_,x_.2.2.2.2.2.2))))
def Law_TableauImages (c:Int×(Int×(List (Int×(Int×((List Int)×(Int×(Int×(List Int))))))))) (text:List UInt8):Option (Bool) :=
 bnd (W.R_CopyCircuit (Prod.fst c,Prod.fst (Prod.snd c),Prod.snd (Prod.snd c))) fun y =>
 bnd (W.tableau_Image y text) fun y_1 =>
 bnd W.Law_tableauBegun fun y_2 =>
 br (!y_2)
 (some false)
 (bnd (W.R_Pure (Prod.fst c,Prod.fst (Prod.snd c),Prod.snd (Prod.snd c))) fun y_3 =>
 bnd (W.Law_TableauImages.c220485 (Prod.fst c) (Prod.fst (Prod.snd c)) (Prod.snd (Prod.snd c)) (Prod.fst y_3) (Prod.snd y_3) some) fun y_4 =>
 bnd (W.R_IsPauli text (Prod.fst c)) fun y_5 =>
 bnd (W.Law_TableauImages.c232773 (Prod.snd y_5) (Prod.fst y_4) (Prod.snd y_4) some) fun y_6 =>
 br (!Ty.eqT (Ty.pair (Ty.int IntKind.i64) (Ty.int IntKind.i64)) (Prod.fst (Prod.snd y_1),Prod.snd (Prod.snd y_1)) (Prod.fst y_6,Prod.snd y_6))
 (some false)
 (br (Prod.fst y_6 != (0:Int))
 (some (Prod.fst y_1 == Array.toList (ByteArray.data (ByteArray.mk #[]))))
 (bnd (W.R_IsPauli (Prod.fst y_1) (Prod.fst c)) fun y_7 =>
 br (!Prod.snd y_7)
 (some false)
 (br (decide (Prod.fst c > (5:Int)))
 (some true)
 (bnd (iter (fun s ↦ W.Law_TableauImages.c100020 s (Prod.fst c) (Prod.snd (Prod.snd c)) (Prod.fst (Prod.fst y_5)) (Prod.snd (Prod.fst y_5)) (Prod.fst (Prod.fst y_7)) (Prod.snd (Prod.fst y_7)) some) (0:Int)) fun y_8 =>
 sel y_8
 (fun u=>some false)
 (fun v=>some true))))))
def Law_TableauImages.ce:Go.Ql.Callee:=⟨[(.st (.pair (.int .i64) (.pair (.int .i64) (.sl (.st (.pair (.int .i64) (.pair (.int .i64) (.pair (.sl (.int .i64)) (.pair (.int .i64) (.pair (.int .i64) (.sl (.int .i64)))))))))))),.str],[.bool],fun x_=>Law_TableauImages x_.1 x_.2⟩
def Law_TableauImages.G:Env:=⟨112,tab,[(8,R_CopyCircuit.ce),(20,tableau_Image.ce),(10,Law_tableauBegun.ce),(21,R_Pure.ce),(22,R_NormalFault.ce),(15,R_IsPauli.ce),(23,R_Basis.ce),(18,R_Pauli_On.ce),(24,R_Gate.ce),(17,R_Texts.ce),(16,R_SameTexts.ce)],[0,1,2,4,5,6,7,8,9,10,11,12,13,14,23,28,44,48,51,62,65,70,87,111],[],[(29,[⟨[],[],[106,107],[]⟩,⟨[0],[],[106,107],[]⟩,⟨[],[],[104,105,107],[]⟩,⟨[],[],[104,105,106],[]⟩,⟨[2,3,1,0],[],[],[]⟩,⟨[4,2,3,1,0],[],[],[]⟩,⟨[1,0,5,4,2,3],[],[],[]⟩,⟨[6,1,0,5,4,2,3],[],[],[]⟩]),
 (22,[⟨[],[],[74,75,76,77],[]⟩,⟨[],[],[73,76],[]⟩,⟨[1],[],[73,76],[]⟩,⟨[],[],[73,74,75],[]⟩,⟨[2,1,3],[],[73],[]⟩,⟨[0,4,2,1,3],[],[],[]⟩,⟨[5,0,4,2,1,3],[],[],[]⟩])],[(100020,Law_TableauImages.c100020r),(29,Law_TableauImages.c29r),(100025,Law_TableauImages.c100025r),(22,Law_TableauImages.c22r),(232773,Law_TableauImages.c232773r),(8,Law_TableauImages.c8r),(220485,Law_TableauImages.c220485r)],[],tab_eqs⟩
theorem Law_TableauImages.eq (x_:dens Law_TableauImages.ce.params):den Law_TableauImages.G Try.f4 Law_TableauImages.ce.params Law_TableauImages.ce.res x_ = Law_TableauImages.ce.F x_:=by kernel_rfl
theorem Law_TableauImages.p0:PcA Law_TableauImages.G Try.f4 0 :=
 join_ok (s:=Law_TableauImages.c220485r) (by kernel_rfl) (by kernel_rfl) (sums_of (sh:=Law_TableauImages.c220485s) (fun ρ x_ k_=>(nat_br (nat_bnd fun _=>nat_leaf) nat_leaf)) (fun ρ x_ t k=>(by kernel_rfl)) (fun x_=>by kernel_rfl))
theorem Law_TableauImages.p1:PcA Law_TableauImages.G Try.f4 1 :=
 join_ok (s:=Law_TableauImages.c232773r) (by kernel_rfl) (by kernel_rfl) (sums_of (sh:=Law_TableauImages.c232773s) (fun ρ x_ k_=>(nat_bnd fun _=>(nat_br nat_leaf nat_leaf))) (fun ρ x_ t k=>(by kernel_rfl)) (fun x_=>by kernel_rfl))
theorem Law_TableauImages.p2:PcA Law_TableauImages.G Try.f4 2 :=
 region_ok (s:=Law_TableauImages.c8r) (by kernel_rfl) (by kernel_rfl) (sums_of (sh:=Law_TableauImages.c8s) (fun ρ x_ k_=>(nat_br nat_leaf nat_leaf)) (fun ρ x_ t k=>(by kernel_rfl)) (fun x_=>by kernel_rfl))
theorem Law_TableauImages.p3:PcA Law_TableauImages.G Try.f4 3 :=
 loop_ok (s:=Law_TableauImages.c100020r) (by kernel_rfl) (by kernel_rfl) (loops_of (sh:=Law_TableauImages.c100020s) (I:=fun x_ s_=>(x_.1,x_.2.1,x_.2.2.1,x_.2.2.2.1,x_.2.2.2.2.1,s_,x_.2.2.2.2.2.2)) (fun x_=>rfl) (fun ρ x_ s_ k_=>(nat_bnd fun _=>(nat_br (nat_bnd fun _=>(nat_bnd fun _=>(nat_bnd fun _=>(nat_bnd fun _=>(nat_br nat_leaf nat_leaf))))) nat_leaf))) (fun ρ x_ t k=>(nat_sel (fun _=>(by kernel_rfl)) (fun _=>(by kernel_rfl)))) (fun x_ s=>by kernel_rfl))
theorem Law_TableauImages.p4:PcA Law_TableauImages.G Try.f4 4 :=
 region_ok (s:=Law_TableauImages.c22r) (by kernel_rfl) (by kernel_rfl) (sums_of (sh:=Law_TableauImages.c22s) (fun ρ x_ k_=>(nat_bnd fun _=>(nat_bnd fun _=>nat_leaf))) (fun ρ x_ t k=>(by kernel_rfl)) (fun x_=>by kernel_rfl))
theorem Law_TableauImages.p5:PcA Law_TableauImages.G Try.f4 5 :=
 loop_ok (s:=Law_TableauImages.c100025r) (by kernel_rfl) (by kernel_rfl) (loops_of (sh:=Law_TableauImages.c100025s) (I:=fun x_ s_=>(x_.1,x_.2.1,x_.2.2.1,x_.2.2.2.1,x_.2.2.2.2.1,x_.2.2.2.2.2.1,s_.1,s_.2.1,s_.2.2,x_.2.2.2.2.2.2.2.2.2)) (fun x_=>rfl) (fun ρ x_ s_ k_=>(nat_br (nat_bnd fun _=>(nat_bnd fun _=>(nat_bnd fun _=>(nat_bnd fun _=>nat_leaf)))) nat_leaf)) (fun ρ x_ t k=>(by kernel_rfl)) (fun x_ s=>by kernel_rfl))
theorem Law_TableauImages.p6:PcA Law_TableauImages.G Try.f4 6 :=
 region_ok (s:=Law_TableauImages.c29r) (by kernel_rfl) (by kernel_rfl) (sums_of (sh:=Law_TableauImages.c29s) (fun ρ x_ k_=>(nat_bnd fun _=>(nat_bnd fun _=>(nat_bnd fun _=>(nat_bnd fun _=>nat_leaf))))) (fun ρ x_ t k=>(by kernel_rfl)) (fun x_=>by kernel_rfl))
theorem Law_TableauImages.ok:CalleeOk Try.prog 4 Law_TableauImages.ce:=fn_ok (G:=Law_TableauImages.G) tab_ok mixed Try.func4 ⟨(fns_cons R_CopyCircuit.ok (fns_cons tableau_Image.ok (fns_cons Law_tableauBegun.ok (fns_cons R_Pure.ok (fns_cons R_NormalFault.ok (fns_cons R_IsPauli.ok (fns_cons R_Basis.ok (fns_cons R_Pauli_On.ok (fns_cons R_Gate.ok (fns_cons R_Texts.ok (fns_cons R_SameTexts.ok fns_nil))))))))))),mfns_nil,tab_eqs_ok⟩ (m:=7) (by kernel_rfl) ⟨⟨⟨⟨⟨⟨⟨trivial,Law_TableauImages.p0⟩,Law_TableauImages.p1⟩,Law_TableauImages.p2⟩,Law_TableauImages.p3⟩,Law_TableauImages.p4⟩,Law_TableauImages.p5⟩,Law_TableauImages.p6⟩ (by kernel_rfl) Law_TableauImages.eq
end
end W
end
