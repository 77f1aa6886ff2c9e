/- Lifted functions, part 2: each with its contract. -/
import Derived.Test.YtjlbeiadpdgchaaWa
import Derived.Test.YtjlbeiadpdgchaaProg
set_option linter.all false
section
set_option maxHeartbeats 4000000
set_option maxRecDepth 100000
set_option linter.unusedVariables false
namespace W
open Go Go.Ql Go.Proofs
noncomputable section
abbrev tb49:SD:=.one (.own 10 0)
abbrev tb50:SO:=.arr 0 false 3 (.int .i64)
abbrev tb51:SD:=.one (.ref 1000200 0)
abbrev tb60:SO:=.box [.val (.int .i64)]
abbrev tb66:SO:=.arr 0 false 5 (.int .u8)
abbrev tb68:SD:=.one (.val (.sl (.int .u8)))
section
end
abbrev tb69:SD:=.one (.clo 1000140)
abbrev tb72:SD:=.one (.own 7 0)
def tableau_pauli_text.c208197 {ρ:Type} (p2:Bool) (t7:List Int) (k_:List Int → Option ρ):Option ρ :=
 br p2
 (bnd (inR (List.length t7) (0:Int)) fun y =>
 bnd (idx t7 (0:Int)) fun y_1 =>
 k_ (List.set t7 (0:Nat) (45:Int)))
 (k_ t7)
def tableau_pauli_text.c208197s:Shape:=⟨[(0,tb11),(1,tb5),(2,tb2),(4,tb4),(5,tb72)],[(2,tb9),(7,tb66)]⟩
def tableau_pauli_text.c208197x0:Shape:=tableau_pauli_text.c208197s
def tableau_pauli_text.c208197r:Ck:=Ck.of (T:=List Int) tableau_pauli_text.c208197s (fun ρ x_ k_=>tableau_pauli_text.c208197 x_.2.2.2.2.2.1 x_.2.2.2.2.2.2.1 k_) (fun ρ x_ r_ k_=>k_ 0 (Shape.inj tableau_pauli_text.c208197x0 (x_.1,x_.2.1,x_.2.2.1,x_.2.2.2.1,x_.2.2.2.2.1,x_.2.2.2.2.2.1,r_,())))
def tableau_pauli_text.c7 {ρ:Type} (q:Int) (p0:Int) (p1:Int) (t7:List Int) (k_:List Int → Option ρ):Option ρ :=
 bnd (okIf (decide ((0:Int) ≤ q))) fun y =>
 bnd (okIf (decide ((0:Int) ≤ q))) fun y_1 =>
 bnd (idx (Array.toList (ByteArray.data (ByteArray.mk #[(73:UInt8),(88:UInt8),(90:UInt8),(89:UInt8)]))) (ibits BinOp.or IntKind.u64 (ibits BinOp.and IntKind.u64 (Int.fdiv p0 ((2:Int) ^ Min.min (Int.toNat q) (64:Nat))) (1:Int)) (IntKind.wrap IntKind.u64 (ibits BinOp.and IntKind.u64 (Int.fdiv p1 ((2:Int) ^ Min.min (Int.toNat q) (64:Nat))) (1:Int) * (2:Int) ^ (1:Nat))))) fun y_2 =>
 bnd (okIf (decide ((List.length t7 + (1:Nat)) * (1:Nat) ≤ (140737488355328:Nat)) && decide (List.length t7 + (1:Nat) ≤ (140737488355328:Nat)))) fun y_3 =>
 k_ (t7 ++ [(↑(UInt8.toNat y_2):Int)])
def tableau_pauli_text.c7s:Shape:=⟨[(0,tb11),(1,tb5),(2,tb2),(4,tb4),(5,tb72),(6,tb5),(12,tb5),(13,tb5)],[(2,tb9),(7,tb66)]⟩
def tableau_pauli_text.c7x0:Shape:=tableau_pauli_text.c7s
def tableau_pauli_text.c7r:Ck:=Ck.of (T:=List Int) tableau_pauli_text.c7s (fun ρ x_ k_=>tableau_pauli_text.c7 x_.2.2.2.1 x_.2.2.2.2.2.2.1 x_.2.2.2.2.2.2.2.1 x_.2.2.2.2.2.2.2.2.2.1 k_) (fun ρ x_ r_ k_=>k_ 0 (Shape.inj tableau_pauli_text.c7x0 (x_.1,x_.2.1,x_.2.2.1,x_.2.2.2.1,x_.2.2.2.2.1,x_.2.2.2.2.2.1,x_.2.2.2.2.2.2.1,x_.2.2.2.2.2.2.2.1,x_.2.2.2.2.2.2.2.2.1,r_,())))
def tableau_pauli_text.c100005 {ρ:Type} (t12:Int) (t13:Int) (p0:Int) (p1:Int) (t7:List Int) (k_:(Int×(List Int)) ⊕ (Int×(List Int)) → Option ρ):Option ρ :=
 br (decide (t13 < t12))
 (bnd (W.tableau_pauli_text.c7 t13 p0 p1 t7 some) fun y =>
 k_ (.inl ((IntKind.wrap IntKind.i64 (t13 + (1:Int))),y)))
 (k_ (.inr (t13,t7)))
def tableau_pauli_text.c100005s:Shape:=⟨[(0,tb11),(1,tb5),(2,tb2),(4,tb4),(5,tb72),(12,tb5),(13,tb5)],[(2,tb9),(7,tb66)]⟩
def tableau_pauli_text.c100005x0:Shape:=tableau_pauli_text.c100005s
def tableau_pauli_text.c100005r:Ck:=Ck.ofLoop (S:=Int×(List Int)) (T:=Int×(List Int)) tableau_pauli_text.c100005s (fun x_=>(x_.2.2.2.2.1,x_.2.2.2.2.2.2.2.2.1)) (fun ρ x_ s_ k_=>tableau_pauli_text.c100005 x_.2.2.2.1 s_.1 x_.2.2.2.2.2.1 x_.2.2.2.2.2.2.1 s_.2 k_) (fun ρ x_ r_ k_=>k_ 2 (Shape.inj tableau_pauli_text.c100005x0 (x_.1,x_.2.1,x_.2.2.1,x_.2.2.2.1,r_.1,x_.2.2.2.2.2.1,x_.2.2.2.2.2.2.1,x_.2.2.2.2.2.2.2.1,r_.2,())))
def tableau_pauli_text (p:Int×(Int×(Bool))) (n:Int):Option (List UInt8) :=
 bnd (W.tableau_pauli_text.c208197 (Prod.snd (Prod.snd p)) [(43:Int)] some) fun y =>
 bnd (iter (fun s ↦ W.tableau_pauli_text.c100005 n (Prod.fst s) (Prod.fst p) (Prod.fst (Prod.snd p)) (Prod.snd s) some) ((0:Int),y)) fun y_1 =>
 some (List.map (fun n ↦ UInt8.ofNat (Int.toNat n)) (Prod.snd y_1))
def tableau_pauli_text.ce:Go.Ql.Callee:=⟨[(.st (.pair (.int .u64) (.pair (.int .u64) .bool))),(.int .i64)],[.str],fun x_=>tableau_pauli_text x_.1 x_.2⟩
def tableau_pauli_text.G:Env:=⟨35,tab,[],[0,1,2,4,5,6,9,12,13,14],[7],[(7,[⟨[],[],[17,18,19,20,21,22,23,24,25,26,27,28,29,30],[30]⟩,⟨[],[],[16,19,22,23,24,25,26,27],[]⟩,⟨[1],[],[16,19,22,23,24,25,26,27],[]⟩,⟨[],[],[16,17,18,22,23,24,25,26,27],[]⟩,⟨[2,1,3],[],[16,22,23,24,25,26,27],[]⟩,⟨[4,2,1,3],[],[16,22,23,24,25,26,27],[]⟩,⟨[],[],[16,17,18,19,20,21,24],[]⟩,⟨[6],[],[16,17,18,19,20,21,24],[]⟩,⟨[],[],[16,17,18,19,20,21,22,23],[]⟩,⟨[7,6,8],[],[16,17,18,19,20,21],[]⟩,⟨[9,7,6,8],[],[16,17,18,19,20,21],[]⟩,⟨[10,9,7,6,8],[],[16,17,18,19,20,21],[]⟩,⟨[5,4,2,1,3,11,10,9,7,6,8],[],[16],[]⟩,⟨[12,5,4,2,1,3,11,10,9,7,6,8],[],[16],[]⟩,⟨[13,12,5,4,2,1,3,11,10,9,7,6,8],[30],[16],[]⟩,⟨[0,14,13,12,5,4,2,1,3,11,10,9,7,6,8],[7],[],[]⟩,⟨[15,0,14,13,12,5,4,2,1,3,11,10,9,7,6,8],[],[],[]⟩])],[(100005,tableau_pauli_text.c100005r),(7,tableau_pauli_text.c7r),(208197,tableau_pauli_text.c208197r)],[],tab_eqs⟩
theorem tableau_pauli_text.eq (x_:dens tableau_pauli_text.ce.params):den tableau_pauli_text.G Try.f43 tableau_pauli_text.ce.params tableau_pauli_text.ce.res x_ = tableau_pauli_text.ce.F x_:=by kernel_rfl
theorem tableau_pauli_text.p0:PcA tableau_pauli_text.G Try.f43 0 :=
 join_ok (s:=tableau_pauli_text.c208197r) (by kernel_rfl) (by kernel_rfl) (sums_of (sh:=tableau_pauli_text.c208197s) (fun ρ x_ k_=>(nat_br (nat_bnd fun _=>(nat_bnd fun _=>nat_leaf)) nat_leaf)) (fun ρ x_ t k=>(by kernel_rfl)) (fun x_=>by kernel_rfl))
theorem tableau_pauli_text.p1:PcA tableau_pauli_text.G Try.f43 1 :=
 loop_ok (s:=tableau_pauli_text.c100005r) (by kernel_rfl) (by kernel_rfl) (loops_of (sh:=tableau_pauli_text.c100005s) (I:=fun x_ s_=>(x_.1,x_.2.1,x_.2.2.1,x_.2.2.2.1,s_.1,x_.2.2.2.2.2.1,x_.2.2.2.2.2.2.1,x_.2.2.2.2.2.2.2.1,s_.2,())) (fun x_=>rfl) (fun ρ x_ s_ k_=>(nat_br (nat_bnd fun _=>nat_leaf) nat_leaf)) (fun ρ x_ t k=>(by kernel_rfl)) (fun x_ s=>by kernel_rfl))
theorem tableau_pauli_text.p2:PcA tableau_pauli_text.G Try.f43 2 :=
 region_ok (s:=tableau_pauli_text.c7r) (by kernel_rfl) (by kernel_rfl) (sums_of (sh:=tableau_pauli_text.c7s) (fun ρ x_ k_=>(nat_bnd fun _=>(nat_bnd fun _=>(nat_bnd fun _=>(nat_bnd fun _=>nat_leaf))))) (fun ρ x_ t k=>(by kernel_rfl)) (fun x_=>by kernel_rfl))
theorem tableau_pauli_text.ok:CalleeOk Try.prog 43 tableau_pauli_text.ce:=fn_ok (G:=tableau_pauli_text.G) tab_ok mixed Try.func43 ⟨fns_nil,mfns_nil,tab_eqs_ok⟩ (m:=3) (by kernel_rfl) ⟨⟨⟨trivial,tableau_pauli_text.p0⟩,tableau_pauli_text.p1⟩,tableau_pauli_text.p2⟩ (by kernel_rfl) tableau_pauli_text.eq
def R_member.c100002 {ρ:Type} (l:List Int) (x:Int) (i:Int) (k_:Int ⊕ (Int ⊕ Int) → Option ρ):Option ρ :=
 br (decide (i < (↑(List.length l):Int)))
 (bnd (idx l i) fun y =>
 br (y == x)
 (k_ (.inr (.inl i)))
 (k_ (.inl (IntKind.wrap IntKind.i64 (i + (1:Int))))))
 (k_ (.inr (.inr i)))
def R_member.c100002s:Shape:=⟨[(0,tb36),(1,tb5),(4,tb7),(5,tb5)],[]⟩
def R_member.c100002x0:Shape:=R_member.c100002s
def R_member.c100002x1:Shape:=R_member.c100002s
def R_member.c100002r:Ck:=Ck.ofLoop (S:=Int) (T:=Int ⊕ Int) R_member.c100002s (fun x_=>x_.2.2.2.1) (fun ρ x_ s_ k_=>R_member.c100002 x_.1 x_.2.1 s_ k_) (fun ρ x_ r_ k_=>sel r_ (fun r_=>k_ 1 (Shape.inj R_member.c100002x0 (x_.1,x_.2.1,true,r_,()))) (fun r_=>k_ 2 (Shape.inj R_member.c100002x1 (x_.1,x_.2.1,x_.2.2.1,r_,()))))
def R_member (l:List Int) (x:Int):Option (Bool) :=
 bnd (iter (fun s ↦ W.R_member.c100002 l x s some) (0:Int)) fun y =>
 sel y
 (fun u=>some true)
 (fun v=>some false)
def R_member.ce:Go.Ql.Callee:=⟨[(.sl (.int .i64)),(.int .i64)],[.bool],fun x_=>R_member x_.1 x_.2⟩
def R_member.G:Env:=⟨18,tab,[],[0,1,4,5,9,17],[],[],[(100002,R_member.c100002r)],[],tab_eqs⟩
theorem R_member.eq (x_:dens R_member.ce.params):den R_member.G Try.f89 R_member.ce.params R_member.ce.res x_ = R_member.ce.F x_:=by kernel_rfl
theorem R_member.p0:PcA R_member.G Try.f89 0 :=
 loop_ok (s:=R_member.c100002r) (by kernel_rfl) (by kernel_rfl) (loops_of (sh:=R_member.c100002s) (I:=fun x_ s_=>(x_.1,x_.2.1,x_.2.2.1,s_,())) (fun x_=>rfl) (fun ρ x_ s_ k_=>(nat_br (nat_bnd fun _=>(nat_br nat_leaf nat_leaf)) nat_leaf)) (fun ρ x_ t k=>(nat_sel (fun _=>(by kernel_rfl)) (fun _=>(by kernel_rfl)))) (fun x_ s=>by kernel_rfl))
theorem R_member.ok:CalleeOk Try.prog 89 R_member.ce:=fn_ok (G:=R_member.G) tab_ok mixed Try.func89 ⟨fns_nil,mfns_nil,tab_eqs_ok⟩ (m:=1) (by kernel_rfl) ⟨trivial,R_member.p0⟩ (by kernel_rfl) R_member.eq
def R_badOp.c1 {ρ:Type} (o0:Int) (k_:Bool → Option ρ):Option ρ :=
 br (decide (o0 < (1:Int)))
 (k_ true)
 (k_ (decide (o0 > (6:Int))))
def R_badOp.c1s:Shape:=⟨[(0,tb25),(1,tb5),(2,tb5),(3,tb12),(6,tb5)],[(3,tb26)]⟩
def R_badOp.c1x0:Shape:=⟨[(0,tb25),(1,tb5),(2,tb5),(3,tb12),(6,tb5),(17,tb7)],[(3,tb26)]⟩
def R_badOp.c1r:Ck:=Ck.of (T:=Bool) R_badOp.c1s (fun ρ x_ k_=>R_badOp.c1 x_.2.2.2.2.1 k_) (fun ρ x_ r_ k_=>k_ 0 (Shape.inj R_badOp.c1x0 (x_.1,x_.2.1,x_.2.2.1,x_.2.2.2.1,r_,x_.2.2.2.2)))
def R_badOp.c3 {ρ:Type} (o0:Int) (k_:Bool → Option ρ):Option ρ :=
 br (o0 == (1:Int))
 (k_ true)
 (k_ (o0 == (4:Int)))
def R_badOp.c3s:Shape:=R_badOp.c1s
def R_badOp.c3x0:Shape:=⟨[(0,tb25),(1,tb5),(2,tb5),(3,tb12),(6,tb5),(7,tb7)],[(3,tb26)]⟩
def R_badOp.c3r:Ck:=Ck.of (T:=Bool) R_badOp.c3s (fun ρ x_ k_=>R_badOp.c3 x_.2.2.2.2.1 k_) (fun ρ x_ r_ k_=>k_ 0 (Shape.inj R_badOp.c3x0 (x_.1,x_.2.1,x_.2.2.1,x_.2.2.2.1,r_,x_.2.2.2.2)))
def R_badOp.c4 {ρ:Type} (angle:Bool) (o1:Int) (k_:Bool → Option ρ):Option ρ :=
 br (decide (o1 < (0:Int)))
 (k_ true)
 (br (decide (o1 > (15:Int)))
 (k_ true)
 (br (decide (o1 > (0:Int)))
 (k_ (!angle))
 (k_ false)))
def R_badOp.c4s:Shape:=R_badOp.c3x0
def R_badOp.c4x0:Shape:=⟨[(0,tb25),(1,tb5),(2,tb5),(3,tb12),(6,tb5),(7,tb7),(42,tb7)],[(3,tb26)]⟩
def R_badOp.c4r:Ck:=Ck.of (T:=Bool) R_badOp.c4s (fun ρ x_ k_=>R_badOp.c4 x_.2.2.2.2.1 x_.2.2.2.2.2.2.1 k_) (fun ρ x_ r_ k_=>k_ 0 (Shape.inj R_badOp.c4x0 (x_.1,x_.2.1,x_.2.2.1,x_.2.2.2.1,x_.2.2.2.2.1,r_,x_.2.2.2.2.2)))
def R_badOp.c6 {ρ:Type} (qubits:Int) (o0:Int) (o3:Int) (k_:Bool → Option ρ):Option ρ :=
 br (decide (o3 < (0:Int)))
 (k_ true)
 (br (decide (o3 ≥ qubits))
 (k_ true)
 (br (o0 == (1:Int))
 (k_ (decide (o3 > (0:Int))))
 (k_ false)))
def R_badOp.c6s:Shape:=R_badOp.c3x0
def R_badOp.c6x0:Shape:=⟨[(0,tb25),(1,tb5),(2,tb5),(3,tb12),(6,tb5),(7,tb7),(61,tb7)],[(3,tb26)]⟩
def R_badOp.c6r:Ck:=Ck.of (T:=Bool) R_badOp.c6s (fun ρ x_ k_=>R_badOp.c6 x_.2.1 x_.2.2.2.2.2.1 x_.2.2.2.2.2.2.2.2.1 k_) (fun ρ x_ r_ k_=>k_ 0 (Shape.inj R_badOp.c6x0 (x_.1,x_.2.1,x_.2.2.1,x_.2.2.2.1,x_.2.2.2.2.1,r_,x_.2.2.2.2.2)))
def R_badOp.c8 {ρ:Type} (o0:Int) (o2:List Int) (k_:Bool → Option ρ):Option ρ :=
 br (decide ((↑(List.length o2):Int) > (0:Int)))
 (br (o0 != (2:Int))
 (br (o0 != (3:Int))
 (k_ (o0 != (4:Int)))
 (k_ false))
 (k_ false))
 (k_ false)
def R_badOp.c8s:Shape:=R_badOp.c3x0
def R_badOp.c8x0:Shape:=⟨[(0,tb25),(1,tb5),(2,tb5),(3,tb12),(6,tb5),(7,tb7),(80,tb7)],[(3,tb26)]⟩
def R_badOp.c8r:Ck:=Ck.of (T:=Bool) R_badOp.c8s (fun ρ x_ k_=>R_badOp.c8 x_.2.2.2.2.2.1 x_.2.2.2.2.2.2.2.1 k_) (fun ρ x_ r_ k_=>k_ 0 (Shape.inj R_badOp.c8x0 (x_.1,x_.2.1,x_.2.2.1,x_.2.2.2.1,x_.2.2.2.2.1,r_,x_.2.2.2.2.2)))
def R_badOp.c13 {ρ:Type} (qubits:Int) (i:Int) (o2:List Int) (k_:Bool → Option ρ):Option ρ :=
 bnd (idx o2 i) fun y =>
 br (decide (y < (0:Int)))
 (k_ true)
 (bnd (idx o2 i) fun y_1 =>
 k_ (decide (y_1 ≥ qubits)))
def R_badOp.c13s:Shape:=⟨[(0,tb25),(1,tb5),(2,tb5),(3,tb12),(6,tb5),(7,tb7),(8,tb5)],[(3,tb26)]⟩
def R_badOp.c13x0:Shape:=⟨[(0,tb25),(1,tb5),(2,tb5),(3,tb12),(6,tb5),(7,tb7),(8,tb5),(102,tb7)],[(3,tb26)]⟩
def R_badOp.c13r:Ck:=Ck.of (T:=Bool) R_badOp.c13s (fun ρ x_ k_=>R_badOp.c13 x_.2.1 x_.2.2.2.2.2.1 x_.2.2.2.2.2.2.2.2.1 k_) (fun ρ x_ r_ k_=>k_ 0 (Shape.inj R_badOp.c13x0 (x_.1,x_.2.1,x_.2.2.1,x_.2.2.2.1,x_.2.2.2.2.1,x_.2.2.2.2.2.1,r_,x_.2.2.2.2.2.2)))
def R_badOp.c15 {ρ:Type} (i:Int) (o2:List Int) (o3:Int) (k_:Bool → Option ρ):Option ρ :=
 bnd (idx o2 i) fun y =>
 br (y == o3)
 (k_ true)
 (bnd (okIf (decide ((0:Int) ≤ i) && decide (i ≤ (↑(List.length o2):Int)))) fun y_1 =>
 bnd (idx o2 i) fun y_2 =>
 bnd (W.R_member (List.take (Int.toNat i) o2) y_2) fun y_3 =>
 k_ y_3)
def R_badOp.c15s:Shape:=R_badOp.c13s
def R_badOp.c15x0:Shape:=⟨[(0,tb25),(1,tb5),(2,tb5),(3,tb12),(6,tb5),(7,tb7),(8,tb5),(122,tb7)],[(3,tb26)]⟩
def R_badOp.c15r:Ck:=Ck.of (T:=Bool) R_badOp.c15s (fun ρ x_ k_=>R_badOp.c15 x_.2.2.2.2.2.1 x_.2.2.2.2.2.2.2.2.1 x_.2.2.2.2.2.2.2.2.2.1 k_) (fun ρ x_ r_ k_=>k_ 0 (Shape.inj R_badOp.c15x0 (x_.1,x_.2.1,x_.2.2.1,x_.2.2.2.1,x_.2.2.2.2.1,x_.2.2.2.2.2.1,r_,x_.2.2.2.2.2.2)))
def R_badOp.c100011 {ρ:Type} (qubits:Int) (i:Int) (o2:List Int) (o3:Int) (k_:Int ⊕ ((Int×Int) ⊕ Int) → Option ρ):Option ρ :=
 br (decide (i < (↑(List.length o2):Int)))
 (bnd (W.R_badOp.c13 qubits i o2 some) fun y =>
 br y
 (k_ (.inr (.inl ((10:Int),i))))
 (bnd (W.R_badOp.c15 i o2 o3 some) fun y_1 =>
 br y_1
 (k_ (.inr (.inl ((12:Int),i))))
 (k_ (.inl (IntKind.wrap IntKind.i64 (i + (1:Int)))))))
 (k_ (.inr (.inr i)))
def R_badOp.c100011s:Shape:=R_badOp.c13s
def R_badOp.c100011x0:Shape:=R_badOp.c13s
def R_badOp.c100011x1:Shape:=R_badOp.c13s
def R_badOp.c100011r:Ck:=Ck.ofLoop (S:=Int) (T:=(Int×Int) ⊕ Int) R_badOp.c100011s (fun x_=>x_.2.2.2.2.2.1) (fun ρ x_ s_ k_=>R_badOp.c100011 x_.2.1 s_ x_.2.2.2.2.2.2.2.2.1 x_.2.2.2.2.2.2.2.2.2.1 k_) (fun ρ x_ r_ k_=>sel r_ (fun r_=>k_ 1 (Shape.inj R_badOp.c100011x0 (x_.1,x_.2.1,x_.2.2.1,r_.1,x_.2.2.2.2.1,r_.2,x_.2.2.2.2.2.2))) (fun r_=>k_ 2 (Shape.inj R_badOp.c100011x1 (x_.1,x_.2.1,x_.2.2.1,x_.2.2.2.1,x_.2.2.2.2.1,r_,x_.2.2.2.2.2.2))))
def R_badOp.c18 {ρ:Type} (bits:Int) (o4:Int) (k_:Bool → Option ρ):Option ρ :=
 br (decide (o4 < (0:Int)))
 (k_ true)
 (k_ (decide (o4 ≥ bits)))
def R_badOp.c18s:Shape:=R_badOp.c13s
def R_badOp.c18x0:Shape:=⟨[(0,tb25),(1,tb5),(2,tb5),(3,tb12),(6,tb5),(7,tb7),(8,tb5),(134,tb7)],[(3,tb26)]⟩
def R_badOp.c18r:Ck:=Ck.of (T:=Bool) R_badOp.c18s (fun ρ x_ k_=>R_badOp.c18 x_.2.2.1 x_.2.2.2.2.2.2.2.2.2.2.1 k_) (fun ρ x_ r_ k_=>k_ 0 (Shape.inj R_badOp.c18x0 (x_.1,x_.2.1,x_.2.2.1,x_.2.2.2.1,x_.2.2.2.2.1,x_.2.2.2.2.2.1,r_,x_.2.2.2.2.2.2)))
def R_badOp.c269649 {ρ:Type} (bits:Int) (o0:Int) (o4:Int) (k_:(Unit) ⊕ (Unit) → Option ρ):Option ρ :=
 br (o0 == (5:Int))
 (bnd (W.R_badOp.c18 bits o4 some) fun y =>
 br y
 (k_ (.inl ()))
 (k_ (.inr ())))
 (br (o4 != (0:Int))
 (k_ (.inl ()))
 (k_ (.inr ())))
def R_badOp.c269649s:Shape:=R_badOp.c13s
def R_badOp.c269649x0:Shape:=R_badOp.c13s
def R_badOp.c269649x1:Shape:=R_badOp.c13s
def R_badOp.c269649r:Ck:=Ck.of (T:=(Unit) ⊕ (Unit)) R_badOp.c269649s (fun ρ x_ k_=>R_badOp.c269649 x_.2.2.1 x_.2.2.2.2.2.2.1 x_.2.2.2.2.2.2.2.2.2.2.1 k_) (fun ρ x_ r_ k_=>sel r_ (fun r_=>k_ 1 (Shape.inj R_badOp.c269649x0 (x_.1,x_.2.1,x_.2.2.1,(13:Int),x_.2.2.2.2))) (fun r_=>k_ 0 (Shape.inj R_badOp.c269649x1 x_)))
def R_badOp.c27 {ρ:Type} (bits:Int) (i_1:Int) (o5:List Int) (k_:Bool → Option ρ):Option ρ :=
 bnd (idx o5 i_1) fun y =>
 br (y == (0:Int))
 (k_ true)
 (bnd (idx o5 i_1) fun y_1 =>
 br (decide (y_1 > bits))
 (k_ true)
 (bnd (idx o5 i_1) fun y_2 =>
 k_ (decide (y_2 < IntKind.wrap IntKind.i64 ((0:Int) - bits)))))
def R_badOp.c27s:Shape:=⟨[(0,tb25),(1,tb5),(2,tb5),(3,tb12),(6,tb5),(7,tb7),(8,tb5),(9,tb5)],[(3,tb26)]⟩
def R_badOp.c27x0:Shape:=⟨[(0,tb25),(1,tb5),(2,tb5),(3,tb12),(6,tb5),(7,tb7),(8,tb5),(9,tb5),(173,tb7)],[(3,tb26)]⟩
def R_badOp.c27r:Ck:=Ck.of (T:=Bool) R_badOp.c27s (fun ρ x_ k_=>R_badOp.c27 x_.2.2.1 x_.2.2.2.2.2.2.1 x_.2.2.2.2.2.2.2.2.2.2.2.2.1 k_) (fun ρ x_ r_ k_=>k_ 0 (Shape.inj R_badOp.c27x0 (x_.1,x_.2.1,x_.2.2.1,x_.2.2.2.1,x_.2.2.2.2.1,x_.2.2.2.2.2.1,x_.2.2.2.2.2.2.1,r_,x_.2.2.2.2.2.2.2)))
def R_badOp.c100025 {ρ:Type} (bits:Int) (i_1:Int) (o5:List Int) (k_:Int ⊕ (Int ⊕ Int) → Option ρ):Option ρ :=
 br (decide (i_1 < (↑(List.length o5):Int)))
 (bnd (W.R_badOp.c27 bits i_1 o5 some) fun y =>
 br y
 (k_ (.inr (.inl i_1)))
 (k_ (.inl (IntKind.wrap IntKind.i64 (i_1 + (1:Int))))))
 (k_ (.inr (.inr i_1)))
def R_badOp.c100025s:Shape:=R_badOp.c27s
def R_badOp.c100025x0:Shape:=R_badOp.c27s
def R_badOp.c100025x1:Shape:=R_badOp.c27s
def R_badOp.c100025r:Ck:=Ck.ofLoop (S:=Int) (T:=Int ⊕ Int) R_badOp.c100025s (fun x_=>x_.2.2.2.2.2.2.1) (fun ρ x_ s_ k_=>R_badOp.c100025 x_.2.2.1 s_ x_.2.2.2.2.2.2.2.2.2.2.2.2.1 k_) (fun ρ x_ r_ k_=>sel r_ (fun r_=>k_ 1 (Shape.inj R_badOp.c100025x0 (x_.1,x_.2.1,x_.2.2.1,(14:Int),x_.2.2.2.2.1,x_.2.2.2.2.2.1,r_,x_.2.2.2.2.2.2.2))) (fun r_=>k_ 4 (Shape.inj R_badOp.c100025x1 (x_.1,x_.2.1,x_.2.2.1,x_.2.2.2.1,x_.2.2.2.2.1,x_.2.2.2.2.2.1,r_,x_.2.2.2.2.2.2.2))))
def R_badOp (o:Int×(Int×((List Int)×(Int×(Int×(List Int)))))) (qubits:Int) (bits:Int):Option Int :=
 bnd (W.R_badOp.c1 (Prod.fst o) some) fun y =>
 br y
 (some (8:Int))
 (bnd (W.R_badOp.c3 (Prod.fst o) some) fun y_1 =>
 bnd (W.R_badOp.c4 y_1 (Prod.fst (Prod.snd o)) some) fun y_2 =>
 br y_2
 (some (9:Int))
 (bnd (W.R_badOp.c6 qubits (Prod.fst o) (Prod.fst (Prod.snd (Prod.snd (Prod.snd o)))) some) fun y_3 =>
 br y_3
 (some (10:Int))
 (bnd (W.R_badOp.c8 (Prod.fst o) (Prod.fst (Prod.snd (Prod.snd o))) some) fun y_4 =>
 br y_4
 (some (11:Int))
 (bnd (iter (fun s ↦ W.R_badOp.c100011 qubits s (Prod.fst (Prod.snd (Prod.snd o))) (Prod.fst (Prod.snd (Prod.snd (Prod.snd o)))) some) (0:Int)) fun y_5 =>
 sel y_5
 (fun u=>some (Prod.fst u))
 (fun v=>bnd (W.R_badOp.c269649 bits (Prod.fst o) (Prod.fst (Prod.snd (Prod.snd (Prod.snd (Prod.snd o))))) some) fun y_6 =>
 sel y_6
 (fun u_1=>some (13:Int))
 (fun v_1=>br (decide ((↑(List.length (Prod.snd (Prod.snd (Prod.snd (Prod.snd (Prod.snd o)))))):Int) > (24:Int)))
 (some (14:Int))
 (bnd (iter (fun s ↦ W.R_badOp.c100025 bits s (Prod.snd (Prod.snd (Prod.snd (Prod.snd (Prod.snd o))))) some) (0:Int)) fun y_7 =>
 sel y_7
 (fun u_2=>some (14:Int))
 (fun v_2=>some (0:Int)))))))))
def R_badOp.ce:Go.Ql.Callee:=⟨[(.st (.pair (.int .i64) (.pair (.int .i64) (.pair (.sl (.int .i64)) (.pair (.int .i64) (.pair (.int .i64) (.sl (.int .i64)))))))),(.int .i64),(.int .i64)],[(.int .i64)],fun x_=>R_badOp x_.1 x_.2.1 x_.2.2⟩
def R_badOp.G:Env:=⟨174,tab,[(89,R_member.ce)],[0,1,2,3,6,7,8,9,17,42,61,80,85,102,122,125,134,137,141,146,173],[],[(15,[⟨[],[],[105,108,109],[]⟩,⟨[0],[],[105,108,109],[]⟩,⟨[],[],[103,104,108,109],[]⟩,⟨[1,0,2],[],[108,109],[]⟩,⟨[3,1,0,2],[],[108,109],[]⟩,⟨[],[],[103,104,105,106,107],[]⟩,⟨[5],[],[103,104,105,106,107],[]⟩,⟨[4,3,1,0,2,6,5],[],[],[]⟩,⟨[7,4,3,1,0,2,6,5],[],[],[]⟩,⟨[8,7,4,3,1,0,2,6,5],[],[114,116,117,118,119,120],[]⟩,⟨[9,8,7,4,3,1,0,2,6,5],[],[114,116,117,118,119,120],[]⟩,⟨[8,7,4,3,1,0,2,6,5],[],[112,113,116,117,118,119,120],[]⟩,⟨[10,9,8,7,4,3,1,0,2,6,5,11],[],[116,117,118,119,120],[]⟩,⟨[8,7,4,3,1,0,2,6,5],[],[112,113,114,115,118],[]⟩,⟨[13,8,7,4,3,1,0,2,6,5],[],[112,113,114,115,118],[]⟩,⟨[8,7,4,3,1,0,2,6,5],[],[112,113,114,115,116,117],[]⟩,⟨[14,13,8,7,4,3,1,0,2,6,5,15],[],[112,113,114,115],[]⟩,⟨[16,14,13,8,7,4,3,1,0,2,6,5,15],[],[112,113,114,115],[]⟩,⟨[12,10,9,8,7,4,3,1,0,2,6,5,11,17,16,14,13,15],[],[],[]⟩,⟨[8,7,4,3,1,0,2,6,5,18,12,10,9,11,17,16,14,13,15],[],[],[]⟩])],[(100025,R_badOp.c100025r),(27,R_badOp.c27r),(269649,R_badOp.c269649r),(18,R_badOp.c18r),(100011,R_badOp.c100011r),(15,R_badOp.c15r),(13,R_badOp.c13r),(8,R_badOp.c8r),(6,R_badOp.c6r),(4,R_badOp.c4r),(3,R_badOp.c3r),(1,R_badOp.c1r)],[],tab_eqs⟩
theorem R_badOp.eq (x_:dens R_badOp.ce.params):den R_badOp.G Try.f45 R_badOp.ce.params R_badOp.ce.res x_ = R_badOp.ce.F x_:=by kernel_rfl
theorem R_badOp.p0:PcA R_badOp.G Try.f45 0 :=
 region_ok (s:=R_badOp.c1r) (by kernel_rfl) (by kernel_rfl) (sums_of (sh:=R_badOp.c1s) (fun ρ x_ k_=>(nat_br nat_leaf nat_leaf)) (fun ρ x_ t k=>(by kernel_rfl)) (fun x_=>by kernel_rfl))
theorem R_badOp.p1:PcA R_badOp.G Try.f45 1 :=
 region_ok (s:=R_badOp.c3r) (by kernel_rfl) (by kernel_rfl) (sums_of (sh:=R_badOp.c3s) (fun ρ x_ k_=>(nat_br nat_leaf nat_leaf)) (fun ρ x_ t k=>(by kernel_rfl)) (fun x_=>by kernel_rfl))
theorem R_badOp.p2:PcA R_badOp.G Try.f45 2 :=
 region_ok (s:=R_badOp.c4r) (by kernel_rfl) (by kernel_rfl) (sums_of (sh:=R_badOp.c4s) (fun ρ x_ k_=>(nat_br nat_leaf (nat_br nat_leaf (nat_br nat_leaf nat_leaf)))) (fun ρ x_ t k=>(by kernel_rfl)) (fun x_=>by kernel_rfl))
theorem R_badOp.p3:PcA R_badOp.G Try.f45 3 :=
 region_ok (s:=R_badOp.c6r) (by kernel_rfl) (by kernel_rfl) (sums_of (sh:=R_badOp.c6s) (fun ρ x_ k_=>(nat_br nat_leaf (nat_br nat_leaf (nat_br nat_leaf nat_leaf)))) (fun ρ x_ t k=>(by kernel_rfl)) (fun x_=>by kernel_rfl))
theorem R_badOp.p4:PcA R_badOp.G Try.f45 4 :=
 region_ok (s:=R_badOp.c8r) (by kernel_rfl) (by kernel_rfl) (sums_of (sh:=R_badOp.c8s) (fun ρ x_ k_=>(nat_br (nat_br (nat_br nat_leaf nat_leaf) nat_leaf) nat_leaf)) (fun ρ x_ t k=>(by kernel_rfl)) (fun x_=>by kernel_rfl))
theorem R_badOp.p5:PcA R_badOp.G Try.f45 5 :=
 loop_ok (s:=R_badOp.c100011r) (by kernel_rfl) (by kernel_rfl) (loops_of (sh:=R_badOp.c100011s) (I:=fun x_ s_=>(x_.1,x_.2.1,x_.2.2.1,x_.2.2.2.1,x_.2.2.2.2.1,s_,x_.2.2.2.2.2.2)) (fun x_=>rfl) (fun ρ x_ s_ k_=>(nat_br (nat_bnd fun _=>(nat_br nat_leaf (nat_bnd fun _=>(nat_br nat_leaf nat_leaf)))) nat_leaf)) (fun ρ x_ t k=>(nat_sel (fun _=>(by kernel_rfl)) (fun _=>(by kernel_rfl)))) (fun x_ s=>by kernel_rfl))
theorem R_badOp.p6:PcA R_badOp.G Try.f45 6 :=
 region_ok (s:=R_badOp.c13r) (by kernel_rfl) (by kernel_rfl) (sums_of (sh:=R_badOp.c13s) (fun ρ x_ k_=>(nat_bnd fun _=>(nat_br nat_leaf (nat_bnd fun _=>nat_leaf)))) (fun ρ x_ t k=>(by kernel_rfl)) (fun x_=>by kernel_rfl))
theorem R_badOp.p7:PcA R_badOp.G Try.f45 7 :=
 region_ok (s:=R_badOp.c15r) (by kernel_rfl) (by kernel_rfl) (sums_of (sh:=R_badOp.c15s) (fun ρ x_ k_=>(nat_bnd fun _=>(nat_br nat_leaf (nat_bnd fun _=>(nat_bnd fun _=>(nat_bnd fun _=>nat_leaf)))))) (fun ρ x_ t k=>(by kernel_rfl)) (fun x_=>by kernel_rfl))
theorem R_badOp.p8:PcA R_badOp.G Try.f45 8 :=
 join_ok (s:=R_badOp.c269649r) (by kernel_rfl) (by kernel_rfl) (sums_of (sh:=R_badOp.c269649s) (fun ρ x_ k_=>(nat_br (nat_bnd fun _=>(nat_br nat_leaf nat_leaf)) (nat_br nat_leaf nat_leaf))) (fun ρ x_ t k=>(nat_sel (fun _=>(by kernel_rfl)) (fun _=>(by kernel_rfl)))) (fun x_=>by kernel_rfl))
theorem R_badOp.p9:PcA R_badOp.G Try.f45 9 :=
 region_ok (s:=R_badOp.c18r) (by kernel_rfl) (by kernel_rfl) (sums_of (sh:=R_badOp.c18s) (fun ρ x_ k_=>(nat_br nat_leaf nat_leaf)) (fun ρ x_ t k=>(by kernel_rfl)) (fun x_=>by kernel_rfl))
theorem R_badOp.p10:PcA R_badOp.G Try.f45 10 :=
 loop_ok (s:=R_badOp.c100025r) (by kernel_rfl) (by kernel_rfl) (loops_of (sh:=R_badOp.c100025s) (I:=fun x_ s_=>(x_.1,x_.2.1,x_.2.2.1,x_.2.2.2.1,x_.2.2.2.2.1,x_.2.2.2.2.2.1,s_,x_.2.2.2.2.2.2.2)) (fun x_=>rfl) (fun ρ x_ s_ k_=>(nat_br (nat_bnd fun _=>(nat_br nat_leaf nat_leaf)) nat_leaf)) (fun ρ x_ t k=>(nat_sel (fun _=>(by kernel_rfl)) (fun _=>(by kernel_rfl)))) (fun x_ s=>by kernel_rfl))
theorem R_badOp.p11:PcA R_badOp.G Try.f45 11 :=
 region_ok (s:=R_badOp.c27r) (by kernel_rfl) (by kernel_rfl) (sums_of (sh:=R_badOp.c27s) (fun ρ x_ k_=>(nat_bnd fun _=>(nat_br nat_leaf (nat_bnd fun _=>(nat_br nat_leaf (nat_bnd fun _=>nat_leaf)))))) (fun ρ x_ t k=>(by kernel_rfl)) (fun x_=>by kernel_rfl))
theorem R_badOp.ok:CalleeOk Try.prog 45 R_badOp.ce:=fn_ok (G:=R_badOp.G) tab_ok mixed Try.func45 ⟨(fns_cons R_member.ok fns_nil),mfns_nil,tab_eqs_ok⟩ (m:=12) (by kernel_rfl) ⟨⟨⟨⟨⟨⟨⟨⟨⟨⟨⟨⟨trivial,R_badOp.p0⟩,R_badOp.p1⟩,R_badOp.p2⟩,R_badOp.p3⟩,R_badOp.p4⟩,R_badOp.p5⟩,R_badOp.p6⟩,R_badOp.p7⟩,R_badOp.p8⟩,R_badOp.p9⟩,R_badOp.p10⟩,R_badOp.p11⟩ (by kernel_rfl) R_badOp.eq
def R_Check.c1 {ρ:Type} (c0:Int) (k_:Bool → Option ρ):Option ρ :=
 br (decide (c0 < (1:Int)))
 (k_ true)
 (k_ (decide (c0 > (12:Int))))
def R_Check.c1s:Shape:=⟨[(0,tb38),(1,tb1),(2,tb2)],[(1,tb34),(2,tb19)]⟩
def R_Check.c1x0:Shape:=⟨[(0,tb38),(1,tb1),(2,tb2),(12,tb7)],[(1,tb34),(2,tb19)]⟩
def R_Check.c1r:Ck:=Ck.of (T:=Bool) R_Check.c1s (fun ρ x_ k_=>R_Check.c1 x_.2.1 k_) (fun ρ x_ r_ k_=>k_ 0 (Shape.inj R_Check.c1x0 (x_.1,r_,x_.2)))
def R_Check.c3 {ρ:Type} (c1:Int) (k_:Bool → Option ρ):Option ρ :=
 br (decide (c1 < (0:Int)))
 (k_ true)
 (k_ (decide (c1 > (12:Int))))
def R_Check.c3s:Shape:=R_Check.c1s
def R_Check.c3x0:Shape:=⟨[(0,tb38),(1,tb1),(2,tb2),(21,tb7)],[(1,tb34),(2,tb19)]⟩
def R_Check.c3r:Ck:=Ck.of (T:=Bool) R_Check.c3s (fun ρ x_ k_=>R_Check.c3 x_.2.2.1 k_) (fun ρ x_ r_ k_=>k_ 0 (Shape.inj R_Check.c3x0 (x_.1,r_,x_.2)))
def R_Check.c10 {ρ:Type} (i:Int) (c0:Int) (c1:Int) (c2:List (Int×(Int×((List Int)×(Int×(Int×(List Int))))))) (k_:Int → Option ρ):Option ρ :=
 bnd (idx c2 i) fun y =>
 bnd (W.R_badOp y c0 c1) fun y_1 =>
 k_ y_1
def R_Check.c10s:Shape:=⟨[(0,tb38),(1,tb1),(2,tb2),(3,tb5)],[(1,tb34),(2,tb19)]⟩
def R_Check.c10x0:Shape:=⟨[(0,tb38),(1,tb1),(2,tb2),(3,tb5),(4,tb5)],[(1,tb34),(2,tb19)]⟩
def R_Check.c10r:Ck:=Ck.of (T:=Int) R_Check.c10s (fun ρ x_ k_=>R_Check.c10 x_.2.1 x_.2.2.1 x_.2.2.2.1 x_.2.2.2.2.1 k_) (fun ρ x_ r_ k_=>k_ 0 (Shape.inj R_Check.c10x0 (x_.1,x_.2.1,r_,x_.2.2)))
def R_Check.c100008 {ρ:Type} (i:Int) (c0:Int) (c1:Int) (c2:List (Int×(Int×((List Int)×(Int×(Int×(List Int))))))) (k_:Int ⊕ ((Int×Int×Int) ⊕ Int) → Option ρ):Option ρ :=
 br (decide (i < (↑(List.length c2):Int)))
 (bnd (W.R_Check.c10 i c0 c1 c2 some) fun y =>
 br (y != (0:Int))
 (bnd (W.R_rfault y i) fun y_1 =>
 k_ (.inr (.inl (i,(Prod.fst y_1),(Prod.snd y_1)))))
 (k_ (.inl (IntKind.wrap IntKind.i64 (i + (1:Int))))))
 (k_ (.inr (.inr i)))
def R_Check.c100008s:Shape:=R_Check.c10s
def R_Check.c100008x0:Shape:=R_Check.c10s
def R_Check.c100008x1:Shape:=R_Check.c10s
def R_Check.c100008r:Ck:=Ck.ofLoop (S:=Int) (T:=(Int×Int×Int) ⊕ Int) R_Check.c100008s (fun x_=>x_.2.1) (fun ρ x_ s_ k_=>R_Check.c100008 s_ x_.2.2.1 x_.2.2.2.1 x_.2.2.2.2.1 k_) (fun ρ x_ r_ k_=>sel r_ (fun r_=>k_ 1 (Shape.inj R_Check.c100008x0 (x_.1,r_.1,x_.2.2.1,x_.2.2.2.1,x_.2.2.2.2.1,r_.2.1,r_.2.2,()))) (fun r_=>k_ 2 (Shape.inj R_Check.c100008x1 (x_.1,r_,x_.2.2))))
def R_Check (c:Int×(Int×(List (Int×(Int×((List Int)×(Int×(Int×(List Int))))))))):Option (Int×Int) :=
 bnd (W.R_Check.c1 (Prod.fst c) some) fun y =>
 br y
 (bnd (W.R_rfault (6:Int) (0:Int)) fun y_1 =>
 some (Prod.fst y_1,Prod.snd y_1))
 (bnd (W.R_Check.c3 (Prod.fst (Prod.snd c)) some) fun y_2 =>
 br y_2
 (bnd (W.R_rfault (7:Int) (0:Int)) fun y_3 =>
 some (Prod.fst y_3,Prod.snd y_3))
 (br (decide ((↑(List.length (Prod.snd (Prod.snd c))):Int) > (4096:Int)))
 (bnd (W.R_rfault (2:Int) (0:Int)) fun y_4 =>
 some (Prod.fst y_4,Prod.snd y_4))
 (bnd (iter (fun s ↦ W.R_Check.c100008 s (Prod.fst c) (Prod.fst (Prod.snd c)) (Prod.snd (Prod.snd c)) some) (0:Int)) fun y_5 =>
 sel y_5
 (fun u=>some (Prod.fst (Prod.snd u),Prod.snd (Prod.snd u)))
 (fun v=>some ((0:Int),(0:Int))))))
def R_Check.ce:Go.Ql.Callee:=⟨[(.st (.pair (.int .i64) (.pair (.int .i64) (.sl (.st (.pair (.int .i64) (.pair (.int .i64) (.pair (.sl (.int .i64)) (.pair (.int .i64) (.pair (.int .i64) (.sl (.int .i64))))))))))))],[(.st (.pair (.int .i64) (.int .i64)))],fun x_=>R_Check x_⟩
def R_Check.G:Env:=⟨51,tab,[(44,R_rfault.ce),(45,R_badOp.ce)],[0,1,2,3,4,12,21,26,32,46],[],[(10,[⟨[],[],[37,40,41,42,43],[]⟩,⟨[0],[],[37,40,41,42,43],[]⟩,⟨[],[],[35,36,40,41,42,43],[]⟩,⟨[1,0,2],[],[40,41,42,43],[]⟩,⟨[3,1,0,2],[],[40,41,42,43],[]⟩,⟨[],[],[35,36,37,38,39,42,43],[]⟩,⟨[5],[],[35,36,37,38,39,42,43],[]⟩,⟨[],[],[35,36,37,38,39,40,41],[]⟩,⟨[7],[],[35,36,37,38,39,40,41],[]⟩,⟨[4,3,1,0,2,6,5,8,7],[],[],[]⟩,⟨[9,4,3,1,0,2,6,5,8,7],[],[],[]⟩])],[(100008,R_Check.c100008r),(10,R_Check.c10r),(3,R_Check.c3r),(1,R_Check.c1r)],[],tab_eqs⟩
theorem R_Check.eq (x_:dens R_Check.ce.params):den R_Check.G Try.f13 R_Check.ce.params R_Check.ce.res x_ = R_Check.ce.F x_:=by kernel_rfl
theorem R_Check.p0:PcA R_Check.G Try.f13 0 :=
 region_ok (s:=R_Check.c1r) (by kernel_rfl) (by kernel_rfl) (sums_of (sh:=R_Check.c1s) (fun ρ x_ k_=>(nat_br nat_leaf nat_leaf)) (fun ρ x_ t k=>(by kernel_rfl)) (fun x_=>by kernel_rfl))
theorem R_Check.p1:PcA R_Check.G Try.f13 1 :=
 region_ok (s:=R_Check.c3r) (by kernel_rfl) (by kernel_rfl) (sums_of (sh:=R_Check.c3s) (fun ρ x_ k_=>(nat_br nat_leaf nat_leaf)) (fun ρ x_ t k=>(by kernel_rfl)) (fun x_=>by kernel_rfl))
theorem R_Check.p2:PcA R_Check.G Try.f13 2 :=
 loop_ok (s:=R_Check.c100008r) (by kernel_rfl) (by kernel_rfl) (loops_of (sh:=R_Check.c100008s) (I:=fun x_ s_=>(x_.1,s_,x_.2.2)) (fun x_=>rfl) (fun ρ x_ s_ k_=>(nat_br (nat_bnd fun _=>(nat_br (nat_bnd fun _=>nat_leaf) nat_leaf)) nat_leaf)) (fun ρ x_ t k=>(nat_sel (fun _=>(by kernel_rfl)) (fun _=>(by kernel_rfl)))) (fun x_ s=>by kernel_rfl))
theorem R_Check.p3:PcA R_Check.G Try.f13 3 :=
 region_ok (s:=R_Check.c10r) (by kernel_rfl) (by kernel_rfl) (sums_of (sh:=R_Check.c10s) (fun ρ x_ k_=>(nat_bnd fun _=>(nat_bnd fun _=>nat_leaf))) (fun ρ x_ t k=>(by kernel_rfl)) (fun x_=>by kernel_rfl))
theorem R_Check.ok:CalleeOk Try.prog 13 R_Check.ce:=fn_ok (G:=R_Check.G) tab_ok mixed Try.func13 ⟨(fns_cons R_rfault.ok (fns_cons R_badOp.ok fns_nil)),mfns_nil,tab_eqs_ok⟩ (m:=4) (by kernel_rfl) ⟨⟨⟨⟨trivial,R_Check.p0⟩,R_Check.p1⟩,R_Check.p2⟩,R_Check.p3⟩ (by kernel_rfl) R_Check.eq
def R_Pure.c7 {ρ:Type} (i:Int) (c2:List (Int×(Int×((List Int)×(Int×(Int×(List Int))))))) (k_:Bool → Option ρ):Option ρ :=
 bnd (idx c2 i) fun y =>
 br (decide (Prod.fst y ≥ (5:Int)))
 (k_ true)
 (bnd (idx c2 i) fun y_1 =>
 k_ (decide ((↑(List.length (Prod.snd (Prod.snd (Prod.snd (Prod.snd (Prod.snd y_1)))))):Int) > (0:Int))))
def R_Pure.c7s:Shape:=⟨[(0,tb38),(1,tb1),(2,tb2),(3,tb12),(4,tb5)],[(1,tb34),(2,tb19),(3,tb19)]⟩
def R_Pure.c7x0:Shape:=⟨[(0,tb38),(1,tb1),(2,tb2),(3,tb12),(4,tb5),(34,tb7)],[(1,tb34),(2,tb19),(3,tb19)]⟩
def R_Pure.c7r:Ck:=Ck.of (T:=Bool) R_Pure.c7s (fun ρ x_ k_=>R_Pure.c7 x_.2.1 x_.2.2.2.2.1 k_) (fun ρ x_ r_ k_=>k_ 0 (Shape.inj R_Pure.c7x0 (x_.1,x_.2.1,r_,x_.2.2)))
def R_Pure.c100005 {ρ:Type} (i:Int) (c2:List (Int×(Int×((List Int)×(Int×(Int×(List Int))))))) (k_:Int ⊕ ((Int×Int×Int) ⊕ Int) → Option ρ):Option ρ :=
 br (decide (i < (↑(List.length c2):Int)))
 (bnd (W.R_Pure.c7 i c2 some) fun y =>
 br y
 (bnd (W.R_rfault (15:Int) i) fun y_1 =>
 k_ (.inr (.inl (i,(Prod.fst y_1),(Prod.snd y_1)))))
 (k_ (.inl (IntKind.wrap IntKind.i64 (i + (1:Int))))))
 (k_ (.inr (.inr i)))
def R_Pure.c100005s:Shape:=R_Pure.c7s
def R_Pure.c100005x0:Shape:=R_Pure.c7s
def R_Pure.c100005x1:Shape:=R_Pure.c7s
def R_Pure.c100005r:Ck:=Ck.ofLoop (S:=Int) (T:=(Int×Int×Int) ⊕ Int) R_Pure.c100005s (fun x_=>x_.2.1) (fun ρ x_ s_ k_=>R_Pure.c100005 s_ x_.2.2.2.2.1 k_) (fun ρ x_ r_ k_=>sel r_ (fun r_=>k_ 1 (Shape.inj R_Pure.c100005x0 (x_.1,r_.1,x_.2.2.1,x_.2.2.2.1,x_.2.2.2.2.1,r_.2.1,r_.2.2,x_.2.2.2.2.2.2.2))) (fun r_=>k_ 2 (Shape.inj R_Pure.c100005x1 (x_.1,r_,x_.2.2))))
def R_Pure (c:Int×(Int×(List (Int×(Int×((List Int)×(Int×(Int×(List Int))))))))):Option (Int×Int) :=
 bnd (W.R_Check (Prod.fst c,Prod.fst (Prod.snd c),Prod.snd (Prod.snd c))) fun y =>
 br (Prod.fst y != (0:Int))
 (some (Prod.fst y,Prod.snd y))
 (bnd (iter (fun s ↦ W.R_Pure.c100005 s (Prod.snd (Prod.snd c)) some) (0:Int)) fun y_1 =>
 sel y_1
 (fun u=>some (Prod.fst (Prod.snd u),Prod.snd (Prod.snd u)))
 (fun v=>some (Prod.fst y,Prod.snd y)))
def R_Pure.ce:Go.Ql.Callee:=⟨[(.st (.pair (.int .i64) (.pair (.int .i64) (.sl (.st (.pair (.int .i64) (.pair (.int .i64) (.pair (.sl (.int .i64)) (.pair (.int .i64) (.pair (.int .i64) (.sl (.int .i64))))))))))))],[(.st (.pair (.int .i64) (.int .i64)))],fun x_=>R_Pure x_⟩
def R_Pure.G:Env:=⟨38,tab,[(13,R_Check.ce),(44,R_rfault.ce)],[0,1,2,3,4,9,15,34],[],[],[(100005,R_Pure.c100005r),(7,R_Pure.c7r)],[],tab_eqs⟩
theorem R_Pure.eq (x_:dens R_Pure.ce.params):den R_Pure.G Try.f21 R_Pure.ce.params R_Pure.ce.res x_ = R_Pure.ce.F x_:=by kernel_rfl
theorem R_Pure.p0:PcA R_Pure.G Try.f21 0 :=
 loop_ok (s:=R_Pure.c100005r) (by kernel_rfl) (by kernel_rfl) (loops_of (sh:=R_Pure.c100005s) (I:=fun x_ s_=>(x_.1,s_,x_.2.2)) (fun x_=>rfl) (fun ρ x_ s_ k_=>(nat_br (nat_bnd fun _=>(nat_br (nat_bnd fun _=>nat_leaf) nat_leaf)) nat_leaf)) (fun ρ x_ t k=>(nat_sel (fun _=>(by kernel_rfl)) (fun _=>(by kernel_rfl)))) (fun x_ s=>by kernel_rfl))
theorem R_Pure.p1:PcA R_Pure.G Try.f21 1 :=
 region_ok (s:=R_Pure.c7r) (by kernel_rfl) (by kernel_rfl) (sums_of (sh:=R_Pure.c7s) (fun ρ x_ k_=>(nat_bnd fun _=>(nat_br nat_leaf (nat_bnd fun _=>nat_leaf)))) (fun ρ x_ t k=>(by kernel_rfl)) (fun x_=>by kernel_rfl))
theorem R_Pure.ok:CalleeOk Try.prog 21 R_Pure.ce:=fn_ok (G:=R_Pure.G) tab_ok mixed Try.func21 ⟨(fns_cons R_Check.ok (fns_cons R_rfault.ok fns_nil)),mfns_nil,tab_eqs_ok⟩ (m:=2) (by kernel_rfl) ⟨⟨trivial,R_Pure.p0⟩,R_Pure.p1⟩ (by kernel_rfl) R_Pure.eq
def R_normalOp.c6 {ρ:Type} (o1:Int) (o2:List Int) (k_:Bool → Option ρ):Option ρ :=
 br ((↑(List.length o2):Int) == (0:Int))
 (br (Int.tmod o1 (4:Int) == (0:Int))
 (k_ true)
 (br ((↑(List.length o2):Int) == (1:Int))
 (k_ (Int.tmod o1 (8:Int) == (0:Int)))
 (k_ false)))
 (br ((↑(List.length o2):Int) == (1:Int))
 (k_ (Int.tmod o1 (8:Int) == (0:Int)))
 (k_ false))
def R_normalOp.c6s:Shape:=⟨[(0,tb25),(1,tb1),(2,tb7)],[(1,tb26)]⟩
def R_normalOp.c6x0:Shape:=R_normalOp.c6s
def R_normalOp.c6r:Ck:=Ck.of (T:=Bool) R_normalOp.c6s (fun ρ x_ k_=>R_normalOp.c6 x_.2.2.2.1 x_.2.2.2.2.1 k_) (fun ρ x_ r_ k_=>k_ 0 (Shape.inj R_normalOp.c6x0 (x_.1,r_,x_.2.2)))
def R_normalOp (o:Int×(Int×((List Int)×(Int×(Int×(List Int)))))):Option (Bool) :=
 br (Prod.fst o == (2:Int))
 (some (decide ((↑(List.length (Prod.fst (Prod.snd (Prod.snd o)))):Int) ≤ (1:Int))))
 (br (Prod.fst o == (3:Int))
 (some ((↑(List.length (Prod.fst (Prod.snd (Prod.snd o)))):Int) == (0:Int)))
 (br (Prod.fst o == (4:Int))
 (bnd (W.R_normalOp.c6 (Prod.fst (Prod.snd o)) (Prod.fst (Prod.snd (Prod.snd o))) some) fun y =>
 some y)
 (some true)))
def R_normalOp.ce:Go.Ql.Callee:=⟨[(.st (.pair (.int .i64) (.pair (.int .i64) (.pair (.sl (.int .i64)) (.pair (.int .i64) (.pair (.int .i64) (.sl (.int .i64))))))))],[.bool],fun x_=>R_normalOp x_⟩
def R_normalOp.G:Env:=⟨42,tab,[],[0,1,2,5,12,19],[],[],[(6,R_normalOp.c6r)],[],tab_eqs⟩
theorem R_normalOp.eq (x_:dens R_normalOp.ce.params):den R_normalOp.G Try.f58 R_normalOp.ce.params R_normalOp.ce.res x_ = R_normalOp.ce.F x_:=by kernel_rfl
theorem R_normalOp.p0:PcA R_normalOp.G Try.f58 0 :=
 region_ok (s:=R_normalOp.c6r) (by kernel_rfl) (by kernel_rfl) (sums_of (sh:=R_normalOp.c6s) (fun ρ x_ k_=>(nat_br (nat_br nat_leaf (nat_br nat_leaf nat_leaf)) (nat_br nat_leaf nat_leaf))) (fun ρ x_ t k=>(by kernel_rfl)) (fun x_=>by kernel_rfl))
theorem R_normalOp.ok:CalleeOk Try.prog 58 R_normalOp.ce:=fn_ok (G:=R_normalOp.G) tab_ok mixed Try.func58 ⟨fns_nil,mfns_nil,tab_eqs_ok⟩ (m:=1) (by kernel_rfl) ⟨trivial,R_normalOp.p0⟩ (by kernel_rfl) R_normalOp.eq
def R_NormalFault.c100002 {ρ:Type} (i:Int) (c2:List (Int×(Int×((List Int)×(Int×(Int×(List Int))))))) (k_:Int ⊕ ((Int×Int×Int) ⊕ Int) → Option ρ):Option ρ :=
 br (decide (i < (↑(List.length c2):Int)))
 (bnd (idx c2 i) fun y =>
 bnd (W.R_normalOp y) fun y_1 =>
 br (!y_1)
 (bnd (W.R_rfault (41:Int) i) fun y_2 =>
 k_ (.inr (.inl (i,(Prod.fst y_2),(Prod.snd y_2)))))
 (k_ (.inl (IntKind.wrap IntKind.i64 (i + (1:Int))))))
 (k_ (.inr (.inr i)))
def R_NormalFault.c100002s:Shape:=⟨[(0,tb38),(1,tb1),(2,tb2),(3,tb5)],[(1,tb34),(2,tb19)]⟩
def R_NormalFault.c100002x0:Shape:=R_NormalFault.c100002s
def R_NormalFault.c100002x1:Shape:=R_NormalFault.c100002s
def R_NormalFault.c100002r:Ck:=Ck.ofLoop (S:=Int) (T:=(Int×Int×Int) ⊕ Int) R_NormalFault.c100002s (fun x_=>x_.2.1) (fun ρ x_ s_ k_=>R_NormalFault.c100002 s_ x_.2.2.2.2.1 k_) (fun ρ x_ r_ k_=>sel r_ (fun r_=>k_ 1 (Shape.inj R_NormalFault.c100002x0 (x_.1,r_.1,x_.2.2.1,x_.2.2.2.1,x_.2.2.2.2.1,r_.2.1,r_.2.2,()))) (fun r_=>k_ 2 (Shape.inj R_NormalFault.c100002x1 (x_.1,r_,x_.2.2))))
def R_NormalFault (c:Int×(Int×(List (Int×(Int×((List Int)×(Int×(Int×(List Int))))))))):Option (Int×Int) :=
 bnd (iter (fun s ↦ W.R_NormalFault.c100002 s (Prod.snd (Prod.snd c)) some) (0:Int)) fun y =>
 sel y
 (fun u=>some (Prod.fst (Prod.snd u),Prod.snd (Prod.snd u)))
 (fun v=>some ((0:Int),(0:Int)))
def R_NormalFault.ce:Go.Ql.Callee:=⟨[(.st (.pair (.int .i64) (.pair (.int .i64) (.sl (.st (.pair (.int .i64) (.pair (.int .i64) (.pair (.sl (.int .i64)) (.pair (.int .i64) (.pair (.int .i64) (.sl (.int .i64))))))))))))],[(.st (.pair (.int .i64) (.int .i64)))],fun x_=>R_NormalFault x_⟩
def R_NormalFault.G:Env:=⟨21,tab,[(58,R_normalOp.ce),(44,R_rfault.ce)],[0,1,2,3,8,17],[],[],[(100002,R_NormalFault.c100002r)],[],tab_eqs⟩
theorem R_NormalFault.eq (x_:dens R_NormalFault.ce.params):den R_NormalFault.G Try.f22 R_NormalFault.ce.params R_NormalFault.ce.res x_ = R_NormalFault.ce.F x_:=by kernel_rfl
theorem R_NormalFault.p0:PcA R_NormalFault.G Try.f22 0 :=
 loop_ok (s:=R_NormalFault.c100002r) (by kernel_rfl) (by kernel_rfl) (loops_of (sh:=R_NormalFault.c100002s) (I:=fun x_ s_=>(x_.1,s_,x_.2.2)) (fun x_=>rfl) (fun ρ x_ s_ k_=>(nat_br (nat_bnd fun _=>(nat_bnd fun _=>(nat_br (nat_bnd fun _=>nat_leaf) nat_leaf))) nat_leaf)) (fun ρ x_ t k=>(nat_sel (fun _=>(by kernel_rfl)) (fun _=>(by kernel_rfl)))) (fun x_ s=>by kernel_rfl))
theorem R_NormalFault.ok:CalleeOk Try.prog 22 R_NormalFault.ce:=fn_ok (G:=R_NormalFault.G) tab_ok mixed Try.func22 ⟨(fns_cons R_normalOp.ok (fns_cons R_rfault.ok fns_nil)),mfns_nil,tab_eqs_ok⟩ (m:=1) (by kernel_rfl) ⟨trivial,R_NormalFault.p0⟩ (by kernel_rfl) R_NormalFault.eq
def circ_Pure (c:Int×(Int×(List (Int×(Int×((List Int)×(Int×(Int×(List Int))))))))):Option (Int×Int) :=
 bnd (W.circ_pure (Prod.fst c,Prod.fst (Prod.snd c),Prod.snd (Prod.snd c))) fun y =>
 some (Prod.fst y,Prod.snd y)
def circ_Pure.ce:Go.Ql.Callee:=⟨[(.st (.pair (.int .i64) (.pair (.int .i64) (.sl (.st (.pair (.int .i64) (.pair (.int .i64) (.pair (.sl (.int .i64)) (.pair (.int .i64) (.pair (.int .i64) (.sl (.int .i64))))))))))))],[(.st (.pair (.int .i64) (.int .i64)))],fun x_=>circ_Pure x_⟩
def circ_Pure.G:Env:=⟨5,tab,[(101,circ_pure.ce)],[0,1,2],[],[],[],[],tab_eqs⟩
theorem circ_Pure.eq (x_:dens circ_Pure.ce.params):den circ_Pure.G Try.f93 circ_Pure.ce.params circ_Pure.ce.res x_ = circ_Pure.ce.F x_:=by kernel_rfl
theorem circ_Pure.ok:CalleeOk Try.prog 93 circ_Pure.ce:=fn_ok (G:=circ_Pure.G) tab_ok mixed Try.func93 ⟨(fns_cons circ_pure.ok fns_nil),mfns_nil,tab_eqs_ok⟩ (m:=0) (by kernel_rfl) trivial (by kernel_rfl) circ_Pure.eq
def tableau_normal.c7 {ρ:Type} (o1:Int) (o2:List Int) (k_:Bool → Option ρ):Option ρ :=
 br ((↑(List.length o2):Int) == (0:Int))
 (br (Int.tmod o1 (4:Int) == (0:Int))
 (k_ true)
 (br ((↑(List.length o2):Int) == (1:Int))
 (k_ (Int.tmod o1 (8:Int) == (0:Int)))
 (k_ false)))
 (br ((↑(List.length o2):Int) == (1:Int))
 (k_ (Int.tmod o1 (8:Int) == (0:Int)))
 (k_ false))
def tableau_normal.c7s:Shape:=⟨[(0,tb25),(1,tb1),(2,tb7),(4,tb5)],[(1,tb26)]⟩
def tableau_normal.c7x0:Shape:=tableau_normal.c7s
def tableau_normal.c7r:Ck:=Ck.of (T:=Bool) tableau_normal.c7s (fun ρ x_ k_=>tableau_normal.c7 x_.2.2.2.2.1 x_.2.2.2.2.2.1 k_) (fun ρ x_ r_ k_=>k_ 0 (Shape.inj tableau_normal.c7x0 (x_.1,r_,x_.2.2)))
def tableau_normal (o:Int×(Int×((List Int)×(Int×(Int×(List Int)))))):Option (Bool) :=
 br (Prod.fst o == (2:Int))
 (some (decide ((↑(List.length (Prod.fst (Prod.snd (Prod.snd o)))):Int) < (2:Int))))
 (br (Prod.fst o == (3:Int))
 (some ((↑(List.length (Prod.fst (Prod.snd (Prod.snd o)))):Int) == (0:Int)))
 (br (Prod.fst o == (4:Int))
 (bnd (W.tableau_normal.c7 (Prod.fst (Prod.snd o)) (Prod.fst (Prod.snd (Prod.snd o))) some) fun y =>
 some y)
 (some true)))
def tableau_normal.ce:Go.Ql.Callee:=⟨[(.st (.pair (.int .i64) (.pair (.int .i64) (.pair (.sl (.int .i64)) (.pair (.int .i64) (.pair (.int .i64) (.sl (.int .i64))))))))],[.bool],fun x_=>tableau_normal x_⟩
def tableau_normal.G:Env:=⟨41,tab,[],[0,1,2,4,5,11,17],[],[],[(7,tableau_normal.c7r)],[],tab_eqs⟩
theorem tableau_normal.eq (x_:dens tableau_normal.ce.params):den tableau_normal.G Try.f82 tableau_normal.ce.params tableau_normal.ce.res x_ = tableau_normal.ce.F x_:=by kernel_rfl
theorem tableau_normal.p0:PcA tableau_normal.G Try.f82 0 :=
 region_ok (s:=tableau_normal.c7r) (by kernel_rfl) (by kernel_rfl) (sums_of (sh:=tableau_normal.c7s) (fun ρ x_ k_=>(nat_br (nat_br nat_leaf (nat_br nat_leaf nat_leaf)) (nat_br nat_leaf nat_leaf))) (fun ρ x_ t k=>(by kernel_rfl)) (fun x_=>by kernel_rfl))
theorem tableau_normal.ok:CalleeOk Try.prog 82 tableau_normal.ce:=fn_ok (G:=tableau_normal.G) tab_ok mixed Try.func82 ⟨fns_nil,mfns_nil,tab_eqs_ok⟩ (m:=1) (by kernel_rfl) ⟨trivial,tableau_normal.p0⟩ (by kernel_rfl) tableau_normal.eq
def tableau_stranger.c100002 {ρ:Type} (t6:List (Int×(Int×((List Int)×(Int×(Int×(List Int))))))) (t7:Int) (t8:Int) (k_:Int ⊕ ((Int×Int) ⊕ Int) → Option ρ):Option ρ :=
 br (decide (t8 < t7))
 (bnd (idx t6 t8) fun y =>
 bnd (W.tableau_normal (Prod.fst y,Prod.fst (Prod.snd y),Prod.fst (Prod.snd (Prod.snd y)),Prod.fst (Prod.snd (Prod.snd (Prod.snd y))),Prod.fst (Prod.snd (Prod.snd (Prod.snd (Prod.snd y)))),Prod.snd (Prod.snd (Prod.snd (Prod.snd (Prod.snd y)))))) fun y_1 =>
 br (!y_1)
 (k_ (.inr (.inl (t8,t8))))
 (k_ (.inl (IntKind.wrap IntKind.i64 (t8 + (1:Int))))))
 (k_ (.inr (.inr t8)))
def tableau_stranger.c100002s:Shape:=⟨[(0,tb38),(1,tb1),(2,tb2),(6,tb31),(7,tb5),(8,tb5)],[(1,tb34),(2,tb19)]⟩
def tableau_stranger.c100002x0:Shape:=tableau_stranger.c100002s
def tableau_stranger.c100002x1:Shape:=tableau_stranger.c100002s
def tableau_stranger.c100002r:Ck:=Ck.ofLoop (S:=Int) (T:=(Int×Int) ⊕ Int) tableau_stranger.c100002s (fun x_=>x_.2.2.2.1) (fun ρ x_ s_ k_=>tableau_stranger.c100002 x_.2.1 x_.2.2.1 s_ k_) (fun ρ x_ r_ k_=>sel r_ (fun r_=>k_ 1 (Shape.inj tableau_stranger.c100002x0 (x_.1,x_.2.1,x_.2.2.1,r_.1,x_.2.2.2.2.1,x_.2.2.2.2.2.1,x_.2.2.2.2.2.2.1,(41:Int),r_.2,()))) (fun r_=>k_ 2 (Shape.inj tableau_stranger.c100002x1 (x_.1,x_.2.1,x_.2.2.1,r_,x_.2.2.2.2))))
def tableau_stranger (c:Int×(Int×(List (Int×(Int×((List Int)×(Int×(Int×(List Int))))))))):Option (Int×Int) :=
 bnd (iter (fun s ↦ W.tableau_stranger.c100002 (Prod.snd (Prod.snd c)) (↑(List.length (Prod.snd (Prod.snd c))):Int) s some) (0:Int)) fun y =>
 sel y
 (fun u=>some ((41:Int),Prod.snd u))
 (fun v=>some ((0:Int),(0:Int)))
def tableau_stranger.ce:Go.Ql.Callee:=⟨[(.st (.pair (.int .i64) (.pair (.int .i64) (.sl (.st (.pair (.int .i64) (.pair (.int .i64) (.pair (.sl (.int .i64)) (.pair (.int .i64) (.pair (.int .i64) (.sl (.int .i64))))))))))))],[(.st (.pair (.int .i64) (.int .i64)))],fun x_=>tableau_stranger x_⟩
def tableau_stranger.G:Env:=⟨20,tab,[(82,tableau_normal.ce)],[0,1,2,3,4,6,7,8,9,15],[],[],[(100002,tableau_stranger.c100002r)],[],tab_eqs⟩
theorem tableau_stranger.eq (x_:dens tableau_stranger.ce.params):den tableau_stranger.G Try.f37 tableau_stranger.ce.params tableau_stranger.ce.res x_ = tableau_stranger.ce.F x_:=by kernel_rfl
theorem tableau_stranger.p0:PcA tableau_stranger.G Try.f37 0 :=
 loop_ok (s:=tableau_stranger.c100002r) (by kernel_rfl) (by kernel_rfl) (loops_of (sh:=tableau_stranger.c100002s) (I:=fun x_ s_=>(x_.1,x_.2.1,x_.2.2.1,s_,x_.2.2.2.2)) (fun x_=>rfl) (fun ρ x_ s_ k_=>(nat_br (nat_bnd fun _=>(nat_bnd fun _=>(nat_br nat_leaf nat_leaf))) nat_leaf)) (fun ρ x_ t k=>(nat_sel (fun _=>(by kernel_rfl)) (fun _=>(by kernel_rfl)))) (fun x_ s=>by kernel_rfl))
theorem tableau_stranger.ok:CalleeOk Try.prog 37 tableau_stranger.ce:=fn_ok (G:=tableau_stranger.G) tab_ok mixed Try.func37 ⟨(fns_cons tableau_normal.ok fns_nil),mfns_nil,tab_eqs_ok⟩ (m:=1) (by kernel_rfl) ⟨trivial,tableau_stranger.p0⟩ (by kernel_rfl) tableau_stranger.eq
def tableau_pure (c:Int×(Int×(List (Int×(Int×((List Int)×(Int×(Int×(List Int))))))))):Option (Int×Int) :=
 bnd (W.circ_Pure (Prod.fst c,Prod.fst (Prod.snd c),Prod.snd (Prod.snd c))) fun y =>
 br (Prod.fst y != (0:Int))
 (some (Prod.fst y,Prod.snd y))
 (bnd (W.tableau_stranger (Prod.fst c,Prod.fst (Prod.snd c),Prod.snd (Prod.snd c))) fun y_1 =>
 some (Prod.fst y_1,Prod.snd y_1))
def tableau_pure.ce:Go.Ql.Callee:=⟨[(.st (.pair (.int .i64) (.pair (.int .i64) (.sl (.st (.pair (.int .i64) (.pair (.int .i64) (.pair (.sl (.int .i64)) (.pair (.int .i64) (.pair (.int .i64) (.sl (.int .i64))))))))))))],[(.st (.pair (.int .i64) (.int .i64)))],fun x_=>tableau_pure x_⟩
def tableau_pure.G:Env:=⟨12,tab,[(93,circ_Pure.ce),(37,tableau_stranger.ce)],[0,1,2,3,8],[],[],[],[],tab_eqs⟩
theorem tableau_pure.eq (x_:dens tableau_pure.ce.params):den tableau_pure.G Try.f55 tableau_pure.ce.params tableau_pure.ce.res x_ = tableau_pure.ce.F x_:=by kernel_rfl
theorem tableau_pure.ok:CalleeOk Try.prog 55 tableau_pure.ce:=fn_ok (G:=tableau_pure.G) tab_ok mixed Try.func55 ⟨(fns_cons circ_Pure.ok (fns_cons tableau_stranger.ok fns_nil)),mfns_nil,tab_eqs_ok⟩ (m:=0) (by kernel_rfl) trivial (by kernel_rfl) tableau_pure.eq
def tableau_Image.c3 {ρ:Type}  (k_:Unit → Option ρ):Option ρ :=
 k_ ()
def tableau_Image.c3s:Shape:=⟨[(0,tb38),(1,tb4),(2,tb2),(4,tb4),(5,tb39),(6,tb8)],[(2,tb34),(5,tb19),(6,tb19)]⟩
def tableau_Image.c3x0:Shape:=tableau_Image.c3s
def tableau_Image.c3r:Ck:=Ck.of (T:=Unit) tableau_Image.c3s (fun ρ x_ k_=>tableau_Image.c3  k_) (fun ρ x_ r_ k_=>k_ 0 (Shape.inj tableau_Image.c3x0 (x_.1,x_.2.1,(Array.toList (ByteArray.data (ByteArray.mk #[]))),x_.2.2.2.1,x_.2.2.2.2.1,x_.2.2.2.2.2.1,x_.2.2.2.2.2.2.2.2.1,x_.2.2.2.2.2.2.2.2.2.1,x_.2.2.2.2.2.2.2.2)))
def tableau_Image.c100008 {ρ:Type} (t28:List (Int×(Int×((List Int)×(Int×(Int×(List Int))))))) (t29:Int) (t30:Int) (p0:Int) (p1:Int) (p2:Bool) (k_:(Int×Int×Int×(Bool)) ⊕ (Int×Int×Int×(Bool)) → Option ρ):Option ρ :=
 br (decide (t30 < t29))
 (bnd (idx t28 t30) fun y =>
 bnd (W.tableau_pauli_gate ((p0,p1,p2),(Prod.fst y,Prod.fst (Prod.snd y),Prod.fst (Prod.snd (Prod.snd y)),Prod.fst (Prod.snd (Prod.snd (Prod.snd y))),Prod.fst (Prod.snd (Prod.snd (Prod.snd (Prod.snd y)))),Prod.snd (Prod.snd (Prod.snd (Prod.snd (Prod.snd y))))),())) fun y_1 =>
 k_ (.inl ((IntKind.wrap IntKind.i64 (t30 + (1:Int))),(Prod.fst (Prod.fst y_1)),(Prod.fst (Prod.snd (Prod.fst y_1))),(Prod.snd (Prod.snd (Prod.fst y_1))))))
 (k_ (.inr (t30,p0,p1,p2)))
def tableau_Image.c100008s:Shape:=⟨[(0,tb38),(1,tb4),(2,tb2),(4,tb4),(5,tb39),(6,tb8),(7,tb42),(8,tb7),(28,tb31),(29,tb5),(30,tb5)],[(2,tb34),(5,tb19),(6,tb19),(7,tb9)]⟩
def tableau_Image.c100008x0:Shape:=tableau_Image.c100008s
def tableau_Image.c100008r:Ck:=Ck.ofLoop (S:=Int×Int×Int×(Bool)) (T:=Int×Int×Int×(Bool)) tableau_Image.c100008s (fun x_=>(x_.2.2.2.2.2.2.1,x_.2.2.2.2.2.2.2.2.2.2.2.2.2.2.1,x_.2.2.2.2.2.2.2.2.2.2.2.2.2.2.2.1,x_.2.2.2.2.2.2.2.2.2.2.2.2.2.2.2.2.1)) (fun ρ x_ s_ k_=>tableau_Image.c100008 x_.2.2.2.2.1 x_.2.2.2.2.2.1 s_.1 s_.2.1 s_.2.2.1 s_.2.2.2 k_) (fun ρ x_ r_ k_=>k_ 2 (Shape.inj tableau_Image.c100008x0 (x_.1,x_.2.1,x_.2.2.1,x_.2.2.2.1,x_.2.2.2.2.1,x_.2.2.2.2.2.1,r_.1,x_.2.2.2.2.2.2.2.1,x_.2.2.2.2.2.2.2.2.1,x_.2.2.2.2.2.2.2.2.2.1,x_.2.2.2.2.2.2.2.2.2.2.1,x_.2.2.2.2.2.2.2.2.2.2.2.1,x_.2.2.2.2.2.2.2.2.2.2.2.2.1,x_.2.2.2.2.2.2.2.2.2.2.2.2.2.1,r_.2.1,r_.2.2.1,r_.2.2.2,())))
def tableau_Image (c:Int×(Int×(List (Int×(Int×((List Int)×(Int×(Int×(List Int))))))))) (text:List UInt8):Option ((List UInt8)×(Int×Int)) :=
 bnd (W.tableau_pure (Prod.fst c,Prod.fst (Prod.snd c),Prod.snd (Prod.snd c))) fun y =>
 br (Prod.fst y != (0:Int))
 (bnd (W.tableau_Image.c3 some) fun y_1 =>
 some (Array.toList (ByteArray.data (ByteArray.mk #[])),Prod.fst y,Prod.snd y))
 (bnd (W.tableau_read text (Prod.fst c)) fun y_2 =>
 br (!Prod.snd y_2)
 (some (Array.toList (ByteArray.data (ByteArray.mk #[])),(33:Int),(0:Int)))
 (bnd (iter (fun s ↦ W.tableau_Image.c100008 (Prod.snd (Prod.snd c)) (↑(List.length (Prod.snd (Prod.snd c))):Int) (Prod.fst s) (Prod.fst (Prod.snd s)) (Prod.fst (Prod.snd (Prod.snd s))) (Prod.snd (Prod.snd (Prod.snd s))) some) ((0:Int),Prod.fst (Prod.fst y_2),Prod.fst (Prod.snd (Prod.fst y_2)),Prod.snd (Prod.snd (Prod.fst y_2)))) fun y_3 =>
 bnd (W.tableau_pauli_text (Prod.fst (Prod.snd y_3),Prod.fst (Prod.snd (Prod.snd y_3)),Prod.snd (Prod.snd (Prod.snd y_3))) (Prod.fst c)) fun y_4 =>
 some (y_4,(0:Int),(0:Int))))
def tableau_Image.ce:Go.Ql.Callee:=⟨[(.st (.pair (.int .i64) (.pair (.int .i64) (.sl (.st (.pair (.int .i64) (.pair (.int .i64) (.pair (.sl (.int .i64)) (.pair (.int .i64) (.pair (.int .i64) (.sl (.int .i64)))))))))))),.str],[.str,(.st (.pair (.int .i64) (.int .i64)))],fun x_=>tableau_Image x_.1 x_.2⟩
def tableau_Image.G:Env:=⟨43,tab,[(55,tableau_pure.ce),(56,tableau_read.ce),(43,tableau_pauli_text.ce)],[0,1,2,4,5,6,7,8,10,15,25,28,29,30,31],[],[(3,[⟨[],[],[4],[]⟩,⟨[],[],[16],[]⟩,⟨[0,1],[5],[],[]⟩])],[(100008,tableau_Image.c100008r),(3,tableau_Image.c3r)],[(57,tableau_pauli_gate.mc)],tab_eqs⟩
theorem tableau_Image.eq (x_:dens tableau_Image.ce.params):den tableau_Image.G Try.f20 tableau_Image.ce.params tableau_Image.ce.res x_ = tableau_Image.ce.F x_:=by kernel_rfl
theorem tableau_Image.p0:PcA tableau_Image.G Try.f20 0 :=
 region_ok (s:=tableau_Image.c3r) (by kernel_rfl) (by kernel_rfl) (sums_of (sh:=tableau_Image.c3s) (fun ρ x_ k_=>nat_leaf) (fun ρ x_ t k=>(by kernel_rfl)) (fun x_=>by kernel_rfl))
theorem tableau_Image.p1:PcA tableau_Image.G Try.f20 1 :=
 loop_ok (s:=tableau_Image.c100008r) (by kernel_rfl) (by kernel_rfl) (loops_of (sh:=tableau_Image.c100008s) (I:=fun x_ s_=>(x_.1,x_.2.1,x_.2.2.1,x_.2.2.2.1,x_.2.2.2.2.1,x_.2.2.2.2.2.1,s_.1,x_.2.2.2.2.2.2.2.1,x_.2.2.2.2.2.2.2.2.1,x_.2.2.2.2.2.2.2.2.2.1,x_.2.2.2.2.2.2.2.2.2.2.1,x_.2.2.2.2.2.2.2.2.2.2.2.1,x_.2.2.2.2.2.2.2.2.2.2.2.2.1,x_.2.2.2.2.2.2.2.2.2.2.2.2.2.1,s_.2.1,s_.2.2.1,s_.2.2.2,())) (fun x_=>rfl) (fun ρ x_ s_ k_=>(nat_br (nat_bnd fun _=>(nat_bnd fun _=>nat_leaf)) nat_leaf)) (fun ρ x_ t k=>(by kernel_rfl)) (fun x_ s=>by kernel_rfl))
theorem tableau_Image.ok:CalleeOk Try.prog 20 tableau_Image.ce:=fn_ok (G:=tableau_Image.G) tab_ok mixed Try.func20 ⟨(fns_cons tableau_pure.ok (fns_cons tableau_read.ok (fns_cons tableau_pauli_text.ok fns_nil))),(mfns_cons tableau_pauli_gate.ok mfns_nil),tab_eqs_ok⟩ (m:=2) (by kernel_rfl) ⟨⟨trivial,tableau_Image.p0⟩,tableau_Image.p1⟩ (by kernel_rfl) tableau_Image.eq
abbrev tb74:SD:=.one (.ref 12 0)
def R_copyInts.c100003 {ρ:Type} (l:List Int) (i:Int) (out:List Int) (k_:(Int×(List Int)) ⊕ (Int×(List Int)) → Option ρ):Option ρ :=
 br (decide (i < (↑(List.length l):Int)))
 (bnd (idx l i) fun y =>
 bnd (okIf (decide ((List.length out + (1:Nat)) * (8:Nat) ≤ (140737488355328:Nat)) && decide (List.length out + (1:Nat) ≤ (140737488355328:Nat)))) fun y_1 =>
 k_ (.inl ((IntKind.wrap IntKind.i64 (i + (1:Int))),(out ++ [y]))))
 (k_ (.inr (i,out)))
def R_copyInts.c100003s:Shape:=⟨[(0,tb36),(2,tb36),(3,tb46),(4,tb5)],[(3,tb50)]⟩
def R_copyInts.c100003x0:Shape:=R_copyInts.c100003s
def R_copyInts.c100003r:Ck:=Ck.ofLoop (S:=Int×(List Int)) (T:=Int×(List Int)) R_copyInts.c100003s (fun x_=>(x_.2.2.1,x_.2.2.2.1)) (fun ρ x_ s_ k_=>R_copyInts.c100003 x_.1 s_.1 s_.2 k_) (fun ρ x_ r_ k_=>k_ 2 (Shape.inj R_copyInts.c100003x0 (x_.1,x_.2.1,r_.1,r_.2,())))
def R_copyInts (l:List Int):Option (List Int) :=
 bnd (iter (fun s ↦ W.R_copyInts.c100003 l (Prod.fst s) (Prod.snd s) some) ((0:Int),[])) fun y =>
 some (Prod.snd y)
def R_copyInts.ce:Go.Ql.Callee:=⟨[(.sl (.int .i64))],[(.sl (.int .i64))],fun x_=>R_copyInts x_⟩
def R_copyInts.G:Env:=⟨19,tab,[],[0,2,3,4,8],[3],[],[(100003,R_copyInts.c100003r)],[],tab_eqs⟩
theorem R_copyInts.eq (x_:dens R_copyInts.ce.params):den R_copyInts.G Try.f79 R_copyInts.ce.params R_copyInts.ce.res x_ = R_copyInts.ce.F x_:=by kernel_rfl
theorem R_copyInts.p0:PcA R_copyInts.G Try.f79 0 :=
 loop_ok (s:=R_copyInts.c100003r) (by kernel_rfl) (by kernel_rfl) (loops_of (sh:=R_copyInts.c100003s) (I:=fun x_ s_=>(x_.1,x_.2.1,s_.1,s_.2,())) (fun x_=>rfl) (fun ρ x_ s_ k_=>(nat_br (nat_bnd fun _=>(nat_bnd fun _=>nat_leaf)) nat_leaf)) (fun ρ x_ t k=>(by kernel_rfl)) (fun x_ s=>by kernel_rfl))
theorem R_copyInts.ok:CalleeOk Try.prog 79 R_copyInts.ce:=fn_ok (G:=R_copyInts.G) tab_ok mixed Try.func79 ⟨fns_nil,mfns_nil,tab_eqs_ok⟩ (m:=1) (by kernel_rfl) ⟨trivial,R_copyInts.p0⟩ (by kernel_rfl) R_copyInts.eq
def R_copyOp (o:Int×(Int×((List Int)×(Int×(Int×(List Int)))))):Option (Int×(Int×((List Int)×(Int×(Int×(List Int)))))) :=
 bnd (W.R_copyInts (Prod.fst (Prod.snd (Prod.snd o)))) fun y =>
 bnd (W.R_copyInts (Prod.snd (Prod.snd (Prod.snd (Prod.snd (Prod.snd o)))))) fun y_1 =>
 some (Prod.fst o,Prod.fst (Prod.snd o),y,Prod.fst (Prod.snd (Prod.snd (Prod.snd o))),Prod.fst (Prod.snd (Prod.snd (Prod.snd (Prod.snd o)))),y_1)
def R_copyOp.ce:Go.Ql.Callee:=⟨[(.st (.pair (.int .i64) (.pair (.int .i64) (.pair (.sl (.int .i64)) (.pair (.int .i64) (.pair (.int .i64) (.sl (.int .i64))))))))],[(.st (.pair (.int .i64) (.pair (.int .i64) (.pair (.sl (.int .i64)) (.pair (.int .i64) (.pair (.int .i64) (.sl (.int .i64))))))))],fun x_=>R_copyOp x_⟩
def R_copyOp.G:Env:=⟨12,tab,[(79,R_copyInts.ce)],[0,1,2],[],[],[],[],tab_eqs⟩
theorem R_copyOp.eq (x_:dens R_copyOp.ce.params):den R_copyOp.G Try.f34 R_copyOp.ce.params R_copyOp.ce.res x_ = R_copyOp.ce.F x_:=by kernel_rfl
theorem R_copyOp.ok:CalleeOk Try.prog 34 R_copyOp.ce:=fn_ok (G:=R_copyOp.G) tab_ok mixed Try.func34 ⟨(fns_cons R_copyInts.ok fns_nil),mfns_nil,tab_eqs_ok⟩ (m:=0) (by kernel_rfl) trivial (by kernel_rfl) R_copyOp.eq
abbrev tb75:SO:=.box [.val (.int .i64),.val (.int .i64),.own 3003 0]
def R_CopyCircuit.c5 {ρ:Type} (i:Int) (c2:List (Int×(Int×((List Int)×(Int×(Int×(List Int))))))) (t3003:List (Int×(Int×((List Int)×(Int×(Int×(List Int))))))) (k_:List (Int×(Int×((List Int)×(Int×(Int×(List Int)))))) → Option ρ):Option ρ :=
 bnd (idx c2 i) fun y =>
 bnd (W.R_copyOp y) fun y_1 =>
 bnd (okIf (decide ((List.length t3003 + (1:Nat)) * (80:Nat) ≤ (140737488355328:Nat)) && decide (List.length t3003 + (1:Nat) ≤ (140737488355328:Nat)))) fun y_2 =>
 k_ (t3003 ++ [y_1])
def R_CopyCircuit.c5s:Shape:=⟨[(0,tb38),(1,tb1),(2,tb2),(3,tb12),(4,tb5)],[(1,tb34),(2,tb34),(3,tb75),(3003,tb30)]⟩
def R_CopyCircuit.c5x0:Shape:=R_CopyCircuit.c5s
def R_CopyCircuit.c5r:Ck:=Ck.of (T:=List (Int×(Int×((List Int)×(Int×(Int×(List Int))))))) R_CopyCircuit.c5s (fun ρ x_ k_=>R_CopyCircuit.c5 x_.2.1 x_.2.2.2.2.1 x_.2.2.2.2.2.2.2.2.2.2.1 k_) (fun ρ x_ r_ k_=>k_ 0 (Shape.inj R_CopyCircuit.c5x0 (x_.1,x_.2.1,x_.2.2.1,x_.2.2.2.1,x_.2.2.2.2.1,x_.2.2.2.2.2.1,x_.2.2.2.2.2.2.1,x_.2.2.2.2.2.2.2.1,x_.2.2.2.2.2.2.2.2.1,x_.2.2.2.2.2.2.2.2.2.1,r_,())))
def R_CopyCircuit.c100003 {ρ:Type} (i:Int) (c2:List (Int×(Int×((List Int)×(Int×(Int×(List Int))))))) (t3003:List (Int×(Int×((List Int)×(Int×(Int×(List Int))))))) (k_:(Int×(List (Int×(Int×((List Int)×(Int×(Int×(List Int)))))))) ⊕ (Int×(List (Int×(Int×((List Int)×(Int×(Int×(List Int)))))))) → Option ρ):Option ρ :=
 br (decide (i < (↑(List.length c2):Int)))
 (bnd (W.R_CopyCircuit.c5 i c2 t3003 some) fun y =>
 k_ (.inl ((IntKind.wrap IntKind.i64 (i + (1:Int))),y)))
 (k_ (.inr (i,t3003)))
def R_CopyCircuit.c100003s:Shape:=R_CopyCircuit.c5s
def R_CopyCircuit.c100003x0:Shape:=R_CopyCircuit.c5s
def R_CopyCircuit.c100003r:Ck:=Ck.ofLoop (S:=Int×(List (Int×(Int×((List Int)×(Int×(Int×(List Int)))))))) (T:=Int×(List (Int×(Int×((List Int)×(Int×(Int×(List Int)))))))) R_CopyCircuit.c100003s (fun x_=>(x_.2.1,x_.2.2.2.2.2.2.2.2.2.2.1)) (fun ρ x_ s_ k_=>R_CopyCircuit.c100003 s_.1 x_.2.2.2.2.1 s_.2 k_) (fun ρ x_ r_ k_=>k_ 2 (Shape.inj R_CopyCircuit.c100003x0 (x_.1,r_.1,x_.2.2.1,x_.2.2.2.1,x_.2.2.2.2.1,x_.2.2.2.2.2.1,x_.2.2.2.2.2.2.1,x_.2.2.2.2.2.2.2.1,x_.2.2.2.2.2.2.2.2.1,x_.2.2.2.2.2.2.2.2.2.1,r_.2,())))
def R_CopyCircuit (c:Int×(Int×(List (Int×(Int×((List Int)×(Int×(Int×(List Int))))))))):Option (Int×(Int×(List (Int×(Int×((List Int)×(Int×(Int×(List Int))))))))) :=
 bnd (iter (fun s ↦ W.R_CopyCircuit.c100003 (Prod.fst s) (Prod.snd (Prod.snd c)) (Prod.snd s) some) ((0:Int),[])) fun y =>
 some (Prod.fst c,Prod.fst (Prod.snd c),Prod.snd y)
def R_CopyCircuit.ce:Go.Ql.Callee:=⟨[(.st (.pair (.int .i64) (.pair (.int .i64) (.sl (.st (.pair (.int .i64) (.pair (.int .i64) (.pair (.sl (.int .i64)) (.pair (.int .i64) (.pair (.int .i64) (.sl (.int .i64))))))))))))],[(.st (.pair (.int .i64) (.pair (.int .i64) (.sl (.st (.pair (.int .i64) (.pair (.int .i64) (.pair (.sl (.int .i64)) (.pair (.int .i64) (.pair (.int .i64) (.sl (.int .i64))))))))))))],fun x_=>R_CopyCircuit x_⟩
def R_CopyCircuit.G:Env:=⟨29,tab,[(34,R_copyOp.ce)],[0,1,2,3,4,14],[1,3,9,3001,3003],[(5,[⟨[],[],[19,20,21,22,23,24,25],[25]⟩,⟨[0],[],[19,20,21,22,23,24,25],[25]⟩,⟨[],[],[17,18,21],[]⟩,⟨[2],[],[17,18,21],[]⟩,⟨[],[],[17,18,19,20],[]⟩,⟨[3,2,4],[],[17,18],[]⟩,⟨[5,3,2,4],[],[17,18],[]⟩,⟨[6,5,3,2,4],[],[17,18],[]⟩,⟨[7,6,5,3,2,4],[25],[17,18],[]⟩,⟨[1,0,8,7,6,5,3,2,4],[3003],[],[]⟩,⟨[0,1,2,3,4,5,6,7,8,9],[],[],[]⟩,⟨[10,0,1,2,3,4,5,6,7,8,9],[3],[],[]⟩])],[(100003,R_CopyCircuit.c100003r),(5,R_CopyCircuit.c5r)],[],tab_eqs⟩
theorem R_CopyCircuit.eq (x_:dens R_CopyCircuit.ce.params):den R_CopyCircuit.G Try.f8 R_CopyCircuit.ce.params R_CopyCircuit.ce.res x_ = R_CopyCircuit.ce.F x_:=by kernel_rfl
theorem R_CopyCircuit.p0:PcA R_CopyCircuit.G Try.f8 0 :=
 loop_ok (s:=R_CopyCircuit.c100003r) (by kernel_rfl) (by kernel_rfl) (loops_of (sh:=R_CopyCircuit.c100003s) (I:=fun x_ s_=>(x_.1,s_.1,x_.2.2.1,x_.2.2.2.1,x_.2.2.2.2.1,x_.2.2.2.2.2.1,x_.2.2.2.2.2.2.1,x_.2.2.2.2.2.2.2.1,x_.2.2.2.2.2.2.2.2.1,x_.2.2.2.2.2.2.2.2.2.1,s_.2,())) (fun x_=>rfl) (fun ρ x_ s_ k_=>(nat_br (nat_bnd fun _=>nat_leaf) nat_leaf)) (fun ρ x_ t k=>(by kernel_rfl)) (fun x_ s=>by kernel_rfl))
theorem R_CopyCircuit.p1:PcA R_CopyCircuit.G Try.f8 1 :=
 region_ok (s:=R_CopyCircuit.c5r) (by kernel_rfl) (by kernel_rfl) (sums_of (sh:=R_CopyCircuit.c5s) (fun ρ x_ k_=>(nat_bnd fun _=>(nat_bnd fun _=>(nat_bnd fun _=>nat_leaf)))) (fun ρ x_ t k=>(by kernel_rfl)) (fun x_=>by kernel_rfl))
theorem R_CopyCircuit.ok:CalleeOk Try.prog 8 R_CopyCircuit.ce:=fn_ok (G:=R_CopyCircuit.G) tab_ok mixed Try.func8 ⟨(fns_cons R_copyOp.ok fns_nil),mfns_nil,tab_eqs_ok⟩ (m:=2) (by kernel_rfl) ⟨⟨trivial,R_CopyCircuit.p0⟩,R_CopyCircuit.p1⟩ (by kernel_rfl) R_CopyCircuit.eq
abbrev tb76:SD:=.one (.ref 0 0)
abbrev tb77:SO:=.box [.val (.int .i64),.own 1 0,.own 2 0]
abbrev tb78:SD:=.one (.val (.nilv 0))
abbrev tb79:SD:=.one (.ref 9 0)
abbrev tb80:SO:=.box [.val (.int .i64),.own 2009 0,.own 3009 0]
def tableau_begin.pre:Shape:=⟨[(0,tb5),(1,tb5)],[]⟩
def tableau_begin.post:Shape:=⟨[(0,tb76)],[(0,tb77),(1,tb22),(2,tb22)]⟩
def tableau_begin.c5 {ρ:Type} (t1:Int) (q:Int) (t2009:List (Int×(Int×(Bool)))) (k_:Unit → Option ρ):Option ρ :=
 bnd (okIf (decide ((0:Int) ≤ q))) fun y =>
 bnd (okIf (decide ((0:Int) ≤ q))) fun y_1 =>
 bnd (okIf (decide ((List.length t2009 + (1:Nat)) * (24:Nat) ≤ (140737488355328:Nat)) && decide (List.length t2009 + (1:Nat) ≤ (140737488355328:Nat)))) fun y_2 =>
 k_ ()
def tableau_begin.c5s:Shape:=⟨[(0,tb5),(1,tb5),(4,tb78),(5,tb79),(6,tb5),(10,tb5),(11,tb5)],[(9,tb80),(2009,tb22),(3009,tb22)]⟩
def tableau_begin.c5x0:Shape:=tableau_begin.c5s
def tableau_begin.c5r:Ck:=Ck.of (T:=Unit) tableau_begin.c5s (fun ρ x_ k_=>tableau_begin.c5 x_.2.1 x_.2.2.2.1 x_.2.2.2.2.2.2.2.1 k_) (fun ρ x_ r_ k_=>k_ 0 (Shape.inj tableau_begin.c5x0 (x_.1,x_.2.1,x_.2.2.1,x_.2.2.2.1,x_.2.2.2.2.1,x_.2.2.2.2.2.1,x_.2.2.2.2.2.2.1,(x_.2.2.2.2.2.2.2.1 ++ [((0:Int),IntKind.wrap IntKind.u64 ((1:Int) * (2:Int) ^ Min.min (Int.toNat x_.2.2.2.1) (64:Nat)),ibits BinOp.and IntKind.i64 (Int.fdiv x_.2.1 ((2:Int) ^ Min.min (Int.toNat x_.2.2.2.1) (64:Nat))) (1:Int) == (1:Int))]),x_.2.2.2.2.2.2.2.2)))
def tableau_begin.c6 {ρ:Type} (q:Int) (t3009:List (Int×(Int×(Bool)))) (k_:Unit → Option ρ):Option ρ :=
 bnd (okIf (decide ((0:Int) ≤ q))) fun y =>
 bnd (okIf (decide ((List.length t3009 + (1:Nat)) * (24:Nat) ≤ (140737488355328:Nat)) && decide (List.length t3009 + (1:Nat) ≤ (140737488355328:Nat)))) fun y_1 =>
 k_ ()
def tableau_begin.c6s:Shape:=tableau_begin.c5s
def tableau_begin.c6x0:Shape:=tableau_begin.c5s
def tableau_begin.c6r:Ck:=Ck.of (T:=Unit) tableau_begin.c6s (fun ρ x_ k_=>tableau_begin.c6 x_.2.2.2.1 x_.2.2.2.2.2.2.2.2.1 k_) (fun ρ x_ r_ k_=>k_ 0 (Shape.inj tableau_begin.c6x0 (x_.1,x_.2.1,x_.2.2.1,x_.2.2.2.1,x_.2.2.2.2.1,x_.2.2.2.2.2.1,x_.2.2.2.2.2.2.1,x_.2.2.2.2.2.2.2.1,(x_.2.2.2.2.2.2.2.2.1 ++ [(IntKind.wrap IntKind.u64 ((1:Int) * (2:Int) ^ Min.min (Int.toNat x_.2.2.2.1) (64:Nat)),(0:Int),false)]),())))
def tableau_begin.c100003 {ρ:Type} (t1:Int) (t10:Int) (t11:Int) (t2009:List (Int×(Int×(Bool)))) (t3009:List (Int×(Int×(Bool)))) (k_:(Int×(List (Int×(Int×(Bool))))×(List (Int×(Int×(Bool))))) ⊕ (Int×(List (Int×(Int×(Bool))))×(List (Int×(Int×(Bool))))) → Option ρ):Option ρ :=
 br (decide (t11 < t10))
 (bnd (W.tableau_begin.c5 t1 t11 t2009 some) fun y =>
 bnd (W.tableau_begin.c6 t11 t3009 some) fun y_1 =>
 k_ (.inl ((IntKind.wrap IntKind.i64 (t11 + (1:Int))),(t2009 ++ [((0:Int),IntKind.wrap IntKind.u64 ((1:Int) * (2:Int) ^ Min.min (Int.toNat t11) (64:Nat)),ibits BinOp.and IntKind.i64 (Int.fdiv t1 ((2:Int) ^ Min.min (Int.toNat t11) (64:Nat))) (1:Int) == (1:Int))]),(t3009 ++ [(IntKind.wrap IntKind.u64 ((1:Int) * (2:Int) ^ Min.min (Int.toNat t11) (64:Nat)),(0:Int),false)]))))
 (k_ (.inr (t11,t2009,t3009)))
def tableau_begin.c100003s:Shape:=⟨[(0,tb5),(1,tb5),(4,tb78),(5,tb79),(10,tb5),(11,tb5)],[(9,tb80),(2009,tb22),(3009,tb22)]⟩
def tableau_begin.c100003x0:Shape:=tableau_begin.c100003s
def tableau_begin.c100003r:Ck:=Ck.ofLoop (S:=Int×(List (Int×(Int×(Bool))))×(List (Int×(Int×(Bool))))) (T:=Int×(List (Int×(Int×(Bool))))×(List (Int×(Int×(Bool))))) tableau_begin.c100003s (fun x_=>(x_.2.2.2.2.1,x_.2.2.2.2.2.2.1,x_.2.2.2.2.2.2.2.1)) (fun ρ x_ s_ k_=>tableau_begin.c100003 x_.2.1 x_.2.2.2.1 s_.1 s_.2.1 s_.2.2 k_) (fun ρ x_ r_ k_=>k_ 2 (Shape.inj tableau_begin.c100003x0 (x_.1,x_.2.1,x_.2.2.1,x_.2.2.2.1,r_.1,x_.2.2.2.2.2.1,r_.2.1,r_.2.2,())))
def tableau_begin (n:Int) (t1:Int):Option (Int×(List (Int×(Int×(Bool))))×(List (Int×(Int×(Bool))))×Unit) :=
 bnd (iter (fun s ↦ W.tableau_begin.c100003 t1 n (Prod.fst s) (Prod.fst (Prod.snd s)) (Prod.snd (Prod.snd s)) some) ((0:Int),[],[])) fun y =>
 some (n,Prod.fst (Prod.snd y),Prod.snd (Prod.snd y),())
def tableau_begin.mc:MCallee:=⟨38,tableau_begin.pre,tableau_begin.post,fun x_=>tableau_begin x_.1 x_.2.1⟩
def tableau_begin.G:Env:=⟨45,tab,[],[0,1,4,5,6,10,11,12],[8,9,2009,3009],[(6,[⟨[],[],[32,33,34,35,36,37,38,39,40],[39,3009]⟩,⟨[],[],[31,36,37,38,39],[39]⟩,⟨[1],[],[31,36,37,38,39],[39]⟩,⟨[2,1],[],[31,36,37,38,39],[39]⟩,⟨[3,2,1],[],[31,36,37,38,39],[39]⟩,⟨[],[],[31,32,33,34,35],[]⟩,⟨[5],[],[31,32,33,34,35],[]⟩,⟨[6,5],[],[31,32,33,34,35],[]⟩,⟨[7,6,5],[39],[31,32,33,34,35],[]⟩,⟨[4,3,2,1,8,7,6,5],[3009],[31],[]⟩,⟨[0,1,2,3,4,5,6,7,8,9],[],[],[]⟩,⟨[10,0,1,2,3,4,5,6,7,8,9],[],[],[]⟩,⟨[11,10,0,1,2,3,4,5,6,7,8,9],[9],[],[]⟩]),
 (5,[⟨[],[],[15,16,17,18,19,20,21,22,23,24,25,26,27,28],[27,2009]⟩,⟨[],[],[14,19,20,21,22,23,24,25,26,27],[27]⟩,⟨[1],[],[14,19,20,21,22,23,24,25,26,27],[27]⟩,⟨[2,1],[],[14,19,20,21,22,23,24,25,26,27],[27]⟩,⟨[3,2,1],[],[14,19,20,21,22,23,24,25,26,27],[27]⟩,⟨[],[],[14,15,16,17,18,21,22,23,24,25],[]⟩,⟨[5],[],[14,15,16,17,18,21,22,23,24,25],[]⟩,⟨[],[],[14,15,16,17,18,19,20,22],[]⟩,⟨[],[],[14,15,16,17,18,19,20,21],[]⟩,⟨[7,8],[],[14,15,16,17,18,19,20],[]⟩,⟨[9,7,8],[],[14,15,16,17,18,19,20],[]⟩,⟨[10,9,7,8],[],[14,15,16,17,18,19,20],[]⟩,⟨[6,5,11,10,9,7,8],[],[14,15,16,17,18],[]⟩,⟨[12,6,5,11,10,9,7,8],[27],[14,15,16,17,18],[]⟩,⟨[4,3,2,1,13,12,6,5,11,10,9,7,8],[2009],[14],[]⟩,⟨[0,1,2,3,4,5,6,7,8,9,10,11,12,13,14],[],[],[]⟩,⟨[15,0,1,2,3,4,5,6,7,8,9,10,11,12,13,14],[],[],[]⟩,⟨[16,15,0,1,2,3,4,5,6,7,8,9,10,11,12,13,14],[9],[],[]⟩])],[(100003,tableau_begin.c100003r),(6,tableau_begin.c6r),(5,tableau_begin.c5r)],[],tab_eqs⟩
theorem tableau_begin.eq (x_:densU tableau_begin.mc.pre.tys):denM tableau_begin.G Try.f38 tableau_begin.mc.pre tableau_begin.mc.post x_ = tableau_begin.mc.F x_:=by kernel_rfl
theorem tableau_begin.p0:PcA tableau_begin.G Try.f38 0 :=
 loop_ok (s:=tableau_begin.c100003r) (by kernel_rfl) (by kernel_rfl) (loops_of (sh:=tableau_begin.c100003s) (I:=fun x_ s_=>(x_.1,x_.2.1,x_.2.2.1,x_.2.2.2.1,s_.1,x_.2.2.2.2.2.1,s_.2.1,s_.2.2,())) (fun x_=>rfl) (fun ρ x_ s_ k_=>(nat_br (nat_bnd fun _=>(nat_bnd fun _=>nat_leaf)) nat_leaf)) (fun ρ x_ t k=>(by kernel_rfl)) (fun x_ s=>by kernel_rfl))
theorem tableau_begin.p1:PcA tableau_begin.G Try.f38 1 :=
 region_ok (s:=tableau_begin.c5r) (by kernel_rfl) (by kernel_rfl) (sums_of (sh:=tableau_begin.c5s) (fun ρ x_ k_=>(nat_bnd fun _=>(nat_bnd fun _=>(nat_bnd fun _=>nat_leaf)))) (fun ρ x_ t k=>(by kernel_rfl)) (fun x_=>by kernel_rfl))
theorem tableau_begin.p2:PcA tableau_begin.G Try.f38 2 :=
 region_ok (s:=tableau_begin.c6r) (by kernel_rfl) (by kernel_rfl) (sums_of (sh:=tableau_begin.c6s) (fun ρ x_ k_=>(nat_bnd fun _=>(nat_bnd fun _=>nat_leaf))) (fun ρ x_ t k=>(by kernel_rfl)) (fun x_=>by kernel_rfl))
theorem tableau_begin.ok:MOk Try.prog 38 tableau_begin.mc:=fnm_ok (G:=tableau_begin.G) tab_ok mixed Try.func38 ⟨fns_nil,mfns_nil,tab_eqs_ok⟩ (m:=3) (by kernel_rfl) ⟨⟨⟨trivial,tableau_begin.p0⟩,tableau_begin.p1⟩,tableau_begin.p2⟩ (by kernel_rfl) tableau_begin.eq
def tableau_holds.c4 {ρ:Type} (bits:List Int) (c:Int) (k_:Bool → Option ρ):Option ρ :=
 br (decide (c > (0:Int)))
 (bnd (idx bits (IntKind.wrap IntKind.i64 (c - (1:Int)))) fun y =>
 br (y == (0:Int))
 (k_ true)
 (br (decide (c < (0:Int)))
 (bnd (idx bits (IntKind.wrap IntKind.i64 (IntKind.wrap IntKind.i64 ((0:Int) - c) - (1:Int)))) fun y_1 =>
 k_ (y_1 == (1:Int)))
 (k_ false)))
 (br (decide (c < (0:Int)))
 (bnd (idx bits (IntKind.wrap IntKind.i64 (IntKind.wrap IntKind.i64 ((0:Int) - c) - (1:Int)))) fun y_2 =>
 k_ (y_2 == (1:Int)))
 (k_ false))
def tableau_holds.c4s:Shape:=⟨[(0,tb25),(1,tb36),(2,tb2),(4,tb7),(6,tb5),(8,tb36),(9,tb5),(10,tb5)],[(2,tb26)]⟩
def tableau_holds.c4x0:Shape:=⟨[(0,tb25),(1,tb36),(2,tb2),(4,tb7),(6,tb5),(8,tb36),(9,tb5),(10,tb5),(36,tb7)],[(2,tb26)]⟩
def tableau_holds.c4r:Ck:=Ck.of (T:=Bool) tableau_holds.c4s (fun ρ x_ k_=>tableau_holds.c4 x_.2.1 x_.2.2.2.1 k_) (fun ρ x_ r_ k_=>k_ 0 (Shape.inj tableau_holds.c4x0 (x_.1,x_.2.1,x_.2.2.1,x_.2.2.2.1,x_.2.2.2.2.1,x_.2.2.2.2.2.1,x_.2.2.2.2.2.2.1,r_,x_.2.2.2.2.2.2.2)))
def tableau_holds.c100002 {ρ:Type} (bits:List Int) (t8:List Int) (t9:Int) (t10:Int) (k_:Int ⊕ (Int ⊕ Int) → Option ρ):Option ρ :=
 br (decide (t10 < t9))
 (bnd (idx t8 t10) fun y =>
 bnd (W.tableau_holds.c4 bits y some) fun y_1 =>
 br y_1
 (k_ (.inr (.inl t10)))
 (k_ (.inl (IntKind.wrap IntKind.i64 (t10 + (1:Int))))))
 (k_ (.inr (.inr t10)))
def tableau_holds.c100002s:Shape:=⟨[(0,tb25),(1,tb36),(2,tb2),(4,tb7),(8,tb36),(9,tb5),(10,tb5)],[(2,tb26)]⟩
def tableau_holds.c100002x0:Shape:=tableau_holds.c100002s
def tableau_holds.c100002x1:Shape:=tableau_holds.c100002s
def tableau_holds.c100002r:Ck:=Ck.ofLoop (S:=Int) (T:=Int ⊕ Int) tableau_holds.c100002s (fun x_=>x_.2.2.2.2.2.1) (fun ρ x_ s_ k_=>tableau_holds.c100002 x_.2.1 x_.2.2.2.1 x_.2.2.2.2.1 s_ k_) (fun ρ x_ r_ k_=>sel r_ (fun r_=>k_ 1 (Shape.inj tableau_holds.c100002x0 (x_.1,x_.2.1,false,x_.2.2.2.1,x_.2.2.2.2.1,r_,x_.2.2.2.2.2.2))) (fun r_=>k_ 2 (Shape.inj tableau_holds.c100002x1 (x_.1,x_.2.1,x_.2.2.1,x_.2.2.2.1,x_.2.2.2.2.1,r_,x_.2.2.2.2.2.2))))
def tableau_holds (o:Int×(Int×((List Int)×(Int×(Int×(List Int)))))) (bits:List Int):Option (Bool) :=
 bnd (iter (fun s ↦ W.tableau_holds.c100002 bits (Prod.snd (Prod.snd (Prod.snd (Prod.snd (Prod.snd o))))) (↑(List.length (Prod.snd (Prod.snd (Prod.snd (Prod.snd (Prod.snd o)))))):Int) s some) (0:Int)) fun y =>
 sel y
 (fun u=>some false)
 (fun v=>some true)
def tableau_holds.ce:Go.Ql.Callee:=⟨[(.st (.pair (.int .i64) (.pair (.int .i64) (.pair (.sl (.int .i64)) (.pair (.int .i64) (.pair (.int .i64) (.sl (.int .i64)))))))),(.sl (.int .i64))],[.bool],fun x_=>tableau_holds x_.1 x_.2⟩
def tableau_holds.G:Env:=⟨38,tab,[],[0,1,2,4,6,8,9,10,11,36],[],[],[(100002,tableau_holds.c100002r),(4,tableau_holds.c4r)],[],tab_eqs⟩
theorem tableau_holds.eq (x_:dens tableau_holds.ce.params):den tableau_holds.G Try.f39 tableau_holds.ce.params tableau_holds.ce.res x_ = tableau_holds.ce.F x_:=by kernel_rfl
theorem tableau_holds.p0:PcA tableau_holds.G Try.f39 0 :=
 loop_ok (s:=tableau_holds.c100002r) (by kernel_rfl) (by kernel_rfl) (loops_of (sh:=tableau_holds.c100002s) (I:=fun x_ s_=>(x_.1,x_.2.1,x_.2.2.1,x_.2.2.2.1,x_.2.2.2.2.1,s_,x_.2.2.2.2.2.2)) (fun x_=>rfl) (fun ρ x_ s_ k_=>(nat_br (nat_bnd fun _=>(nat_bnd fun _=>(nat_br nat_leaf nat_leaf))) nat_leaf)) (fun ρ x_ t k=>(nat_sel (fun _=>(by kernel_rfl)) (fun _=>(by kernel_rfl)))) (fun x_ s=>by kernel_rfl))
theorem tableau_holds.p1:PcA tableau_holds.G Try.f39 1 :=
 region_ok (s:=tableau_holds.c4r) (by kernel_rfl) (by kernel_rfl) (sums_of (sh:=tableau_holds.c4s) (fun ρ x_ k_=>(nat_br (nat_bnd fun _=>(nat_br nat_leaf (nat_br (nat_bnd fun _=>nat_leaf) nat_leaf))) (nat_br (nat_bnd fun _=>nat_leaf) nat_leaf))) (fun ρ x_ t k=>(by kernel_rfl)) (fun x_=>by kernel_rfl))
theorem tableau_holds.ok:CalleeOk Try.prog 39 tableau_holds.ce:=fn_ok (G:=tableau_holds.G) tab_ok mixed Try.func39 ⟨fns_nil,mfns_nil,tab_eqs_ok⟩ (m:=2) (by kernel_rfl) ⟨⟨trivial,tableau_holds.p0⟩,tableau_holds.p1⟩ (by kernel_rfl) tableau_holds.eq
abbrev tb81:SO:=.box [.val (.int .i64),.own 1000701 0,.own 1000702 0]
def tableau_table_gate.pre:Shape:=⟨[(0,tb28),(1,tb25)],[(1000700,tb81),(1000701,tb22),(1000702,tb22)]⟩
def tableau_table_gate.post:Shape:=⟨[],[(1000701,tb22),(1000702,tb22),(1000700,tb81)]⟩
def tableau_table_gate.c4 {ρ:Type} (i:Int) (o0:Int) (o1:Int) (o2:List Int) (o3:Int) (o4:Int) (o5:List Int) (t1000701:List (Int×(Int×(Bool)))) (k_:List (Int×(Int×(Bool))) → Option ρ):Option ρ :=
 bnd (inR (List.length t1000701) i) fun y =>
 bnd (idx t1000701 i) fun y_1 =>
 bnd (W.tableau_pauli_gate (y_1,(o0,o1,o2,o3,o4,o5),())) fun y_2 =>
 bnd (inR (List.length t1000701) i) fun y_3 =>
 bnd (idx t1000701 i) fun y_4 =>
 k_ (List.set t1000701 (Int.toNat i) (Prod.fst y_2))
def tableau_table_gate.c4s:Shape:=⟨[(0,tb28),(1,tb25),(3,tb12),(4,tb5),(8,tb5),(9,tb5)],[(3,tb26),(1000700,tb81),(1000701,tb22),(1000702,tb22)]⟩
def tableau_table_gate.c4x0:Shape:=tableau_table_gate.c4s
def tableau_table_gate.c4r:Ck:=Ck.of (T:=List (Int×(Int×(Bool)))) tableau_table_gate.c4s (fun ρ x_ k_=>tableau_table_gate.c4 x_.2.1 x_.2.2.2.2.1 x_.2.2.2.2.2.1 x_.2.2.2.2.2.2.1 x_.2.2.2.2.2.2.2.1 x_.2.2.2.2.2.2.2.2.1 x_.2.2.2.2.2.2.2.2.2.1 x_.2.2.2.2.2.2.2.2.2.2.2.1 k_) (fun ρ x_ r_ k_=>k_ 0 (Shape.inj tableau_table_gate.c4x0 (x_.1,x_.2.1,x_.2.2.1,x_.2.2.2.1,x_.2.2.2.2.1,x_.2.2.2.2.2.1,x_.2.2.2.2.2.2.1,x_.2.2.2.2.2.2.2.1,x_.2.2.2.2.2.2.2.2.1,x_.2.2.2.2.2.2.2.2.2.1,x_.2.2.2.2.2.2.2.2.2.2.1,r_,x_.2.2.2.2.2.2.2.2.2.2.2.2)))
def tableau_table_gate.c5 {ρ:Type} (i:Int) (o0:Int) (o1:Int) (o2:List Int) (o3:Int) (o4:Int) (o5:List Int) (t1000702:List (Int×(Int×(Bool)))) (k_:List (Int×(Int×(Bool))) → Option ρ):Option ρ :=
 bnd (inR (List.length t1000702) i) fun y =>
 bnd (idx t1000702 i) fun y_1 =>
 bnd (W.tableau_pauli_gate (y_1,(o0,o1,o2,o3,o4,o5),())) fun y_2 =>
 bnd (inR (List.length t1000702) i) fun y_3 =>
 bnd (idx t1000702 i) fun y_4 =>
 k_ (List.set t1000702 (Int.toNat i) (Prod.fst y_2))
def tableau_table_gate.c5s:Shape:=tableau_table_gate.c4s
def tableau_table_gate.c5x0:Shape:=tableau_table_gate.c4s
def tableau_table_gate.c5r:Ck:=Ck.of (T:=List (Int×(Int×(Bool)))) tableau_table_gate.c5s (fun ρ x_ k_=>tableau_table_gate.c5 x_.2.1 x_.2.2.2.2.1 x_.2.2.2.2.2.1 x_.2.2.2.2.2.2.1 x_.2.2.2.2.2.2.2.1 x_.2.2.2.2.2.2.2.2.1 x_.2.2.2.2.2.2.2.2.2.1 x_.2.2.2.2.2.2.2.2.2.2.2.2.1 k_) (fun ρ x_ r_ k_=>k_ 0 (Shape.inj tableau_table_gate.c5x0 (x_.1,x_.2.1,x_.2.2.1,x_.2.2.2.1,x_.2.2.2.2.1,x_.2.2.2.2.2.1,x_.2.2.2.2.2.2.1,x_.2.2.2.2.2.2.2.1,x_.2.2.2.2.2.2.2.2.1,x_.2.2.2.2.2.2.2.2.2.1,x_.2.2.2.2.2.2.2.2.2.2.1,x_.2.2.2.2.2.2.2.2.2.2.2.1,r_,())))
def tableau_table_gate.c100002 {ρ:Type} (t8:Int) (t9:Int) (o0:Int) (o1:Int) (o2:List Int) (o3:Int) (o4:Int) (o5:List Int) (t1000701:List (Int×(Int×(Bool)))) (t1000702:List (Int×(Int×(Bool)))) (k_:(Int×(List (Int×(Int×(Bool))))×(List (Int×(Int×(Bool))))) ⊕ (Int×(List (Int×(Int×(Bool))))×(List (Int×(Int×(Bool))))) → Option ρ):Option ρ :=
 br (decide (t9 < t8))
 (bnd (W.tableau_table_gate.c4 t9 o0 o1 o2 o3 o4 o5 t1000701 some) fun y =>
 bnd (W.tableau_table_gate.c5 t9 o0 o1 o2 o3 o4 o5 t1000702 some) fun y_1 =>
 k_ (.inl ((IntKind.wrap IntKind.i64 (t9 + (1:Int))),y,y_1)))
 (k_ (.inr (t9,t1000701,t1000702)))
def tableau_table_gate.c100002s:Shape:=⟨[(0,tb28),(1,tb25),(3,tb12),(8,tb5),(9,tb5)],[(3,tb26),(1000700,tb81),(1000701,tb22),(1000702,tb22)]⟩
def tableau_table_gate.c100002x0:Shape:=tableau_table_gate.c100002s
def tableau_table_gate.c100002r:Ck:=Ck.ofLoop (S:=Int×(List (Int×(Int×(Bool))))×(List (Int×(Int×(Bool))))) (T:=Int×(List (Int×(Int×(Bool))))×(List (Int×(Int×(Bool))))) tableau_table_gate.c100002s (fun x_=>(x_.2.2.1,x_.2.2.2.2.2.2.2.2.2.2.1,x_.2.2.2.2.2.2.2.2.2.2.2.1)) (fun ρ x_ s_ k_=>tableau_table_gate.c100002 x_.2.1 s_.1 x_.2.2.2.1 x_.2.2.2.2.1 x_.2.2.2.2.2.1 x_.2.2.2.2.2.2.1 x_.2.2.2.2.2.2.2.1 x_.2.2.2.2.2.2.2.2.1 s_.2.1 s_.2.2 k_) (fun ρ x_ r_ k_=>k_ 2 (Shape.inj tableau_table_gate.c100002x0 (x_.1,x_.2.1,r_.1,x_.2.2.2.1,x_.2.2.2.2.1,x_.2.2.2.2.2.1,x_.2.2.2.2.2.2.1,x_.2.2.2.2.2.2.2.1,x_.2.2.2.2.2.2.2.2.1,x_.2.2.2.2.2.2.2.2.2.1,r_.2.1,r_.2.2,())))
def tableau_table_gate (o:Int×(Int×((List Int)×(Int×(Int×(List Int)))))) (t10007000:Int) (t1000701:List (Int×(Int×(Bool)))) (t1000702:List (Int×(Int×(Bool)))):Option ((List (Int×(Int×(Bool))))×(List (Int×(Int×(Bool))))×Int×Unit) :=
 bnd (iter (fun s ↦ W.tableau_table_gate.c100002 t10007000 (Prod.fst s) (Prod.fst o) (Prod.fst (Prod.snd o)) (Prod.fst (Prod.snd (Prod.snd o))) (Prod.fst (Prod.snd (Prod.snd (Prod.snd o)))) (Prod.fst (Prod.snd (Prod.snd (Prod.snd (Prod.snd o))))) (Prod.snd (Prod.snd (Prod.snd (Prod.snd (Prod.snd o))))) (Prod.fst (Prod.snd s)) (Prod.snd (Prod.snd s)) some) ((0:Int),t1000701,t1000702)) fun y =>
 some (Prod.fst (Prod.snd y),Prod.snd (Prod.snd y),t10007000,())
def tableau_table_gate.mc:MCallee:=⟨40,tableau_table_gate.pre,tableau_table_gate.post,fun x_=>tableau_table_gate x_.1 x_.2.1 x_.2.2.1 x_.2.2.2.1⟩
def tableau_table_gate.G:Env:=⟨43,tab,[],[0,1,3,4,8,9,10],[1000700,1000701,1000702],[(5,[⟨[],[],[31,32,33,34,35,36,37,38,39,40],[]⟩,⟨[0],[],[31,32,33,34,35,36,37,38,39,40],[]⟩,⟨[1,0],[],[31,32,33,34,35,36,37,38,39,40],[]⟩,⟨[2,1,0],[],[31,32,33,34,35,36,37,38,39,40],[]⟩,⟨[],[],[27,28,29,30,32,33,34,35,36,37,38,39,40],[]⟩,⟨[],[],[27,28,29,30,31,36,39],[]⟩,⟨[5],[],[27,28,29,30,31,36,39],[]⟩,⟨[6,5],[],[27,28,29,30,31,36,39],[]⟩,⟨[7,6,5],[],[27,28,29,30,31,36,39],[]⟩,⟨[],[],[27,28,29,30,31,32,33,34,35,39],[]⟩,⟨[8,7,6,5,9],[],[27,28,29,30,31,39],[]⟩,⟨[10,8,7,6,5,9],[],[27,28,29,30,31,39],[]⟩,⟨[],[],[27,28,29,30,31,32,33,34,35,36,37,38],[]⟩,⟨[11,10,8,7,6,5,9,12],[],[27,28,29,30,31],[]⟩,⟨[3,2,1,0,4,5,6,7,8,9,10,11,12,13],[],[],[]⟩,⟨[14,3,2,1,0,4,5,6,7,8,9,10,11,12,13],[1000702],[],[]⟩]),
 (4,[⟨[],[],[16,17,18,19,20,21,22,23,24,25],[]⟩,⟨[0],[],[16,17,18,19,20,21,22,23,24,25],[]⟩,⟨[1,0],[],[16,17,18,19,20,21,22,23,24,25],[]⟩,⟨[2,1,0],[],[16,17,18,19,20,21,22,23,24,25],[]⟩,⟨[],[],[12,13,14,15,17,18,19,20,21,22,23,24,25],[]⟩,⟨[],[],[12,13,14,15,16,21,24],[]⟩,⟨[5],[],[12,13,14,15,16,21,24],[]⟩,⟨[6,5],[],[12,13,14,15,16,21,24],[]⟩,⟨[7,6,5],[],[12,13,14,15,16,21,24],[]⟩,⟨[],[],[12,13,14,15,16,17,18,19,20,24],[]⟩,⟨[8,7,6,5,9],[],[12,13,14,15,16,24],[]⟩,⟨[10,8,7,6,5,9],[],[12,13,14,15,16,24],[]⟩,⟨[],[],[12,13,14,15,16,17,18,19,20,21,22,23],[]⟩,⟨[11,10,8,7,6,5,9,12],[],[12,13,14,15,16],[]⟩,⟨[3,2,1,0,4,5,6,7,8,9,10,11,12,13],[],[],[]⟩,⟨[14,3,2,1,0,4,5,6,7,8,9,10,11,12,13],[1000701],[],[]⟩])],[(100002,tableau_table_gate.c100002r),(5,tableau_table_gate.c5r),(4,tableau_table_gate.c4r)],[(57,tableau_pauli_gate.mc)],tab_eqs⟩
theorem tableau_table_gate.eq (x_:densU tableau_table_gate.mc.pre.tys):denM tableau_table_gate.G Try.f40 tableau_table_gate.mc.pre tableau_table_gate.mc.post x_ = tableau_table_gate.mc.F x_:=by kernel_rfl
theorem tableau_table_gate.p0:PcA tableau_table_gate.G Try.f40 0 :=
 loop_ok (s:=tableau_table_gate.c100002r) (by kernel_rfl) (by kernel_rfl) (loops_of (sh:=tableau_table_gate.c100002s) (I:=fun x_ s_=>(x_.1,x_.2.1,s_.1,x_.2.2.2.1,x_.2.2.2.2.1,x_.2.2.2.2.2.1,x_.2.2.2.2.2.2.1,x_.2.2.2.2.2.2.2.1,x_.2.2.2.2.2.2.2.2.1,x_.2.2.2.2.2.2.2.2.2.1,s_.2.1,s_.2.2,())) (fun x_=>rfl) (fun ρ x_ s_ k_=>(nat_br (nat_bnd fun _=>(nat_bnd fun _=>nat_leaf)) nat_leaf)) (fun ρ x_ t k=>(by kernel_rfl)) (fun x_ s=>by kernel_rfl))
theorem tableau_table_gate.p1:PcA tableau_table_gate.G Try.f40 1 :=
 region_ok (s:=tableau_table_gate.c4r) (by kernel_rfl) (by kernel_rfl) (sums_of (sh:=tableau_table_gate.c4s) (fun ρ x_ k_=>(nat_bnd fun _=>(nat_bnd fun _=>(nat_bnd fun _=>(nat_bnd fun _=>(nat_bnd fun _=>nat_leaf)))))) (fun ρ x_ t k=>(by kernel_rfl)) (fun x_=>by kernel_rfl))
theorem tableau_table_gate.p2:PcA tableau_table_gate.G Try.f40 2 :=
 region_ok (s:=tableau_table_gate.c5r) (by kernel_rfl) (by kernel_rfl) (sums_of (sh:=tableau_table_gate.c5s) (fun ρ x_ k_=>(nat_bnd fun _=>(nat_bnd fun _=>(nat_bnd fun _=>(nat_bnd fun _=>(nat_bnd fun _=>nat_leaf)))))) (fun ρ x_ t k=>(by kernel_rfl)) (fun x_=>by kernel_rfl))
theorem tableau_table_gate.ok:MOk Try.prog 40 tableau_table_gate.mc:=fnm_ok (G:=tableau_table_gate.G) tab_ok mixed Try.func40 ⟨fns_nil,(mfns_cons tableau_pauli_gate.ok mfns_nil),tab_eqs_ok⟩ (m:=3) (by kernel_rfl) ⟨⟨⟨trivial,tableau_table_gate.p0⟩,tableau_table_gate.p1⟩,tableau_table_gate.p2⟩ (by kernel_rfl) tableau_table_gate.eq
def tableau_table_measure_1.pre:Shape:=⟨[(0,tb11),(1,tb51)],[(1000200,tb9)]⟩
def tableau_table_measure_1.post:Shape:=⟨[(0,tb7)],[(1000200,tb9)]⟩
def tableau_table_measure_1 (p:Int×(Int×(Bool))) (t10002000:Int) (t10002001:Int) (t10002002:Bool):Option ((Bool)×Int×Int×(Bool)×Unit) :=
 bnd (W.tableau_pauli_meets (Prod.fst p,Prod.fst (Prod.snd p),Prod.snd (Prod.snd p)) (t10002000,t10002001,t10002002)) fun y =>
 some (y,t10002000,t10002001,t10002002,())
def tableau_table_measure_1.mc:MCallee:=⟨84,tableau_table_measure_1.pre,tableau_table_measure_1.post,fun x_=>tableau_table_measure_1 x_.1 x_.2.1 x_.2.2.1 x_.2.2.2.1⟩
def tableau_table_measure_1.G:Env:=⟨7,tab,[(85,tableau_pauli_meets.ce)],[0,1,2,3],[1000200],[],[],[],tab_eqs⟩
theorem tableau_table_measure_1.eq (x_:densU tableau_table_measure_1.mc.pre.tys):denM tableau_table_measure_1.G Try.f84 tableau_table_measure_1.mc.pre tableau_table_measure_1.mc.post x_ = tableau_table_measure_1.mc.F x_:=by kernel_rfl
theorem tableau_table_measure_1.ok:MOk Try.prog 84 tableau_table_measure_1.mc:=fnm_ok (G:=tableau_table_measure_1.G) tab_ok mixed Try.func84 ⟨(fns_cons tableau_pauli_meets.ok fns_nil),mfns_nil,tab_eqs_ok⟩ (m:=0) (by kernel_rfl) trivial (by kernel_rfl) tableau_table_measure_1.eq
abbrev tb82:SD:=.one (.win 2000000 0)
abbrev tb83:SO:=.clo 84 [] [.ref 1000200 0]
def slices_IndexFunc_tableau_pauli__meas.pre:Shape:=⟨[(0,tb82),(1,tb69)],[(1000140,tb83),(1000200,tb9),(2000000,tb22)]⟩
def slices_IndexFunc_tableau_pauli__meas.post:Shape:=⟨[(0,tb5)],[(1000140,tb83),(1000200,tb9),(2000000,tb22)]⟩
def slices_IndexFunc_tableau_pauli__meas.c100002 {ρ:Type} (slo:Int) (sn:Int) (t7:Int) (t8:Int) (t10002000:Int) (t10002001:Int) (t10002002:Bool) (t2000000:List (Int×(Int×(Bool)))) (k_:(Int×Int×Int×(Bool)) ⊕ ((Int×Int×Int×Int×(Bool)) ⊕ (Int×Int×Int×(Bool))) → Option ρ):Option ρ :=
 br (decide (t8 < t7))
 (bnd (okIf (decide ((0:Ty.den (Ty.int IntKind.i64)) ≤ t8) && decide (t8 < sn))) fun y =>
 bnd (idx t2000000 (slo + t8)) fun y_1 =>
 bnd (W.tableau_table_measure_1 y_1 t10002000 t10002001 t10002002) fun y_2 =>
 br (Prod.fst y_2)
 (k_ (.inr (.inl (t8,t8,(Prod.fst y_2.2),(Prod.fst y_2.2.2),(Prod.fst y_2.2.2.2)))))
 (k_ (.inl ((IntKind.wrap IntKind.i64 (t8 + (1:Int))),(Prod.fst y_2.2),(Prod.fst y_2.2.2),(Prod.fst y_2.2.2.2)))))
 (k_ (.inr (.inr (t8,t10002000,t10002001,t10002002))))
def slices_IndexFunc_tableau_pauli__meas.c100002s:Shape:=⟨[(0,tb82),(1,tb69),(4,tb5),(7,tb5),(8,tb5)],[(1000140,tb83),(1000200,tb9),(2000000,tb22)]⟩
def slices_IndexFunc_tableau_pauli__meas.c100002x0:Shape:=slices_IndexFunc_tableau_pauli__meas.c100002s
def slices_IndexFunc_tableau_pauli__meas.c100002x1:Shape:=slices_IndexFunc_tableau_pauli__meas.c100002s
def slices_IndexFunc_tableau_pauli__meas.c100002r:Ck:=Ck.ofLoop (S:=Int×Int×Int×(Bool)) (T:=(Int×Int×Int×Int×(Bool)) ⊕ (Int×Int×Int×(Bool))) slices_IndexFunc_tableau_pauli__meas.c100002s (fun x_=>(x_.2.2.2.2.1,x_.2.2.2.2.2.1,x_.2.2.2.2.2.2.1,x_.2.2.2.2.2.2.2.1)) (fun ρ x_ s_ k_=>slices_IndexFunc_tableau_pauli__meas.c100002 x_.1 x_.2.1 x_.2.2.2.1 s_.1 s_.2.1 s_.2.2.1 s_.2.2.2 x_.2.2.2.2.2.2.2.2.1 k_) (fun ρ x_ r_ k_=>sel r_ (fun r_=>k_ 1 (Shape.inj slices_IndexFunc_tableau_pauli__meas.c100002x0 (x_.1,x_.2.1,r_.1,x_.2.2.2.1,r_.2.1,r_.2.2.1,r_.2.2.2.1,r_.2.2.2.2,x_.2.2.2.2.2.2.2.2))) (fun r_=>k_ 2 (Shape.inj slices_IndexFunc_tableau_pauli__meas.c100002x1 (x_.1,x_.2.1,x_.2.2.1,x_.2.2.2.1,r_.1,r_.2.1,r_.2.2.1,r_.2.2.2,x_.2.2.2.2.2.2.2.2))))
def slices_IndexFunc_tableau_pauli__meas (slo:Int) (sn:Int) (t10002000:Int) (t10002001:Int) (t10002002:Bool) (t2000000:List (Int×(Int×(Bool)))):Option (Int×Int×Int×(Bool)×(List (Int×(Int×(Bool))))×Unit) :=
 bnd (iter (fun s ↦ W.slices_IndexFunc_tableau_pauli__meas.c100002 slo sn (↑(List.length (part slo sn t2000000)):Int) (Prod.fst s) (Prod.fst (Prod.snd s)) (Prod.fst (Prod.snd (Prod.snd s))) (Prod.snd (Prod.snd (Prod.snd s))) t2000000 some) ((0:Int),t10002000,t10002001,t10002002)) fun y =>
 sel y
 (fun u=>some (Prod.fst u,Prod.fst (Prod.snd (Prod.snd u)),Prod.fst (Prod.snd (Prod.snd (Prod.snd u))),Prod.snd (Prod.snd (Prod.snd (Prod.snd u))),t2000000,()))
 (fun v=>some ((-1:Int),Prod.fst (Prod.snd v),Prod.fst (Prod.snd (Prod.snd v)),Prod.snd (Prod.snd (Prod.snd v)),t2000000,()))
def slices_IndexFunc_tableau_pauli__meas.mc:MCallee:=⟨83,slices_IndexFunc_tableau_pauli__meas.pre,slices_IndexFunc_tableau_pauli__meas.post,fun x_=>slices_IndexFunc_tableau_pauli__meas x_.1 x_.2.1 x_.2.2.1 x_.2.2.2.1 x_.2.2.2.2.1 x_.2.2.2.2.2.1⟩
def slices_IndexFunc_tableau_pauli__meas.G:Env:=⟨19,tab,[],[0,1,4,5,7,8,9,16],[1000140,1000200,2000000],[],[(100002,slices_IndexFunc_tableau_pauli__meas.c100002r)],[(84,tableau_table_measure_1.mc)],tab_eqs⟩
theorem slices_IndexFunc_tableau_pauli__meas.eq (x_:densU slices_IndexFunc_tableau_pauli__meas.mc.pre.tys):denM slices_IndexFunc_tableau_pauli__meas.G Try.f83 slices_IndexFunc_tableau_pauli__meas.mc.pre slices_IndexFunc_tableau_pauli__meas.mc.post x_ = slices_IndexFunc_tableau_pauli__meas.mc.F x_:=by kernel_rfl
theorem slices_IndexFunc_tableau_pauli__meas.p0:PcA slices_IndexFunc_tableau_pauli__meas.G Try.f83 0 :=
 loop_ok (s:=slices_IndexFunc_tableau_pauli__meas.c100002r) (by kernel_rfl) (by kernel_rfl) (loops_of (sh:=slices_IndexFunc_tableau_pauli__meas.c100002s) (I:=fun x_ s_=>(x_.1,x_.2.1,x_.2.2.1,x_.2.2.2.1,s_.1,s_.2.1,s_.2.2.1,s_.2.2.2,x_.2.2.2.2.2.2.2.2)) (fun x_=>rfl) (fun ρ x_ s_ k_=>(nat_br (nat_bnd fun _=>(nat_bnd fun _=>(nat_bnd fun _=>(nat_br nat_leaf nat_leaf)))) nat_leaf)) (fun ρ x_ t k=>(nat_sel (fun _=>(by kernel_rfl)) (fun _=>(by kernel_rfl)))) (fun x_ s=>by kernel_rfl))
theorem slices_IndexFunc_tableau_pauli__meas.ok:MOk Try.prog 83 slices_IndexFunc_tableau_pauli__meas.mc:=fnm_ok (G:=slices_IndexFunc_tableau_pauli__meas.G) tab_ok mixed Try.func83 ⟨fns_nil,(mfns_cons tableau_table_measure_1.ok mfns_nil),tab_eqs_ok⟩ (m:=1) (by kernel_rfl) ⟨trivial,slices_IndexFunc_tableau_pauli__meas.p0⟩ (by kernel_rfl) slices_IndexFunc_tableau_pauli__meas.eq
def tableau_pauli_times.c1 {ρ:Type} (p0:Int) (p1:Int) (o0:Int) (o1:Int) (k_:Int → Option ρ):Option ρ :=
 bnd (W.bits_OnesCount (ibits BinOp.and IntKind.u64 p0 p1)) fun y =>
 bnd (W.bits_OnesCount (ibits BinOp.and IntKind.u64 o0 o1)) fun y_1 =>
 bnd (W.bits_OnesCount (ibits BinOp.and IntKind.u64 p1 o0)) fun y_2 =>
 k_ (IntKind.wrap IntKind.i64 (IntKind.wrap IntKind.i64 (y + y_1) + IntKind.wrap IntKind.i64 ((2:Int) * y_2)))
def tableau_pauli_times.c1s:Shape:=⟨[(0,tb11),(1,tb11),(2,tb2),(3,tb12),(4,tb6)],[(2,tb9),(3,tb9),(4,tb9)]⟩
def tableau_pauli_times.c1x0:Shape:=⟨[(0,tb11),(1,tb11),(2,tb2),(3,tb12),(4,tb6),(5,tb5)],[(2,tb9),(3,tb9),(4,tb9)]⟩
def tableau_pauli_times.c1r:Ck:=Ck.of (T:=Int) tableau_pauli_times.c1s (fun ρ x_ k_=>tableau_pauli_times.c1 x_.2.2.1 x_.2.2.2.1 x_.2.2.2.2.2.1 x_.2.2.2.2.2.2.1 k_) (fun ρ x_ r_ k_=>k_ 0 (Shape.inj tableau_pauli_times.c1x0 (x_.1,x_.2.1,r_,x_.2.2)))
def tableau_pauli_times (p:Int×(Int×(Bool))) (o:Int×(Int×(Bool))):Option (Int×(Int×(Bool))) :=
 bnd (W.tableau_pauli_times.c1 (Prod.fst p) (Prod.fst (Prod.snd p)) (Prod.fst o) (Prod.fst (Prod.snd o)) some) fun y =>
 bnd (W.bits_OnesCount (ibits BinOp.and IntKind.u64 (ibits BinOp.xor IntKind.u64 (Prod.fst p) (Prod.fst o)) (ibits BinOp.xor IntKind.u64 (Prod.fst (Prod.snd p)) (Prod.fst (Prod.snd o))))) fun y_1 =>
 some (ibits BinOp.xor IntKind.u64 (Prod.fst p) (Prod.fst o),ibits BinOp.xor IntKind.u64 (Prod.fst (Prod.snd p)) (Prod.fst (Prod.snd o)),!(!Prod.snd (Prod.snd p) == Prod.snd (Prod.snd o)) == (ibits BinOp.and IntKind.i64 (IntKind.wrap IntKind.i64 (y - y_1)) (3:Int) == (2:Int)))
def tableau_pauli_times.ce:Go.Ql.Callee:=⟨[(.st (.pair (.int .u64) (.pair (.int .u64) .bool))),(.st (.pair (.int .u64) (.pair (.int .u64) .bool)))],[(.st (.pair (.int .u64) (.pair (.int .u64) .bool)))],fun x_=>tableau_pauli_times x_.1 x_.2⟩
def tableau_pauli_times.G:Env:=⟨58,tab,[(118,bits_OnesCount.ce)],[0,1,2,3,4,5,6],[],[(1,[⟨[],[],[9,10,13,14,15,16,17,20,21,22,23,24],[]⟩,⟨[0],[],[9,10,13,14,15,16,17,20,21,22,23,24],[]⟩,⟨[],[],[7,8,13,14,15,16,17,20,21,22,23,24],[]⟩,⟨[2],[],[7,8,13,14,15,16,17,20,21,22,23,24],[]⟩,⟨[1,0,3,2],[],[13,14,15,16,17,20,21,22,23,24],[]⟩,⟨[4,1,0,3,2],[],[13,14,15,16,17,20,21,22,23,24],[]⟩,⟨[],[],[7,8,9,10,11,12,15,16,20,21,22,23,24],[]⟩,⟨[6],[],[7,8,9,10,11,12,15,16,20,21,22,23,24],[]⟩,⟨[],[],[7,8,9,10,11,12,13,14,20,21,22,23,24],[]⟩,⟨[8],[],[7,8,9,10,11,12,13,14,20,21,22,23,24],[]⟩,⟨[7,6,9,8],[],[7,8,9,10,11,12,20,21,22,23,24],[]⟩,⟨[10,7,6,9,8,5,4,1,0,3,2],[],[20,21,22,23,24],[]⟩,⟨[5,4,1,0,3,2,11,10,7,6,9,8],[],[20,21,22,23,24,25,26],[]⟩,⟨[],[],[7,8,9,10,11,12,13,14,15,16,17,18,19,22,23],[]⟩,⟨[13],[],[7,8,9,10,11,12,13,14,15,16,17,18,19,22,23],[]⟩,⟨[],[],[7,8,9,10,11,12,13,14,15,16,17,18,19,20,21],[]⟩,⟨[15],[],[7,8,9,10,11,12,13,14,15,16,17,18,19,20,21],[]⟩,⟨[14,13,16,15],[],[7,8,9,10,11,12,13,14,15,16,17,18,19],[]⟩,⟨[17,14,13,16,15,11,10,7,6,9,8,5,4,1,0,3,2],[],[19],[]⟩,⟨[18,17,14,13,16,15,11,10,7,6,9,8,5,4,1,0,3,2],[],[19],[]⟩,⟨[12,5,4,1,0,3,2,11,10,7,6,9,8,19,18,17,14,13,16,15],[],[],[]⟩,⟨[20,12,5,4,1,0,3,2,11,10,7,6,9,8,19,18,17,14,13,16,15],[],[],[]⟩])],[(1,tableau_pauli_times.c1r)],[],tab_eqs⟩
theorem tableau_pauli_times.eq (x_:dens tableau_pauli_times.ce.params):den tableau_pauli_times.G Try.f86 tableau_pauli_times.ce.params tableau_pauli_times.ce.res x_ = tableau_pauli_times.ce.F x_:=by kernel_rfl
theorem tableau_pauli_times.p0:PcA tableau_pauli_times.G Try.f86 0 :=
 region_ok (s:=tableau_pauli_times.c1r) (by kernel_rfl) (by kernel_rfl) (sums_of (sh:=tableau_pauli_times.c1s) (fun ρ x_ k_=>(nat_bnd fun _=>(nat_bnd fun _=>(nat_bnd fun _=>nat_leaf)))) (fun ρ x_ t k=>(by kernel_rfl)) (fun x_=>by kernel_rfl))
theorem tableau_pauli_times.ok:CalleeOk Try.prog 86 tableau_pauli_times.ce:=fn_ok (G:=tableau_pauli_times.G) tab_ok mixed Try.func86 ⟨(fns_cons bits_OnesCount.ok fns_nil),mfns_nil,tab_eqs_ok⟩ (m:=1) (by kernel_rfl) ⟨trivial,tableau_pauli_times.p0⟩ (by kernel_rfl) tableau_pauli_times.eq
def tableau_mixed (a:Int×(Int×(Bool))) (b:Int×(Int×(Bool))):Option (Int×(Int×(Bool))) :=
 some (ibits BinOp.xor IntKind.u64 (Prod.fst a) (Prod.fst b),ibits BinOp.xor IntKind.u64 (Prod.fst (Prod.snd a)) (Prod.fst (Prod.snd b)),false)
def tableau_mixed.ce:Go.Ql.Callee:=⟨[(.st (.pair (.int .u64) (.pair (.int .u64) .bool))),(.st (.pair (.int .u64) (.pair (.int .u64) .bool)))],[(.st (.pair (.int .u64) (.pair (.int .u64) .bool)))],fun x_=>tableau_mixed x_.1 x_.2⟩
def tableau_mixed.G:Env:=⟨16,tab,[],[0,1,2,3,4],[],[],[],[],tab_eqs⟩
theorem tableau_mixed.eq (x_:dens tableau_mixed.ce.params):den tableau_mixed.G Try.f87 tableau_mixed.ce.params tableau_mixed.ce.res x_ = tableau_mixed.ce.F x_:=by kernel_rfl
theorem tableau_mixed.ok:CalleeOk Try.prog 87 tableau_mixed.ce:=fn_ok (G:=tableau_mixed.G) tab_ok mixed Try.func87 ⟨fns_nil,mfns_nil,tab_eqs_ok⟩ (m:=0) (by kernel_rfl) trivial (by kernel_rfl) tableau_mixed.eq
end
end W
end
