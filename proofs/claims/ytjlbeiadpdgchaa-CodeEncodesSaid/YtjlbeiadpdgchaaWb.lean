/- Lifted functions, part 2: each with its contract. -/
import Derived.Test.YtjlbeiadpdgchaaWa
import Derived.Test.YtjlbeiadpdgchaaProg
set_option linter.all false
section
set_option maxHeartbeats 4000000
set_option maxRecDepth 100000
set_option linter.unusedVariables false
namespace W
open Go Go.Ql Go.Proofs
noncomputable section
abbrev tb48:SD:=.one (.own 30 0)
def R_Group.c100008 {ρ:Type} (gens:List (List UInt8)) (one:List UInt8) (t6:Int) (k_:((List UInt8)×Int) ⊕ ((List UInt8)×Int) → Option ρ):Option ρ :=
 bnd (idx gens (0:Int)) fun y =>
 br (decide (t6 < (↑(List.length y):Int)))
 (bnd (okIf (decide (List.length one + List.length (Array.toList (ByteArray.data (ByteArray.mk #[(73:UInt8)]))) ≤ (9223372036854775807:Nat)))) fun y_1 =>
 k_ (.inl ((one ++ Array.toList (ByteArray.data (ByteArray.mk #[(73:UInt8)]))),(IntKind.wrap IntKind.i64 (t6 + (1:Int))))))
 (k_ (.inr (one,t6)))
def R_Group.c100008s:Shape:=⟨[(0,tb21),(2,tb21),(3,tb21),(4,tb5),(5,tb4),(6,tb5)],[]⟩
def R_Group.c100008x0:Shape:=R_Group.c100008s
def R_Group.c100008r:Ck:=Ck.ofLoop (S:=(List UInt8)×Int) (T:=(List UInt8)×Int) R_Group.c100008s (fun x_=>(x_.2.2.2.2.1,x_.2.2.2.2.2.1)) (fun ρ x_ s_ k_=>R_Group.c100008 x_.1 s_.1 s_.2 k_) (fun ρ x_ r_ k_=>k_ 4 (Shape.inj R_Group.c100008x0 (x_.1,x_.2.1,x_.2.2.1,x_.2.2.2.1,r_.1,r_.2,())))
def R_Group.c220502 {ρ:Type} (gens:List (List UInt8)) (out:List (List UInt8)) (i:Int) (k_:List (List UInt8) → Option ρ):Option ρ :=
 br (i == (0:Int))
 (bnd (iter (fun s ↦ W.R_Group.c100008 gens (Prod.fst s) (Prod.snd s) some) (Array.toList (ByteArray.data (ByteArray.mk #[])),(0:Int))) fun y =>
 k_ ([Prod.fst y]))
 (k_ out)
def R_Group.c220502s:Shape:=⟨[(0,tb21),(2,tb21),(3,tb21),(4,tb5)],[]⟩
def R_Group.c220502x0:Shape:=R_Group.c220502s
def R_Group.c220502r:Ck:=Ck.of (T:=List (List UInt8)) R_Group.c220502s (fun ρ x_ k_=>R_Group.c220502 x_.1 x_.2.2.1 x_.2.2.2.1 k_) (fun ρ x_ r_ k_=>k_ 0 (Shape.inj R_Group.c220502x0 (x_.1,x_.2.1,r_,x_.2.2.2)))
def R_Group.c16 {ρ:Type} (gens:List (List UInt8)) (out:List (List UInt8)) (i:Int) (t8:Int) (t30:List (List UInt8)) (k_:List (List UInt8) → Option ρ):Option ρ :=
 bnd (idx out t8) fun y =>
 bnd (idx gens i) fun y_1 =>
 bnd (W.R_lettersTimes y y_1) fun y_2 =>
 bnd (okIf (decide ((List.length t30 + (1:Nat)) * (16:Nat) ≤ (140737488355328:Nat)) && decide (List.length t30 + (1:Nat) ≤ (140737488355328:Nat)))) fun y_3 =>
 k_ (t30 ++ [y_2])
def R_Group.c16s:Shape:=⟨[(0,tb21),(2,tb21),(3,tb21),(4,tb5),(7,tb48),(8,tb5)],[(30,tb47)]⟩
def R_Group.c16x0:Shape:=R_Group.c16s
def R_Group.c16r:Ck:=Ck.of (T:=List (List UInt8)) R_Group.c16s (fun ρ x_ k_=>R_Group.c16 x_.1 x_.2.2.1 x_.2.2.2.1 x_.2.2.2.2.1 x_.2.2.2.2.2.1 k_) (fun ρ x_ r_ k_=>k_ 0 (Shape.inj R_Group.c16x0 (x_.1,x_.2.1,x_.2.2.1,x_.2.2.2.1,x_.2.2.2.2.1,r_,())))
def R_Group.c100014 {ρ:Type} (gens:List (List UInt8)) (out:List (List UInt8)) (i:Int) (t8:Int) (t30:List (List UInt8)) (k_:(Int×(List (List UInt8))) ⊕ (Int×(List (List UInt8))) → Option ρ):Option ρ :=
 br (decide (t8 < (↑(List.length out):Int)))
 (bnd (W.R_Group.c16 gens out i t8 t30 some) fun y =>
 k_ (.inl ((IntKind.wrap IntKind.i64 (t8 + (1:Int))),y)))
 (k_ (.inr (t8,t30)))
def R_Group.c100014s:Shape:=R_Group.c16s
def R_Group.c100014x0:Shape:=R_Group.c16s
def R_Group.c100014r:Ck:=Ck.ofLoop (S:=Int×(List (List UInt8))) (T:=Int×(List (List UInt8))) R_Group.c100014s (fun x_=>(x_.2.2.2.2.1,x_.2.2.2.2.2.1)) (fun ρ x_ s_ k_=>R_Group.c100014 x_.1 x_.2.2.1 x_.2.2.2.1 s_.1 s_.2 k_) (fun ρ x_ r_ k_=>k_ 6 (Shape.inj R_Group.c100014x0 (x_.1,x_.2.1,x_.2.2.1,x_.2.2.2.1,r_.1,r_.2,())))
def R_Group.c100003 {ρ:Type} (gens:List (List UInt8)) (out:List (List UInt8)) (i:Int) (k_:((List (List UInt8))×Int) ⊕ ((List (List UInt8))×Int) → Option ρ):Option ρ :=
 br (decide (i < (↑(List.length gens):Int)))
 (bnd (W.R_Group.c220502 gens out i some) fun y =>
 bnd (okIf (decide (((0:Nat) + List.length y) * (16:Nat) ≤ (140737488355328:Nat)) && decide ((0:Nat) + List.length y ≤ (140737488355328:Nat)))) fun y_1 =>
 bnd (iter (fun s ↦ W.R_Group.c100014 gens y i (Prod.fst s) (Prod.snd s) some) ((0:Int),y)) fun y_2 =>
 k_ (.inl ((Prod.snd y_2),(IntKind.wrap IntKind.i64 (i + (1:Int))))))
 (k_ (.inr (out,i)))
def R_Group.c100003s:Shape:=R_Group.c220502s
def R_Group.c100003x0:Shape:=R_Group.c220502s
def R_Group.c100003r:Ck:=Ck.ofLoop (S:=(List (List UInt8))×Int) (T:=(List (List UInt8))×Int) R_Group.c100003s (fun x_=>(x_.2.2.1,x_.2.2.2.1)) (fun ρ x_ s_ k_=>R_Group.c100003 x_.1 s_.1 s_.2 k_) (fun ρ x_ r_ k_=>k_ 2 (Shape.inj R_Group.c100003x0 (x_.1,x_.2.1,r_.1,r_.2,())))
def R_Group (gens:List (List UInt8)):Option (List (List UInt8)) :=
 bnd (iter (fun s ↦ W.R_Group.c100003 gens (Prod.fst s) (Prod.snd s) some) ([],(0:Int))) fun y =>
 some (Prod.fst y)
def R_Group.ce:Go.Ql.Callee:=⟨[(.sl .str)],[(.sl .str)],fun x_=>R_Group x_⟩
def R_Group.G:Env:=⟨51,tab,[(110,R_lettersTimes.ce)],[0,2,3,4,5,6,7,8,12,16,22,34],[30,5000049],[(16,[⟨[],[],[38,39,40,41,42,43,44,45,46,47],[47]⟩,⟨[],[],[37,39,42,43,44,45],[]⟩,⟨[],[],[37,38,42,43,44,45],[]⟩,⟨[1,2],[],[37,42,43,44,45],[]⟩,⟨[3,1,2],[],[37,42,43,44,45],[]⟩,⟨[],[],[37,38,39,40,41,43],[]⟩,⟨[],[],[37,38,39,40,41,42],[]⟩,⟨[5,6],[],[37,38,39,40,41],[]⟩,⟨[7,5,6],[],[37,38,39,40,41],[]⟩,⟨[4,3,1,2,8,7,5,6],[],[37],[]⟩,⟨[9,4,3,1,2,8,7,5,6],[47],[37],[]⟩,⟨[0,10,9,4,3,1,2,8,7,5,6],[30],[],[]⟩,⟨[11,0,10,9,4,3,1,2,8,7,5,6],[],[],[]⟩])],[(100003,R_Group.c100003r),(100014,R_Group.c100014r),(16,R_Group.c16r),(220502,R_Group.c220502r),(100008,R_Group.c100008r)],[],tab_eqs⟩
theorem R_Group.eq (x_:dens R_Group.ce.params):den R_Group.G Try.f74 R_Group.ce.params R_Group.ce.res x_ = R_Group.ce.F x_:=by kernel_rfl
theorem R_Group.p0:PcA R_Group.G Try.f74 0 :=
 loop_ok (s:=R_Group.c100003r) (by kernel_rfl) (by kernel_rfl) (loops_of (sh:=R_Group.c100003s) (I:=fun x_ s_=>(x_.1,x_.2.1,s_.1,s_.2,())) (fun x_=>rfl) (fun ρ x_ s_ k_=>(nat_br (nat_bnd fun _=>(nat_bnd fun _=>(nat_bnd fun _=>nat_leaf))) nat_leaf)) (fun ρ x_ t k=>(by kernel_rfl)) (fun x_ s=>by kernel_rfl))
theorem R_Group.p1:PcA R_Group.G Try.f74 1 :=
 join_ok (s:=R_Group.c220502r) (by kernel_rfl) (by kernel_rfl) (sums_of (sh:=R_Group.c220502s) (fun ρ x_ k_=>(nat_br (nat_bnd fun _=>nat_leaf) nat_leaf)) (fun ρ x_ t k=>(by kernel_rfl)) (fun x_=>by kernel_rfl))
theorem R_Group.p2:PcA R_Group.G Try.f74 2 :=
 loop_ok (s:=R_Group.c100008r) (by kernel_rfl) (by kernel_rfl) (loops_of (sh:=R_Group.c100008s) (I:=fun x_ s_=>(x_.1,x_.2.1,x_.2.2.1,x_.2.2.2.1,s_.1,s_.2,())) (fun x_=>rfl) (fun ρ x_ s_ k_=>(nat_bnd fun _=>(nat_br (nat_bnd fun _=>nat_leaf) nat_leaf))) (fun ρ x_ t k=>(by kernel_rfl)) (fun x_ s=>by kernel_rfl))
theorem R_Group.p3:PcA R_Group.G Try.f74 3 :=
 loop_ok (s:=R_Group.c100014r) (by kernel_rfl) (by kernel_rfl) (loops_of (sh:=R_Group.c100014s) (I:=fun x_ s_=>(x_.1,x_.2.1,x_.2.2.1,x_.2.2.2.1,s_.1,s_.2,())) (fun x_=>rfl) (fun ρ x_ s_ k_=>(nat_br (nat_bnd fun _=>nat_leaf) nat_leaf)) (fun ρ x_ t k=>(by kernel_rfl)) (fun x_ s=>by kernel_rfl))
theorem R_Group.p4:PcA R_Group.G Try.f74 4 :=
 region_ok (s:=R_Group.c16r) (by kernel_rfl) (by kernel_rfl) (sums_of (sh:=R_Group.c16s) (fun ρ x_ k_=>(nat_bnd fun _=>(nat_bnd fun _=>(nat_bnd fun _=>(nat_bnd fun _=>nat_leaf))))) (fun ρ x_ t k=>(by kernel_rfl)) (fun x_=>by kernel_rfl))
theorem R_Group.ok:CalleeOk Try.prog 74 R_Group.ce:=fn_ok (G:=R_Group.G) tab_ok mixed Try.func74 ⟨(fns_cons R_lettersTimes.ok fns_nil),mfns_nil,tab_eqs_ok⟩ (m:=5) (by kernel_rfl) ⟨⟨⟨⟨⟨trivial,R_Group.p0⟩,R_Group.p1⟩,R_Group.p2⟩,R_Group.p3⟩,R_Group.p4⟩ (by kernel_rfl) R_Group.eq
def R_CheckCode.c1 {ρ:Type} (c0:Int) (k_:Bool → Option ρ):Option ρ :=
 br (decide (c0 < (1:Int)))
 (k_ true)
 (k_ (decide (c0 > (12:Int))))
def R_CheckCode.c1s:Shape:=⟨[(0,tb0),(1,tb1),(2,tb2)],[(1,tb3),(2,tb19)]⟩
def R_CheckCode.c1x0:Shape:=⟨[(0,tb0),(1,tb1),(2,tb2),(22,tb7)],[(1,tb3),(2,tb19)]⟩
def R_CheckCode.c1r:Ck:=Ck.of (T:=Bool) R_CheckCode.c1s (fun ρ x_ k_=>R_CheckCode.c1 x_.2.1 k_) (fun ρ x_ r_ k_=>k_ 0 (Shape.inj R_CheckCode.c1x0 (x_.1,r_,x_.2)))
def R_CheckCode.c8 {ρ:Type} (i:Int) (c0:Int) (c1:List (List UInt8)) (k_:(Bool)×(Bool)×(List UInt8) → Option ρ):Option ρ :=
 bnd (idx c1 i) fun y =>
 bnd (W.R_IsPauli y c0) fun y_1 =>
 k_ ((Prod.snd y_1),(Prod.fst (Prod.fst y_1)),(Prod.snd (Prod.fst y_1)))
def R_CheckCode.c8s:Shape:=⟨[(0,tb0),(1,tb1),(2,tb2),(3,tb5)],[(1,tb3),(2,tb19)]⟩
def R_CheckCode.c8x0:Shape:=⟨[(0,tb0),(1,tb1),(2,tb2),(3,tb5),(5,tb7)],[(1,tb3),(2,tb19),(4,tb45)]⟩
def R_CheckCode.c8r:Ck:=Ck.of (T:=(Bool)×(Bool)×(List UInt8)) R_CheckCode.c8s (fun ρ x_ k_=>R_CheckCode.c8 x_.2.1 x_.2.2.1 x_.2.2.2.1 k_) (fun ρ x_ r_ k_=>k_ 0 (Shape.inj R_CheckCode.c8x0 (x_.1,x_.2.1,r_.1,x_.2.2.1,x_.2.2.2.1,x_.2.2.2.2.1,x_.2.2.2.2.2.1,r_.2.1,r_.2.2,())))
def R_CheckCode.c100006 {ρ:Type} (i:Int) (c0:Int) (c1:List (List UInt8)) (k_:Int ⊕ ((Int×Int×Int) ⊕ Int) → Option ρ):Option ρ :=
 br (decide (i < (↑(List.length c1):Int)))
 (bnd (W.R_CheckCode.c8 i c0 c1 some) fun y =>
 br (!Prod.fst y)
 (bnd (W.R_rfault (33:Int) i) fun y_1 =>
 k_ (.inr (.inl (i,(Prod.fst y_1),(Prod.snd y_1)))))
 (k_ (.inl (IntKind.wrap IntKind.i64 (i + (1:Int))))))
 (k_ (.inr (.inr i)))
def R_CheckCode.c100006s:Shape:=R_CheckCode.c8s
def R_CheckCode.c100006x0:Shape:=R_CheckCode.c8s
def R_CheckCode.c100006x1:Shape:=R_CheckCode.c8s
def R_CheckCode.c100006r:Ck:=Ck.ofLoop (S:=Int) (T:=(Int×Int×Int) ⊕ Int) R_CheckCode.c100006s (fun x_=>x_.2.1) (fun ρ x_ s_ k_=>R_CheckCode.c100006 s_ x_.2.2.1 x_.2.2.2.1 k_) (fun ρ x_ r_ k_=>sel r_ (fun r_=>k_ 1 (Shape.inj R_CheckCode.c100006x0 (x_.1,r_.1,x_.2.2.1,x_.2.2.2.1,r_.2.1,r_.2.2,()))) (fun r_=>k_ 2 (Shape.inj R_CheckCode.c100006x1 (x_.1,r_,x_.2.2))))
def R_CheckCode.c18 {ρ:Type} (l:List (List UInt8)) (i_1:Int) (t8:Int) (k_:Bool → Option ρ):Option ρ :=
 bnd (idx l i_1) fun y =>
 bnd (idx l t8) fun y_1 =>
 bnd (W.R_Apart y y_1) fun y_2 =>
 k_ y_2
def R_CheckCode.c18s:Shape:=⟨[(0,tb0),(1,tb1),(2,tb2),(3,tb5),(6,tb21),(7,tb5),(8,tb5)],[(1,tb3),(2,tb19)]⟩
def R_CheckCode.c18x0:Shape:=⟨[(0,tb0),(1,tb1),(2,tb2),(3,tb5),(6,tb21),(7,tb5),(8,tb5),(75,tb7)],[(1,tb3),(2,tb19)]⟩
def R_CheckCode.c18r:Ck:=Ck.of (T:=Bool) R_CheckCode.c18s (fun ρ x_ k_=>R_CheckCode.c18 x_.2.2.1 x_.2.2.2.1 x_.2.2.2.2.1 k_) (fun ρ x_ r_ k_=>k_ 0 (Shape.inj R_CheckCode.c18x0 (x_.1,x_.2.1,x_.2.2.1,x_.2.2.2.1,x_.2.2.2.2.1,r_,x_.2.2.2.2.2)))
def R_CheckCode.c100016 {ρ:Type} (l:List (List UInt8)) (i_1:Int) (t8:Int) (k_:Int ⊕ ((Int×Int×Int) ⊕ Int) → Option ρ):Option ρ :=
 br (decide (t8 < i_1))
 (bnd (W.R_CheckCode.c18 l i_1 t8 some) fun y =>
 br y
 (bnd (W.R_rfault (34:Int) i_1) fun y_1 =>
 k_ (.inr (.inl (t8,(Prod.fst y_1),(Prod.snd y_1)))))
 (k_ (.inl (IntKind.wrap IntKind.i64 (t8 + (1:Int))))))
 (k_ (.inr (.inr t8)))
def R_CheckCode.c100016s:Shape:=R_CheckCode.c18s
def R_CheckCode.c100016x0:Shape:=R_CheckCode.c18s
def R_CheckCode.c100016x1:Shape:=R_CheckCode.c18s
def R_CheckCode.c100016r:Ck:=Ck.ofLoop (S:=Int) (T:=(Int×Int×Int) ⊕ Int) R_CheckCode.c100016s (fun x_=>x_.2.2.2.2.1) (fun ρ x_ s_ k_=>R_CheckCode.c100016 x_.2.2.1 x_.2.2.2.1 s_ k_) (fun ρ x_ r_ k_=>sel r_ (fun r_=>k_ 1 (Shape.inj R_CheckCode.c100016x0 (x_.1,x_.2.1,x_.2.2.1,x_.2.2.2.1,r_.1,x_.2.2.2.2.2.1,x_.2.2.2.2.2.2.1,r_.2.1,r_.2.2,()))) (fun r_=>k_ 6 (Shape.inj R_CheckCode.c100016x1 (x_.1,x_.2.1,x_.2.2.1,x_.2.2.2.1,r_,x_.2.2.2.2.2))))
def R_CheckCode.c100013 {ρ:Type} (l:List (List UInt8)) (i_1:Int) (k_:Int ⊕ ((Int×Int×Int) ⊕ Int) → Option ρ):Option ρ :=
 br (decide (i_1 < (↑(List.length l):Int)))
 (bnd (iter (fun s ↦ W.R_CheckCode.c100016 l i_1 s some) (0:Int)) fun y =>
 sel y
 (fun u=>k_ (.inr (.inl (i_1,(Prod.fst (Prod.snd u)),(Prod.snd (Prod.snd u))))))
 (fun v=>k_ (.inl (IntKind.wrap IntKind.i64 (i_1 + (1:Int))))))
 (k_ (.inr (.inr i_1)))
def R_CheckCode.c100013s:Shape:=⟨[(0,tb0),(1,tb1),(2,tb2),(3,tb5),(6,tb21),(7,tb5)],[(1,tb3),(2,tb19)]⟩
def R_CheckCode.c100013x0:Shape:=R_CheckCode.c100013s
def R_CheckCode.c100013x1:Shape:=R_CheckCode.c100013s
def R_CheckCode.c100013r:Ck:=Ck.ofLoop (S:=Int) (T:=(Int×Int×Int) ⊕ Int) R_CheckCode.c100013s (fun x_=>x_.2.2.2.1) (fun ρ x_ s_ k_=>R_CheckCode.c100013 x_.2.2.1 s_ k_) (fun ρ x_ r_ k_=>sel r_ (fun r_=>k_ 1 (Shape.inj R_CheckCode.c100013x0 (x_.1,x_.2.1,x_.2.2.1,r_.1,x_.2.2.2.2.1,x_.2.2.2.2.2.1,r_.2.1,r_.2.2,()))) (fun r_=>k_ 4 (Shape.inj R_CheckCode.c100013x1 (x_.1,x_.2.1,x_.2.2.1,r_,x_.2.2.2.2))))
def R_CheckCode.c100022 {ρ:Type} (one:List UInt8) (i_2:Int) (c0:Int) (k_:((List UInt8)×Int) ⊕ ((List UInt8)×Int) → Option ρ):Option ρ :=
 br (decide (i_2 < c0))
 (bnd (okIf (decide (List.length one + List.length (Array.toList (ByteArray.data (ByteArray.mk #[(73:UInt8)]))) ≤ (9223372036854775807:Nat)))) fun y =>
 k_ (.inl ((one ++ Array.toList (ByteArray.data (ByteArray.mk #[(73:UInt8)]))),(IntKind.wrap IntKind.i64 (i_2 + (1:Int))))))
 (k_ (.inr (one,i_2)))
def R_CheckCode.c100022s:Shape:=⟨[(0,tb0),(1,tb1),(2,tb2),(3,tb5),(6,tb21),(7,tb5),(9,tb4),(10,tb5)],[(1,tb3),(2,tb19)]⟩
def R_CheckCode.c100022x0:Shape:=R_CheckCode.c100022s
def R_CheckCode.c100022r:Ck:=Ck.ofLoop (S:=(List UInt8)×Int) (T:=(List UInt8)×Int) R_CheckCode.c100022s (fun x_=>(x_.2.2.2.2.1,x_.2.2.2.2.2.1)) (fun ρ x_ s_ k_=>R_CheckCode.c100022 s_.1 s_.2 x_.2.2.2.2.2.2.1 k_) (fun ρ x_ r_ k_=>k_ 8 (Shape.inj R_CheckCode.c100022x0 (x_.1,x_.2.1,x_.2.2.1,x_.2.2.2.1,r_.1,r_.2,x_.2.2.2.2.2.2)))
def R_CheckCode.c33 {ρ:Type} (l:List (List UInt8)) (i_3:Int) (known:Bool) (g:List (List UInt8)) (t14:Int) (k_:Bool → Option ρ):Option ρ :=
 br known
 (k_ true)
 (bnd (idx g t14) fun y =>
 bnd (idx l i_3) fun y_1 =>
 k_ (y == y_1))
def R_CheckCode.c33s:Shape:=⟨[(0,tb0),(1,tb1),(2,tb2),(3,tb5),(6,tb21),(7,tb5),(9,tb4),(10,tb5),(11,tb5),(12,tb7),(13,tb21),(14,tb5)],[(1,tb3),(2,tb19)]⟩
def R_CheckCode.c33x0:Shape:=R_CheckCode.c33s
def R_CheckCode.c33r:Ck:=Ck.of (T:=Bool) R_CheckCode.c33s (fun ρ x_ k_=>R_CheckCode.c33 x_.2.2.1 x_.2.2.2.2.2.2.1 x_.2.2.2.2.2.2.2.1 x_.2.2.2.2.2.2.2.2.1 x_.2.2.2.2.2.2.2.2.2.1 k_) (fun ρ x_ r_ k_=>k_ 0 (Shape.inj R_CheckCode.c33x0 (x_.1,x_.2.1,x_.2.2.1,x_.2.2.2.1,x_.2.2.2.2.1,x_.2.2.2.2.2.1,x_.2.2.2.2.2.2.1,r_,x_.2.2.2.2.2.2.2.2)))
def R_CheckCode.c100031 {ρ:Type} (l:List (List UInt8)) (i_3:Int) (known:Bool) (g:List (List UInt8)) (t14:Int) (k_:((Bool)×Int) ⊕ ((Bool)×Int) → Option ρ):Option ρ :=
 br (decide (t14 < (↑(List.length g):Int)))
 (bnd (W.R_CheckCode.c33 l i_3 known g t14 some) fun y =>
 k_ (.inl (y,(IntKind.wrap IntKind.i64 (t14 + (1:Int))))))
 (k_ (.inr (known,t14)))
def R_CheckCode.c100031s:Shape:=R_CheckCode.c33s
def R_CheckCode.c100031x0:Shape:=R_CheckCode.c33s
def R_CheckCode.c100031r:Ck:=Ck.ofLoop (S:=(Bool)×Int) (T:=(Bool)×Int) R_CheckCode.c100031s (fun x_=>(x_.2.2.2.2.2.2.2.1,x_.2.2.2.2.2.2.2.2.2.1)) (fun ρ x_ s_ k_=>R_CheckCode.c100031 x_.2.2.1 x_.2.2.2.2.2.2.1 s_.1 x_.2.2.2.2.2.2.2.2.1 s_.2 k_) (fun ρ x_ r_ k_=>k_ 12 (Shape.inj R_CheckCode.c100031x0 (x_.1,x_.2.1,x_.2.2.1,x_.2.2.2.1,x_.2.2.2.2.1,x_.2.2.2.2.2.1,x_.2.2.2.2.2.2.1,r_.1,x_.2.2.2.2.2.2.2.2.1,r_.2,x_.2.2.2.2.2.2.2.2.2.2)))
def R_CheckCode.c100026 {ρ:Type} (l:List (List UInt8)) (one:List UInt8) (i_3:Int) (k_:Int ⊕ ((Int×Int×Int) ⊕ Int) → Option ρ):Option ρ :=
 br (decide (i_3 < (↑(List.length l):Int)))
 (bnd (idx l i_3) fun y =>
 bnd (okIf (decide ((0:Int) ≤ i_3) && decide (i_3 ≤ (↑(List.length l):Int)))) fun y_1 =>
 bnd (W.R_Group (List.take (Int.toNat i_3) l)) fun y_2 =>
 bnd (iter (fun s ↦ W.R_CheckCode.c100031 l i_3 (Prod.fst s) y_2 (Prod.snd s) some) (y == one,(0:Int))) fun y_3 =>
 br (Prod.fst y_3)
 (bnd (W.R_rfault (35:Int) i_3) fun y_4 =>
 k_ (.inr (.inl (i_3,(Prod.fst y_4),(Prod.snd y_4)))))
 (k_ (.inl (IntKind.wrap IntKind.i64 (i_3 + (1:Int))))))
 (k_ (.inr (.inr i_3)))
def R_CheckCode.c100026s:Shape:=⟨[(0,tb0),(1,tb1),(2,tb2),(3,tb5),(6,tb21),(7,tb5),(9,tb4),(10,tb5),(11,tb5)],[(1,tb3),(2,tb19)]⟩
def R_CheckCode.c100026x0:Shape:=R_CheckCode.c100026s
def R_CheckCode.c100026x1:Shape:=R_CheckCode.c100026s
def R_CheckCode.c100026r:Ck:=Ck.ofLoop (S:=Int) (T:=(Int×Int×Int) ⊕ Int) R_CheckCode.c100026s (fun x_=>x_.2.2.2.2.2.2.1) (fun ρ x_ s_ k_=>R_CheckCode.c100026 x_.2.2.1 x_.2.2.2.2.1 s_ k_) (fun ρ x_ r_ k_=>sel r_ (fun r_=>k_ 1 (Shape.inj R_CheckCode.c100026x0 (x_.1,x_.2.1,x_.2.2.1,x_.2.2.2.1,x_.2.2.2.2.1,x_.2.2.2.2.2.1,r_.1,x_.2.2.2.2.2.2.2.1,x_.2.2.2.2.2.2.2.2.1,r_.2.1,r_.2.2,()))) (fun r_=>k_ 10 (Shape.inj R_CheckCode.c100026x1 (x_.1,x_.2.1,x_.2.2.1,x_.2.2.2.1,x_.2.2.2.2.1,x_.2.2.2.2.2.1,r_,x_.2.2.2.2.2.2.2))))
def R_CheckCode (c:Int×(List (List UInt8))):Option (Int×Int) :=
 bnd (W.R_CheckCode.c1 (Prod.fst c) some) fun y =>
 br y
 (bnd (W.R_rfault (6:Int) (0:Int)) fun y_1 =>
 some (Prod.fst y_1,Prod.snd y_1))
 (br (decide ((↑(List.length (Prod.snd c)):Int) > Prod.fst c))
 (bnd (W.R_rfault (21:Int) (0:Int)) fun y_2 =>
 some (Prod.fst y_2,Prod.snd y_2))
 (bnd (iter (fun s ↦ W.R_CheckCode.c100006 s (Prod.fst c) (Prod.snd c) some) (0:Int)) fun y_3 =>
 sel y_3
 (fun u=>some (Prod.fst (Prod.snd u),Prod.snd (Prod.snd u)))
 (fun v=>bnd (W.R_bare (Prod.snd c)) fun y_4 =>
 bnd (iter (fun s ↦ W.R_CheckCode.c100013 y_4 s some) (0:Int)) fun y_5 =>
 sel y_5
 (fun u_1=>some (Prod.fst (Prod.snd u_1),Prod.snd (Prod.snd u_1)))
 (fun v_1=>bnd (iter (fun s ↦ W.R_CheckCode.c100022 (Prod.fst s) (Prod.snd s) (Prod.fst c) some) (Array.toList (ByteArray.data (ByteArray.mk #[])),(0:Int))) fun y_6 =>
 bnd (iter (fun s ↦ W.R_CheckCode.c100026 y_4 (Prod.fst y_6) s some) (0:Int)) fun y_7 =>
 sel y_7
 (fun u_2=>some (Prod.fst (Prod.snd u_2),Prod.snd (Prod.snd u_2)))
 (fun v_2=>some ((0:Int),(0:Int)))))))
def R_CheckCode.ce:Go.Ql.Callee:=⟨[(.st (.pair (.int .i64) (.sl .str)))],[(.st (.pair (.int .i64) (.int .i64)))],fun x_=>R_CheckCode x_⟩
def R_CheckCode.G:Env:=⟨124,tab,[(44,R_rfault.ce),(15,R_IsPauli.ce),(72,R_bare.ce),(73,R_Apart.ce),(74,R_Group.ce)],[0,1,2,3,5,6,7,8,9,10,11,12,13,14,22,29,35,50,59,64,75,81,89,105,120],[],[(33,[⟨[],[],[],[]⟩,⟨[0],[],[],[]⟩,⟨[1,0],[],[111,114,115,116,117],[]⟩,⟨[1,0],[],[110,114,115,116,117],[]⟩,⟨[2,1,0,3],[],[114,115,116,117],[]⟩,⟨[4,2,1,0,3],[],[114,115,116,117],[]⟩,⟨[1,0],[],[110,111,112,113,115],[]⟩,⟨[1,0],[],[110,111,112,113,114],[]⟩,⟨[6,1,0,7],[],[110,111,112,113],[]⟩,⟨[8,6,1,0,7],[],[110,111,112,113],[]⟩,⟨[5,4,2,1,0,3,9,8,6,7],[],[],[]⟩,⟨[1,0,10,5,4,2,3,9,8,6,7],[],[],[]⟩,⟨[11,1,0,10,5,4,2,3,9,8,6,7],[],[],[]⟩]),
 (18,[⟨[],[],[68,71,72,73,74],[]⟩,⟨[],[],[67,71,72,73,74],[]⟩,⟨[0,1],[],[71,72,73,74],[]⟩,⟨[2,0,1],[],[71,72,73,74],[]⟩,⟨[],[],[67,68,69,70,72],[]⟩,⟨[],[],[67,68,69,70,71],[]⟩,⟨[4,5],[],[67,68,69,70],[]⟩,⟨[6,4,5],[],[67,68,69,70],[]⟩,⟨[3,2,0,1,7,6,4,5],[],[],[]⟩]),
 (8,[⟨[],[],[41,44,45,4],[4]⟩,⟨[0],[],[41,44,45,4],[4]⟩,⟨[],[],[39,40,44,45,4],[4]⟩,⟨[1,0,2],[],[44,45,4],[4]⟩,⟨[3,1,0,2],[],[44,45,4],[4]⟩,⟨[],[],[39,40,41,42,43,4],[4]⟩,⟨[5],[],[39,40,41,42,43,4],[4]⟩,⟨[4,3,1,0,2,6,5],[],[4],[4]⟩,⟨[7,4,3,1,0,2,6,5],[],[4],[4]⟩,⟨[8,7,4,3,1,0,2,6,5],[],[48,4],[4]⟩,⟨[8,7,4,3,1,0,2,6,5],[],[47,4],[4]⟩,⟨[],[4],[39,40,41,42,43,44,45,46,38,47,48],[]⟩,⟨[11,9,8,7,4,3,1,0,2,6,5],[4],[48],[]⟩,⟨[10,8,7,4,3,1,0,2,6,5,12,11,9],[],[],[]⟩])],[(100026,R_CheckCode.c100026r),(100031,R_CheckCode.c100031r),(33,R_CheckCode.c33r),(100022,R_CheckCode.c100022r),(100013,R_CheckCode.c100013r),(100016,R_CheckCode.c100016r),(18,R_CheckCode.c18r),(100006,R_CheckCode.c100006r),(8,R_CheckCode.c8r),(1,R_CheckCode.c1r)],[],tab_eqs⟩
theorem R_CheckCode.eq (x_:dens R_CheckCode.ce.params):den R_CheckCode.G Try.f29 R_CheckCode.ce.params R_CheckCode.ce.res x_ = R_CheckCode.ce.F x_:=by kernel_rfl
theorem R_CheckCode.p0:PcA R_CheckCode.G Try.f29 0 :=
 region_ok (s:=R_CheckCode.c1r) (by kernel_rfl) (by kernel_rfl) (sums_of (sh:=R_CheckCode.c1s) (fun ρ x_ k_=>(nat_br nat_leaf nat_leaf)) (fun ρ x_ t k=>(by kernel_rfl)) (fun x_=>by kernel_rfl))
theorem R_CheckCode.p1:PcA R_CheckCode.G Try.f29 1 :=
 loop_ok (s:=R_CheckCode.c100006r) (by kernel_rfl) (by kernel_rfl) (loops_of (sh:=R_CheckCode.c100006s) (I:=fun x_ s_=>(x_.1,s_,x_.2.2)) (fun x_=>rfl) (fun ρ x_ s_ k_=>(nat_br (nat_bnd fun _=>(nat_br (nat_bnd fun _=>nat_leaf) nat_leaf)) nat_leaf)) (fun ρ x_ t k=>(nat_sel (fun _=>(by kernel_rfl)) (fun _=>(by kernel_rfl)))) (fun x_ s=>by kernel_rfl))
theorem R_CheckCode.p2:PcA R_CheckCode.G Try.f29 2 :=
 region_ok (s:=R_CheckCode.c8r) (by kernel_rfl) (by kernel_rfl) (sums_of (sh:=R_CheckCode.c8s) (fun ρ x_ k_=>(nat_bnd fun _=>(nat_bnd fun _=>nat_leaf))) (fun ρ x_ t k=>(by kernel_rfl)) (fun x_=>by kernel_rfl))
theorem R_CheckCode.p3:PcA R_CheckCode.G Try.f29 3 :=
 loop_ok (s:=R_CheckCode.c100013r) (by kernel_rfl) (by kernel_rfl) (loops_of (sh:=R_CheckCode.c100013s) (I:=fun x_ s_=>(x_.1,x_.2.1,x_.2.2.1,s_,x_.2.2.2.2)) (fun x_=>rfl) (fun ρ x_ s_ k_=>(nat_br (nat_bnd fun _=>(nat_sel (fun _=>nat_leaf) (fun _=>nat_leaf))) nat_leaf)) (fun ρ x_ t k=>(nat_sel (fun _=>(by kernel_rfl)) (fun _=>(by kernel_rfl)))) (fun x_ s=>by kernel_rfl))
theorem R_CheckCode.p4:PcA R_CheckCode.G Try.f29 4 :=
 loop_ok (s:=R_CheckCode.c100016r) (by kernel_rfl) (by kernel_rfl) (loops_of (sh:=R_CheckCode.c100016s) (I:=fun x_ s_=>(x_.1,x_.2.1,x_.2.2.1,x_.2.2.2.1,s_,x_.2.2.2.2.2)) (fun x_=>rfl) (fun ρ x_ s_ k_=>(nat_br (nat_bnd fun _=>(nat_br (nat_bnd fun _=>nat_leaf) nat_leaf)) nat_leaf)) (fun ρ x_ t k=>(nat_sel (fun _=>(by kernel_rfl)) (fun _=>(by kernel_rfl)))) (fun x_ s=>by kernel_rfl))
theorem R_CheckCode.p5:PcA R_CheckCode.G Try.f29 5 :=
 region_ok (s:=R_CheckCode.c18r) (by kernel_rfl) (by kernel_rfl) (sums_of (sh:=R_CheckCode.c18s) (fun ρ x_ k_=>(nat_bnd fun _=>(nat_bnd fun _=>(nat_bnd fun _=>nat_leaf)))) (fun ρ x_ t k=>(by kernel_rfl)) (fun x_=>by kernel_rfl))
theorem R_CheckCode.p6:PcA R_CheckCode.G Try.f29 6 :=
 loop_ok (s:=R_CheckCode.c100022r) (by kernel_rfl) (by kernel_rfl) (loops_of (sh:=R_CheckCode.c100022s) (I:=fun x_ s_=>(x_.1,x_.2.1,x_.2.2.1,x_.2.2.2.1,s_.1,s_.2,x_.2.2.2.2.2.2)) (fun x_=>rfl) (fun ρ x_ s_ k_=>(nat_br (nat_bnd fun _=>nat_leaf) nat_leaf)) (fun ρ x_ t k=>(by kernel_rfl)) (fun x_ s=>by kernel_rfl))
theorem R_CheckCode.p7:PcA R_CheckCode.G Try.f29 7 :=
 loop_ok (s:=R_CheckCode.c100026r) (by kernel_rfl) (by kernel_rfl) (loops_of (sh:=R_CheckCode.c100026s) (I:=fun x_ s_=>(x_.1,x_.2.1,x_.2.2.1,x_.2.2.2.1,x_.2.2.2.2.1,x_.2.2.2.2.2.1,s_,x_.2.2.2.2.2.2.2)) (fun x_=>rfl) (fun ρ x_ s_ k_=>(nat_br (nat_bnd fun _=>(nat_bnd fun _=>(nat_bnd fun _=>(nat_bnd fun _=>(nat_br (nat_bnd fun _=>nat_leaf) nat_leaf))))) nat_leaf)) (fun ρ x_ t k=>(nat_sel (fun _=>(by kernel_rfl)) (fun _=>(by kernel_rfl)))) (fun x_ s=>by kernel_rfl))
theorem R_CheckCode.p8:PcA R_CheckCode.G Try.f29 8 :=
 loop_ok (s:=R_CheckCode.c100031r) (by kernel_rfl) (by kernel_rfl) (loops_of (sh:=R_CheckCode.c100031s) (I:=fun x_ s_=>(x_.1,x_.2.1,x_.2.2.1,x_.2.2.2.1,x_.2.2.2.2.1,x_.2.2.2.2.2.1,x_.2.2.2.2.2.2.1,s_.1,x_.2.2.2.2.2.2.2.2.1,s_.2,x_.2.2.2.2.2.2.2.2.2.2)) (fun x_=>rfl) (fun ρ x_ s_ k_=>(nat_br (nat_bnd fun _=>nat_leaf) nat_leaf)) (fun ρ x_ t k=>(by kernel_rfl)) (fun x_ s=>by kernel_rfl))
theorem R_CheckCode.p9:PcA R_CheckCode.G Try.f29 9 :=
 region_ok (s:=R_CheckCode.c33r) (by kernel_rfl) (by kernel_rfl) (sums_of (sh:=R_CheckCode.c33s) (fun ρ x_ k_=>(nat_br nat_leaf (nat_bnd fun _=>(nat_bnd fun _=>nat_leaf)))) (fun ρ x_ t k=>(by kernel_rfl)) (fun x_=>by kernel_rfl))
theorem R_CheckCode.ok:CalleeOk Try.prog 29 R_CheckCode.ce:=fn_ok (G:=R_CheckCode.G) tab_ok mixed Try.func29 ⟨(fns_cons R_rfault.ok (fns_cons R_IsPauli.ok (fns_cons R_bare.ok (fns_cons R_Apart.ok (fns_cons R_Group.ok fns_nil))))),mfns_nil,tab_eqs_ok⟩ (m:=10) (by kernel_rfl) ⟨⟨⟨⟨⟨⟨⟨⟨⟨⟨trivial,R_CheckCode.p0⟩,R_CheckCode.p1⟩,R_CheckCode.p2⟩,R_CheckCode.p3⟩,R_CheckCode.p4⟩,R_CheckCode.p5⟩,R_CheckCode.p6⟩,R_CheckCode.p7⟩,R_CheckCode.p8⟩,R_CheckCode.p9⟩ (by kernel_rfl) R_CheckCode.eq
abbrev tb49:SD:=.one (.own 10 0)
abbrev tb50:SO:=.arr 0 false 3 (.int .i64)
def code_shows.c216392 {ρ:Type} (t11:List (Int×(Int×(Bool)))) (t13:Int) (p0:Int) (p1:Int) (p2:Bool) (t10:List Int) (k_:List Int → Option ρ):Option ρ :=
 bnd (idx t11 t13) fun y =>
 bnd (W.tableau_pauli_Meets (Prod.fst y,Prod.fst (Prod.snd y),Prod.snd (Prod.snd y)) (p0,p1,p2)) fun y_1 =>
 br y_1
 (bnd (inR (List.length t10) t13) fun y_2 =>
 bnd (idx t10 t13) fun y_3 =>
 k_ (List.set t10 (Int.toNat t13) (1:Int)))
 (k_ t10)
def code_shows.c216392s:Shape:=⟨[(0,tb17),(1,tb11),(3,tb12),(4,tb36),(5,tb49),(11,tb17),(12,tb5),(13,tb5)],[(3,tb9),(10,tb50)]⟩
def code_shows.c216392x0:Shape:=code_shows.c216392s
def code_shows.c216392r:Ck:=Ck.of (T:=List Int) code_shows.c216392s (fun ρ x_ k_=>code_shows.c216392 x_.2.2.2.1 x_.2.2.2.2.2.1 x_.2.2.2.2.2.2.1 x_.2.2.2.2.2.2.2.1 x_.2.2.2.2.2.2.2.2.1 x_.2.2.2.2.2.2.2.2.2.1 k_) (fun ρ x_ r_ k_=>k_ 0 (Shape.inj code_shows.c216392x0 (x_.1,x_.2.1,x_.2.2.1,x_.2.2.2.1,x_.2.2.2.2.1,x_.2.2.2.2.2.1,x_.2.2.2.2.2.2.1,x_.2.2.2.2.2.2.2.1,x_.2.2.2.2.2.2.2.2.1,r_,())))
def code_shows.c100003 {ρ:Type} (t11:List (Int×(Int×(Bool)))) (t12:Int) (t13:Int) (p0:Int) (p1:Int) (p2:Bool) (t10:List Int) (k_:(Int×(List Int)) ⊕ (Int×(List Int)) → Option ρ):Option ρ :=
 br (decide (t13 < t12))
 (bnd (W.code_shows.c216392 t11 t13 p0 p1 p2 t10 some) fun y =>
 k_ (.inl ((IntKind.wrap IntKind.i64 (t13 + (1:Int))),y)))
 (k_ (.inr (t13,t10)))
def code_shows.c100003s:Shape:=code_shows.c216392s
def code_shows.c100003x0:Shape:=code_shows.c216392s
def code_shows.c100003r:Ck:=Ck.ofLoop (S:=Int×(List Int)) (T:=Int×(List Int)) code_shows.c100003s (fun x_=>(x_.2.2.2.2.2.1,x_.2.2.2.2.2.2.2.2.2.1)) (fun ρ x_ s_ k_=>code_shows.c100003 x_.2.2.2.1 x_.2.2.2.2.1 s_.1 x_.2.2.2.2.2.2.1 x_.2.2.2.2.2.2.2.1 x_.2.2.2.2.2.2.2.2.1 s_.2 k_) (fun ρ x_ r_ k_=>k_ 2 (Shape.inj code_shows.c100003x0 (x_.1,x_.2.1,x_.2.2.1,x_.2.2.2.1,x_.2.2.2.2.1,r_.1,x_.2.2.2.2.2.2.1,x_.2.2.2.2.2.2.2.1,x_.2.2.2.2.2.2.2.2.1,r_.2,())))
def code_shows (l:List (Int×(Int×(Bool)))) (p:Int×(Int×(Bool))):Option (List Int) :=
 bnd (okIf (decide ((0:Int) ≤ (↑(List.length l):Int)) && decide ((↑(List.length l):Int) ≤ (↑(List.length l):Int)) && decide ((↑(List.length l):Int) * (↑(8:Nat):Int) ≤ (140737488355328:Int)) && decide ((↑(List.length l):Int) ≤ (140737488355328:Int)))) fun y =>
 bnd (iter (fun s ↦ W.code_shows.c100003 l (↑(List.length l):Int) (Prod.fst s) (Prod.fst p) (Prod.fst (Prod.snd p)) (Prod.snd (Prod.snd p)) (Prod.snd s) some) ((0:Int),List.replicate (Int.toNat (↑(List.length l):Int)) (0:Int))) fun y_1 =>
 some (Prod.snd y_1)
def code_shows.ce:Go.Ql.Callee:=⟨[(.sl (.st (.pair (.int .u64) (.pair (.int .u64) .bool)))),(.st (.pair (.int .u64) (.pair (.int .u64) .bool)))],[(.sl (.int .i64))],fun x_=>code_shows x_.1 x_.2⟩
def code_shows.G:Env:=⟨26,tab,[(107,tableau_pauli_Meets.ce)],[0,1,3,4,5,6,7,11,12,13,14,20],[10],[],[(100003,code_shows.c100003r),(216392,code_shows.c216392r)],[],tab_eqs⟩
theorem code_shows.eq (x_:dens code_shows.ce.params):den code_shows.G Try.f111 code_shows.ce.params code_shows.ce.res x_ = code_shows.ce.F x_:=by kernel_rfl
theorem code_shows.p0:PcA code_shows.G Try.f111 0 :=
 loop_ok (s:=code_shows.c100003r) (by kernel_rfl) (by kernel_rfl) (loops_of (sh:=code_shows.c100003s) (I:=fun x_ s_=>(x_.1,x_.2.1,x_.2.2.1,x_.2.2.2.1,x_.2.2.2.2.1,s_.1,x_.2.2.2.2.2.2.1,x_.2.2.2.2.2.2.2.1,x_.2.2.2.2.2.2.2.2.1,s_.2,())) (fun x_=>rfl) (fun ρ x_ s_ k_=>(nat_br (nat_bnd fun _=>nat_leaf) nat_leaf)) (fun ρ x_ t k=>(by kernel_rfl)) (fun x_ s=>by kernel_rfl))
theorem code_shows.p1:PcA code_shows.G Try.f111 1 :=
 join_ok (s:=code_shows.c216392r) (by kernel_rfl) (by kernel_rfl) (sums_of (sh:=code_shows.c216392s) (fun ρ x_ k_=>(nat_bnd fun _=>(nat_bnd fun _=>(nat_br (nat_bnd fun _=>(nat_bnd fun _=>nat_leaf)) nat_leaf)))) (fun ρ x_ t k=>(by kernel_rfl)) (fun x_=>by kernel_rfl))
theorem code_shows.ok:CalleeOk Try.prog 111 code_shows.ce:=fn_ok (G:=code_shows.G) tab_ok mixed Try.func111 ⟨(fns_cons tableau_pauli_Meets.ok fns_nil),mfns_nil,tab_eqs_ok⟩ (m:=2) (by kernel_rfl) ⟨⟨trivial,code_shows.p0⟩,code_shows.p1⟩ (by kernel_rfl) code_shows.eq
def code_Syndrome.c3 {ρ:Type}  (k_:Unit → Option ρ):Option ρ :=
 k_ ()
def code_Syndrome.c3s:Shape:=⟨[(0,tb0),(1,tb4),(2,tb2),(4,tb36),(5,tb39),(6,tb17),(7,tb42)],[(2,tb3),(5,tb19),(7,tb19)]⟩
def code_Syndrome.c3x0:Shape:=code_Syndrome.c3s
def code_Syndrome.c3r:Ck:=Ck.of (T:=Unit) code_Syndrome.c3s (fun ρ x_ k_=>code_Syndrome.c3  k_) (fun ρ x_ r_ k_=>k_ 0 (Shape.inj code_Syndrome.c3x0 (x_.1,x_.2.1,[],x_.2.2.2.1,x_.2.2.2.2.1,x_.2.2.2.2.2.1,x_.2.2.2.2.2.2.2.2.1,x_.2.2.2.2.2.2.2.2.2.1,x_.2.2.2.2.2.2.2.2)))
def code_Syndrome.c7 {ρ:Type} (l:List (Int×(Int×(Bool)))) (p0:Int) (p1:Int) (p2:Bool) (k_:List Int → Option ρ):Option ρ :=
 bnd (W.code_shows l (p0,p1,p2)) fun y =>
 k_ y
def code_Syndrome.c7s:Shape:=⟨[(0,tb0),(1,tb4),(2,tb2),(4,tb36),(5,tb39),(6,tb17),(7,tb42),(8,tb27),(9,tb7)],[(2,tb3),(5,tb19),(7,tb19),(8,tb9)]⟩
def code_Syndrome.c7x0:Shape:=code_Syndrome.c7s
def code_Syndrome.c7r:Ck:=Ck.of (T:=List Int) code_Syndrome.c7s (fun ρ x_ k_=>code_Syndrome.c7 x_.2.2.2.1 x_.2.2.2.2.2.2.2.2.2.2.2.1 x_.2.2.2.2.2.2.2.2.2.2.2.2.1 x_.2.2.2.2.2.2.2.2.2.2.2.2.2.1 k_) (fun ρ x_ r_ k_=>k_ 0 (Shape.inj code_Syndrome.c7x0 (x_.1,x_.2.1,r_,x_.2.2.2.1,x_.2.2.2.2.1,x_.2.2.2.2.2.1,x_.2.2.2.2.2.2.1,x_.2.2.2.2.2.2.2.2.2.1,x_.2.2.2.2.2.2.2.2.2.2.1,x_.2.2.2.2.2.2.2.2.2)))
def code_Syndrome (c:Int×(List (List UInt8))) (pauli:List UInt8):Option ((List Int)×(Int×Int)) :=
 bnd (W.code_read (Prod.fst c,Prod.snd c)) fun y =>
 br (Prod.fst (Prod.snd y) != (0:Int))
 (bnd (W.code_Syndrome.c3 some) fun y_1 =>
 some ([],Prod.fst (Prod.snd y),Prod.snd (Prod.snd y)))
 (bnd (W.tableau_Read pauli (Prod.fst c)) fun y_2 =>
 br (!Prod.snd y_2)
 (some ([],(33:Int),(0:Int)))
 (bnd (W.code_Syndrome.c7 (Prod.fst y) (Prod.fst (Prod.fst y_2)) (Prod.fst (Prod.snd (Prod.fst y_2))) (Prod.snd (Prod.snd (Prod.fst y_2))) some) fun y_3 =>
 some (y_3,Prod.fst (Prod.snd y),Prod.snd (Prod.snd y))))
def code_Syndrome.ce:Go.Ql.Callee:=⟨[(.st (.pair (.int .i64) (.sl .str))),.str],[(.sl (.int .i64)),(.st (.pair (.int .i64) (.int .i64)))],fun x_=>code_Syndrome x_.1 x_.2⟩
def code_Syndrome.G:Env:=⟨33,tab,[(70,code_read.ce),(106,tableau_Read.ce),(111,code_shows.ce)],[0,1,2,4,5,6,7,8,9,17,27],[],[(7,[⟨[],[],[30,32],[]⟩,⟨[],[],[29,32],[]⟩,⟨[0,1],[],[32],[]⟩,⟨[],[],[29,30,31,4],[]⟩,⟨[2,0,1],[],[32],[]⟩,⟨[3,4,2,0,1],[5],[],[]⟩]),
 (3,[⟨[],[],[4],[4]⟩,⟨[],[4],[18],[]⟩,⟨[0,1],[5],[],[]⟩])],[(7,code_Syndrome.c7r),(3,code_Syndrome.c3r)],[],tab_eqs⟩
theorem code_Syndrome.eq (x_:dens code_Syndrome.ce.params):den code_Syndrome.G Try.f75 code_Syndrome.ce.params code_Syndrome.ce.res x_ = code_Syndrome.ce.F x_:=by kernel_rfl
theorem code_Syndrome.p0:PcA code_Syndrome.G Try.f75 0 :=
 region_ok (s:=code_Syndrome.c3r) (by kernel_rfl) (by kernel_rfl) (sums_of (sh:=code_Syndrome.c3s) (fun ρ x_ k_=>nat_leaf) (fun ρ x_ t k=>(by kernel_rfl)) (fun x_=>by kernel_rfl))
theorem code_Syndrome.p1:PcA code_Syndrome.G Try.f75 1 :=
 region_ok (s:=code_Syndrome.c7r) (by kernel_rfl) (by kernel_rfl) (sums_of (sh:=code_Syndrome.c7s) (fun ρ x_ k_=>(nat_bnd fun _=>nat_leaf)) (fun ρ x_ t k=>(by kernel_rfl)) (fun x_=>by kernel_rfl))
theorem code_Syndrome.ok:CalleeOk Try.prog 75 code_Syndrome.ce:=fn_ok (G:=code_Syndrome.G) tab_ok mixed Try.func75 ⟨(fns_cons code_read.ok (fns_cons tableau_Read.ok (fns_cons code_shows.ok fns_nil))),mfns_nil,tab_eqs_ok⟩ (m:=2) (by kernel_rfl) ⟨⟨trivial,code_Syndrome.p0⟩,code_Syndrome.p1⟩ (by kernel_rfl) code_Syndrome.eq
def code_number.c100003 {ρ:Type} (n:Int) (t6:List Int) (t7:Int) (t8:Int) (k_:(Int×Int) ⊕ (Int×Int) → Option ρ):Option ρ :=
 br (decide (t8 < t7))
 (bnd (idx t6 t8) fun y =>
 bnd (okIf (decide ((0:Int) ≤ t8))) fun y_1 =>
 k_ (.inl ((ibits BinOp.or IntKind.i64 n (IntKind.wrap IntKind.i64 (y * (2:Int) ^ Min.min (Int.toNat t8) (64:Nat)))),(IntKind.wrap IntKind.i64 (t8 + (1:Int))))))
 (k_ (.inr (n,t8)))
def code_number.c100003s:Shape:=⟨[(0,tb36),(2,tb5),(3,tb5),(6,tb36),(7,tb5),(8,tb5)],[]⟩
def code_number.c100003x0:Shape:=code_number.c100003s
def code_number.c100003r:Ck:=Ck.ofLoop (S:=Int×Int) (T:=Int×Int) code_number.c100003s (fun x_=>(x_.2.2.1,x_.2.2.2.2.2.1)) (fun ρ x_ s_ k_=>code_number.c100003 s_.1 x_.2.2.2.1 x_.2.2.2.2.1 s_.2 k_) (fun ρ x_ r_ k_=>k_ 2 (Shape.inj code_number.c100003x0 (x_.1,x_.2.1,r_.1,x_.2.2.2.1,x_.2.2.2.2.1,r_.2,())))
def code_number (s:List Int):Option Int :=
 bnd (iter (fun s_1 ↦ W.code_number.c100003 (Prod.fst s_1) s (↑(List.length s):Int) (Prod.snd s_1) some) ((0:Int),(0:Int))) fun y =>
 some (Prod.fst y)
def code_number.ce:Go.Ql.Callee:=⟨[(.sl (.int .i64))],[(.int .i64)],fun x_=>code_number x_⟩
def code_number.G:Env:=⟨20,tab,[],[0,2,3,4,5,6,7,8,9],[],[],[(100003,code_number.c100003r)],[],tab_eqs⟩
theorem code_number.eq (x_:dens code_number.ce.params):den code_number.G Try.f114 code_number.ce.params code_number.ce.res x_ = code_number.ce.F x_:=by kernel_rfl
theorem code_number.p0:PcA code_number.G Try.f114 0 :=
 loop_ok (s:=code_number.c100003r) (by kernel_rfl) (by kernel_rfl) (loops_of (sh:=code_number.c100003s) (I:=fun x_ s_=>(x_.1,x_.2.1,s_.1,x_.2.2.2.1,x_.2.2.2.2.1,s_.2,())) (fun x_=>rfl) (fun ρ x_ s_ k_=>(nat_br (nat_bnd fun _=>(nat_bnd fun _=>nat_leaf)) nat_leaf)) (fun ρ x_ t k=>(by kernel_rfl)) (fun x_ s=>by kernel_rfl))
theorem code_number.ok:CalleeOk Try.prog 114 code_number.ce:=fn_ok (G:=code_number.G) tab_ok mixed Try.func114 ⟨fns_nil,mfns_nil,tab_eqs_ok⟩ (m:=1) (by kernel_rfl) ⟨trivial,code_number.p0⟩ (by kernel_rfl) code_number.eq
abbrev tb51:SD:=.one (.ref 1000200 0)
abbrev tb52:SD:=.one (.ref 1000300 0)
abbrev tb53:SD:=.one (.ref 1000400 0)
abbrev tb54:SO:=.box [.val (.sl (.st (.pair (.int .u64) (.pair (.int .u64) .bool))))]
abbrev tb55:SO:=.box [.own 2000300 0]
abbrev tb56:SO:=.box [.own 2000400 0]
def code_least_1.pre:Shape:=⟨[(0,tb11),(1,tb5),(2,tb51),(3,tb52),(4,tb53)],[(1000200,tb54),(1000300,tb55),(1000400,tb56),(2000300,tb50),(2000400,tb22)]⟩
def code_least_1.post:Shape:=⟨[],[(1000200,tb54),(1000300,tb55),(1000400,tb56),(2000300,tb50),(2000400,tb22)]⟩
def code_least_1.c3 {ρ:Type} (s:Int) (t2000300:List Int) (t2000400:List (Int×(Int×(Bool)))) (k_:Unit → Option ρ):Option ρ :=
 bnd (inR (List.length t2000400) s) fun y =>
 bnd (idx t2000400 s) fun y_1 =>
 bnd (inR (List.length t2000300) s) fun y_2 =>
 bnd (idx t2000300 s) fun y_3 =>
 k_ ()
def code_least_1.c3s:Shape:=⟨[(0,tb11),(1,tb5),(2,tb51),(3,tb52),(4,tb53),(5,tb39),(7,tb5)],[(5,tb9),(1000200,tb54),(1000300,tb55),(1000400,tb56),(2000300,tb50),(2000400,tb22)]⟩
def code_least_1.c3x0:Shape:=code_least_1.c3s
def code_least_1.c3r:Ck:=Ck.of (T:=Unit) code_least_1.c3s (fun ρ x_ k_=>code_least_1.c3 x_.2.2.1 x_.2.2.2.2.2.2.2.1 x_.2.2.2.2.2.2.2.2.1 k_) (fun ρ x_ r_ k_=>k_ 0 (Shape.inj code_least_1.c3x0 (x_.1,x_.2.1,x_.2.2.1,x_.2.2.2.1,x_.2.2.2.2.1,x_.2.2.2.2.2.1,x_.2.2.2.2.2.2.1,(List.set x_.2.2.2.2.2.2.2.1 (Int.toNat x_.2.2.1) x_.2.1),(List.set x_.2.2.2.2.2.2.2.2.1 (Int.toNat x_.2.2.1) (x_.2.2.2.1,x_.2.2.2.2.1,x_.2.2.2.2.2.1)),())))
def code_least_1 (p:Int×(Int×(Bool))) (weight:Int) (t10002000:List (Int×(Int×(Bool)))) (t2000300:List Int) (t2000400:List (Int×(Int×(Bool)))):Option ((List (Int×(Int×(Bool))))×(List Int)×(List (Int×(Int×(Bool))))×Unit) :=
 bnd (W.code_shows t10002000 (Prod.fst p,Prod.fst (Prod.snd p),Prod.snd (Prod.snd p))) fun y =>
 bnd (W.code_number y) fun y_1 =>
 bnd (inR (List.length t2000300) y_1) fun y_2 =>
 bnd (idx t2000300 y_1) fun y_3 =>
 br (decide (weight < y_3))
 (bnd (W.code_least_1.c3 y_1 t2000300 t2000400 some) fun y_4 =>
 some (t10002000,List.set t2000300 (Int.toNat y_1) weight,List.set t2000400 (Int.toNat y_1) (Prod.fst p,Prod.fst (Prod.snd p),Prod.snd (Prod.snd p)),()))
 (some (t10002000,t2000300,t2000400,()))
def code_least_1.mc:MCallee:=⟨134,code_least_1.pre,code_least_1.post,fun x_=>code_least_1 x_.1 x_.2.1 x_.2.2.1 x_.2.2.2.1 x_.2.2.2.2.1⟩
def code_least_1.G:Env:=⟨26,tab,[(111,code_shows.ce),(114,code_number.ce)],[0,1,2,3,4,5,7,17],[1000200,1000300,1000400,2000300,2000400],[(3,[⟨[],[],[19,20,21,22,23],[]⟩,⟨[],[],[18,20,21,22,23],[]⟩,⟨[],[],[18,19,21,22,23,24],[2000400]⟩,⟨[],[],[18,19,20,22,23,24],[2000400]⟩,⟨[],[],[18,19,20,21,23],[]⟩,⟨[],[],[18,19,20,21,22,24],[2000400]⟩,⟨[0,1,4],[],[20,21,23],[]⟩,⟨[6,0,1,4],[2000400],[20,21,23],[]⟩,⟨[2,3,0,1,4,5,6,7],[],[],[]⟩,⟨[8,2,3,0,1,4,5,6,7],[2000300],[],[]⟩])],[(3,code_least_1.c3r)],[],tab_eqs⟩
theorem code_least_1.eq (x_:densU code_least_1.mc.pre.tys):denM code_least_1.G Try.f134 code_least_1.mc.pre code_least_1.mc.post x_ = code_least_1.mc.F x_:=by kernel_rfl
theorem code_least_1.p0:PcA code_least_1.G Try.f134 0 :=
 region_ok (s:=code_least_1.c3r) (by kernel_rfl) (by kernel_rfl) (sums_of (sh:=code_least_1.c3s) (fun ρ x_ k_=>(nat_bnd fun _=>(nat_bnd fun _=>(nat_bnd fun _=>(nat_bnd fun _=>nat_leaf))))) (fun ρ x_ t k=>(by kernel_rfl)) (fun x_=>by kernel_rfl))
theorem code_least_1.ok:MOk Try.prog 134 code_least_1.mc:=fnm_ok (G:=code_least_1.G) tab_ok mixed Try.func134 ⟨(fns_cons code_shows.ok (fns_cons code_number.ok fns_nil)),mfns_nil,tab_eqs_ok⟩ (m:=1) (by kernel_rfl) ⟨trivial,code_least_1.p0⟩ (by kernel_rfl) code_least_1.eq
abbrev tb57:SD:=.one (.ref 1000110 0)
abbrev tb58:SD:=.one (.ref 1000120 0)
abbrev tb59:SD:=.one (.ref 1000130 0)
abbrev tb60:SO:=.box [.val (.int .i64)]
abbrev tb61:SO:=.box [.own 2000110 0]
abbrev tb62:SO:=.box [.clo 1000140]
abbrev tb63:SO:=.box [.clo 1000150]
abbrev tb64:SO:=.clo 134 [] [.ref 1000200 0,.ref 1000300 0,.ref 1000400 0]
abbrev tb65:SO:=.clo 140 [] [.ref 1000100 0,.ref 1000110 0,.ref 1000120 0,.ref 1000130 0]
abbrev tb66:SO:=.arr 0 false 5 (.int .u8)
abbrev tb67:SD:=.one (.val (.int .u8))
abbrev tb68:SD:=.one (.val (.sl (.int .u8)))
def code_errors_1__least_b.self.pre:Shape:=⟨[(0,tb5),(1,tb5),(2,tb33),(3,tb57),(4,tb58),(5,tb59)],[(1000100,tb60),(1000110,tb61),(1000120,tb62),(1000130,tb63),(1000140,tb64),(1000150,tb65),(1000200,tb54),(1000300,tb55),(1000400,tb56),(2000110,tb66),(2000300,tb50),(2000400,tb22)]⟩
def code_errors_1__least_b.self.post:Shape:=⟨[],[(1000100,tb60),(1000110,tb61),(1000120,tb62),(1000130,tb63),(1000140,tb64),(1000150,tb65),(1000200,tb54),(1000300,tb55),(1000400,tb56),(2000110,tb66),(2000300,tb50),(2000400,tb22)]⟩
class code_errors_1__least_b.Self where
 F:densU code_errors_1__least_b.self.pre.tys → Option (densU code_errors_1__least_b.self.post.tys)
 ok:MOk Try.prog 140 ⟨140,code_errors_1__least_b.self.pre,code_errors_1__least_b.self.post,F⟩
section
variable [code_errors_1__least_b.Self]
def code_errors_1__least_b.self (x_:densU code_errors_1__least_b.self.pre.tys):Option (densU code_errors_1__least_b.self.post.tys):=code_errors_1__least_b.Self.F x_
def code_errors_1__least_b.self.mc:MCallee:=⟨140,code_errors_1__least_b.self.pre,code_errors_1__least_b.self.post,fun x_=>code_errors_1__least_b.self x_⟩
theorem code_errors_1__least_b.self.ok:MOk Try.prog 140 code_errors_1__least_b.self.mc:=code_errors_1__least_b.Self.ok
def code_errors_1__least_b.pre:Shape:=⟨[(0,tb5),(1,tb5),(2,tb33),(3,tb57),(4,tb58),(5,tb59)],[(1000100,tb60),(1000110,tb61),(1000120,tb62),(1000130,tb63),(1000140,tb64),(1000150,tb65),(1000200,tb54),(1000300,tb55),(1000400,tb56),(2000110,tb66),(2000300,tb50),(2000400,tb22)]⟩
def code_errors_1__least_b.post:Shape:=⟨[],[(1000100,tb60),(1000110,tb61),(1000120,tb62),(1000130,tb63),(1000140,tb64),(1000150,tb65),(1000200,tb54),(1000300,tb55),(1000400,tb56),(2000110,tb66),(2000300,tb50),(2000400,tb22)]⟩
def code_errors_1__least_b.c232773 {ρ:Type} (c:Int) (w:Int) (k_:Int → Option ρ):Option ρ :=
 br (c != (73:Int))
 (k_ (IntKind.wrap IntKind.i64 (w + (1:Int))))
 (k_ w)
def code_errors_1__least_b.c232773s:Shape:=⟨[(0,tb5),(1,tb5),(2,tb33),(3,tb57),(4,tb58),(5,tb59),(11,tb67),(12,tb5),(28,tb68),(29,tb5),(30,tb5)],[(1000100,tb60),(1000110,tb61),(1000120,tb62),(1000130,tb63),(1000140,tb64),(1000150,tb65),(1000200,tb54),(1000300,tb55),(1000400,tb56),(2000110,tb66),(2000300,tb50),(2000400,tb22)]⟩
def code_errors_1__least_b.c232773x0:Shape:=code_errors_1__least_b.c232773s
def code_errors_1__least_b.c232773r:Ck:=Ck.of (T:=Int) code_errors_1__least_b.c232773s (fun ρ x_ k_=>code_errors_1__least_b.c232773 x_.2.2.1 x_.2.2.2.1 k_) (fun ρ x_ r_ k_=>k_ 0 (Shape.inj code_errors_1__least_b.c232773x0 (x_.1,x_.2.1,x_.2.2.1,r_,x_.2.2.2.2)))
def code_errors_1__least_b.c100004 {ρ:Type} (q:Int) (weight:Int) (t28:List Int) (t29:Int) (t30:Int) (t10001000:Int) (t10002000:List (Int×(Int×(Bool)))) (t2000110:List Int) (t2000300:List Int) (t2000400:List (Int×(Int×(Bool)))) (k_:(Int×Int×(List (Int×(Int×(Bool))))×(List Int)×(List Int)×(List (Int×(Int×(Bool))))) ⊕ (Int×Int×(List (Int×(Int×(Bool))))×(List Int)×(List Int)×(List (Int×(Int×(Bool))))) → Option ρ):Option ρ :=
 br (decide (t30 < t29))
 (bnd (idx t28 t30) fun y =>
 bnd (inR (List.length t2000110) (IntKind.wrap IntKind.i64 (q + (1:Int)))) fun y_1 =>
 bnd (idx t2000110 (IntKind.wrap IntKind.i64 (q + (1:Int)))) fun y_2 =>
 bnd (W.code_errors_1__least_b.c232773 y weight some) fun y_3 =>
 bnd (W.code_errors_1__least_b.self (IntKind.wrap IntKind.i64 (q + (1:Int)),y_3,t10001000,t10002000,List.set t2000110 (Int.toNat (IntKind.wrap IntKind.i64 (q + (1:Int)))) y,t2000300,t2000400,())) fun y_4 =>
 k_ (.inl ((IntKind.wrap IntKind.i64 (t30 + (1:Int))),(Prod.fst y_4),(Prod.fst y_4.2),(Prod.fst y_4.2.2),(Prod.fst y_4.2.2.2),(Prod.fst y_4.2.2.2.2))))
 (k_ (.inr (t30,t10001000,t10002000,t2000110,t2000300,t2000400)))
def code_errors_1__least_b.c100004s:Shape:=⟨[(0,tb5),(1,tb5),(2,tb33),(3,tb57),(4,tb58),(5,tb59),(28,tb68),(29,tb5),(30,tb5)],[(1000100,tb60),(1000110,tb61),(1000120,tb62),(1000130,tb63),(1000140,tb64),(1000150,tb65),(1000200,tb54),(1000300,tb55),(1000400,tb56),(2000110,tb66),(2000300,tb50),(2000400,tb22)]⟩
def code_errors_1__least_b.c100004x0:Shape:=code_errors_1__least_b.c100004s
def code_errors_1__least_b.c100004r:Ck:=Ck.ofLoop (S:=Int×Int×(List (Int×(Int×(Bool))))×(List Int)×(List Int)×(List (Int×(Int×(Bool))))) (T:=Int×Int×(List (Int×(Int×(Bool))))×(List Int)×(List Int)×(List (Int×(Int×(Bool))))) code_errors_1__least_b.c100004s (fun x_=>(x_.2.2.2.2.1,x_.2.2.2.2.2.1,x_.2.2.2.2.2.2.1,x_.2.2.2.2.2.2.2.1,x_.2.2.2.2.2.2.2.2.1,x_.2.2.2.2.2.2.2.2.2.1)) (fun ρ x_ s_ k_=>code_errors_1__least_b.c100004 x_.1 x_.2.1 x_.2.2.1 x_.2.2.2.1 s_.1 s_.2.1 s_.2.2.1 s_.2.2.2.1 s_.2.2.2.2.1 s_.2.2.2.2.2 k_) (fun ρ x_ r_ k_=>k_ 2 (Shape.inj code_errors_1__least_b.c100004x0 (x_.1,x_.2.1,x_.2.2.1,x_.2.2.2.1,r_.1,r_.2.1,r_.2.2.1,r_.2.2.2.1,r_.2.2.2.2.1,r_.2.2.2.2.2,())))
def code_errors_1__least_b (q:Int) (weight:Int) (t10001000:Int) (t10002000:List (Int×(Int×(Bool)))) (t2000110:List Int) (t2000300:List Int) (t2000400:List (Int×(Int×(Bool)))):Option (Int×(List (Int×(Int×(Bool))))×(List Int)×(List Int)×(List (Int×(Int×(Bool))))×Unit) :=
 br (q == t10001000)
 (bnd (W.tableau_Read (List.map (fun n ↦ UInt8.ofNat (Int.toNat n)) t2000110) t10001000) fun y =>
 bnd (W.code_least_1 (Prod.fst (Prod.fst y),Prod.fst (Prod.snd (Prod.fst y)),Prod.snd (Prod.snd (Prod.fst y))) weight t10002000 t2000300 t2000400) fun y_1 =>
 some (t10001000,Prod.fst y_1,t2000110,Prod.fst y_1.2,Prod.fst y_1.2.2,()))
 (bnd (iter (fun s ↦ W.code_errors_1__least_b.c100004 q weight [(73:Int),(88:Int),(89:Int),(90:Int)] (↑(4:Nat):Int) (Prod.fst s) (Prod.fst (Prod.snd s)) (Prod.fst (Prod.snd (Prod.snd s))) (Prod.fst (Prod.snd (Prod.snd (Prod.snd s)))) (Prod.fst (Prod.snd (Prod.snd (Prod.snd (Prod.snd s))))) (Prod.snd (Prod.snd (Prod.snd (Prod.snd (Prod.snd s))))) some) ((0:Int),t10001000,t10002000,t2000110,t2000300,t2000400)) fun y_2 =>
 some (Prod.fst (Prod.snd y_2),Prod.fst (Prod.snd (Prod.snd y_2)),Prod.fst (Prod.snd (Prod.snd (Prod.snd y_2))),Prod.fst (Prod.snd (Prod.snd (Prod.snd (Prod.snd y_2)))),Prod.snd (Prod.snd (Prod.snd (Prod.snd (Prod.snd y_2)))),()))
def code_errors_1__least_b.mc:MCallee:=⟨140,code_errors_1__least_b.pre,code_errors_1__least_b.post,fun x_=>code_errors_1__least_b x_.1 x_.2.1 x_.2.2.1 x_.2.2.2.1 x_.2.2.2.2.1 x_.2.2.2.2.2.1 x_.2.2.2.2.2.2.1⟩
def code_errors_1__least_b.G:Env:=⟨50,tab,[(106,tableau_Read.ce)],[0,1,2,3,4,5,8,11,12,15,28,29,30,31,41],[1000100,1000110,1000120,1000130,1000140,1000150,1000200,1000300,1000400,2000110,2000300,2000400],[],[(100004,code_errors_1__least_b.c100004r),(232773,code_errors_1__least_b.c232773r)],[(134,code_least_1.mc),(140,code_errors_1__least_b.self.mc)],tab_eqs⟩
theorem code_errors_1__least_b.eq (x_:densU code_errors_1__least_b.mc.pre.tys):denM code_errors_1__least_b.G Try.f140 code_errors_1__least_b.mc.pre code_errors_1__least_b.mc.post x_ = code_errors_1__least_b.mc.F x_:=by kernel_rfl
theorem code_errors_1__least_b.p0:PcA code_errors_1__least_b.G Try.f140 0 :=
 loop_ok (s:=code_errors_1__least_b.c100004r) (by kernel_rfl) (by kernel_rfl) (loops_of (sh:=code_errors_1__least_b.c100004s) (I:=fun x_ s_=>(x_.1,x_.2.1,x_.2.2.1,x_.2.2.2.1,s_.1,s_.2.1,s_.2.2.1,s_.2.2.2.1,s_.2.2.2.2.1,s_.2.2.2.2.2,())) (fun x_=>rfl) (fun ρ x_ s_ k_=>(nat_br (nat_bnd fun _=>(nat_bnd fun _=>(nat_bnd fun _=>(nat_bnd fun _=>(nat_bnd fun _=>nat_leaf))))) nat_leaf)) (fun ρ x_ t k=>(by kernel_rfl)) (fun x_ s=>by kernel_rfl))
theorem code_errors_1__least_b.p1:PcA code_errors_1__least_b.G Try.f140 1 :=
 join_ok (s:=code_errors_1__least_b.c232773r) (by kernel_rfl) (by kernel_rfl) (sums_of (sh:=code_errors_1__least_b.c232773s) (fun ρ x_ k_=>(nat_br nat_leaf nat_leaf)) (fun ρ x_ t k=>(by kernel_rfl)) (fun x_=>by kernel_rfl))
theorem code_errors_1__least_b.ok:MOk Try.prog 140 code_errors_1__least_b.mc:=fnm_ok (G:=code_errors_1__least_b.G) tab_ok mixed Try.func140 ⟨(fns_cons tableau_Read.ok fns_nil),(mfns_cons code_least_1.ok (mfns_cons code_errors_1__least_b.self.ok mfns_nil)),tab_eqs_ok⟩ (m:=2) (by kernel_rfl) ⟨⟨trivial,code_errors_1__least_b.p0⟩,code_errors_1__least_b.p1⟩ (by kernel_rfl) code_errors_1__least_b.eq
end
@[reducible] def code_errors_1__least_b.fuel:Nat → code_errors_1__least_b.Self
 | 0=>⟨fun _=>none,⟨⟨Try.f140,Try.func140,by kernel_rfl,by kernel_rfl⟩,fun _ _ _ _ _ _ _ hy=>by cases hy⟩⟩
 | n + 1=>⟨fun x_=>(@code_errors_1__least_b.mc (code_errors_1__least_b.fuel n)).F x_,@code_errors_1__least_b.ok (code_errors_1__least_b.fuel n)⟩
def code_errors_1__least (x_:densU code_errors_1__least_b.self.pre.tys):Option (densU code_errors_1__least_b.self.post.tys):=(code_errors_1__least_b.fuel (16)).F x_
def code_errors_1__least.mc:MCallee:=⟨140,code_errors_1__least_b.self.pre,code_errors_1__least_b.self.post,fun x_=>code_errors_1__least x_⟩
theorem code_errors_1__least.ok:MOk Try.prog 140 code_errors_1__least.mc:=mok_diag (F:=fun n=>(code_errors_1__least_b.fuel n).F) (fun n=>(code_errors_1__least_b.fuel n).ok) (fun x_=>16)
abbrev tb69:SD:=.one (.clo 1000140)
def code_errors__least.pre:Shape:=⟨[(0,tb5),(1,tb69)],[(1000140,tb64),(1000200,tb54),(1000300,tb55),(1000400,tb56),(2000300,tb50),(2000400,tb22)]⟩
def code_errors__least.post:Shape:=⟨[],[(1000140,tb64),(1000200,tb54),(1000300,tb55),(1000400,tb56),(2000300,tb50),(2000400,tb22)]⟩
def code_errors__least (n:Int) (t10002000:List (Int×(Int×(Bool)))) (t2000300:List Int) (t2000400:List (Int×(Int×(Bool)))):Option ((List (Int×(Int×(Bool))))×(List Int)×(List (Int×(Int×(Bool))))×Unit) :=
 bnd (okIf (decide ((0:Int) ≤ IntKind.wrap IntKind.i64 (n + (1:Int))) && decide (IntKind.wrap IntKind.i64 (n + (1:Int)) ≤ IntKind.wrap IntKind.i64 (n + (1:Int))) && decide (IntKind.wrap IntKind.i64 (n + (1:Int)) * (↑(1:Nat):Int) ≤ (140737488355328:Int)) && decide (IntKind.wrap IntKind.i64 (n + (1:Int)) ≤ (140737488355328:Int)))) fun y =>
 bnd (inR (List.length (List.replicate (Int.toNat (IntKind.wrap IntKind.i64 (n + (1:Int)))) (0:Int))) (0:Int)) fun y_1 =>
 bnd (idx (List.replicate (Int.toNat (IntKind.wrap IntKind.i64 (n + (1:Int)))) (0:Int)) (0:Int)) fun y_2 =>
 bnd (W.code_errors_1__least ((0:Int),(0:Int),n,t10002000,List.set (List.replicate (Int.toNat (IntKind.wrap IntKind.i64 (n + (1:Int)))) (0:Int)) (0:Nat) (43:Int),t2000300,t2000400,())) fun y_3 =>
 some (Prod.fst y_3.2,Prod.fst y_3.2.2.2,Prod.fst y_3.2.2.2.2,())
def code_errors__least.mc:MCallee:=⟨133,code_errors__least.pre,code_errors__least.post,fun x_=>code_errors__least x_.1 x_.2.1 x_.2.2.1 x_.2.2.2.1⟩
def code_errors__least.G:Env:=⟨14,tab,[],[0,1,2,3,4,5],[3,4,5,8,1004,1000140,1000200,1000300,1000400,2000300,2000400],[],[],[(140,code_errors_1__least.mc)],tab_eqs⟩
theorem code_errors__least.eq (x_:densU code_errors__least.mc.pre.tys):denM code_errors__least.G Try.f133 code_errors__least.mc.pre code_errors__least.mc.post x_ = code_errors__least.mc.F x_:=by kernel_rfl
theorem code_errors__least.ok:MOk Try.prog 133 code_errors__least.mc:=fnm_ok (G:=code_errors__least.G) tab_ok mixed Try.func133 ⟨fns_nil,(mfns_cons code_errors_1__least.ok mfns_nil),tab_eqs_ok⟩ (m:=0) (by kernel_rfl) trivial (by kernel_rfl) code_errors__least.eq
abbrev tb70:SO:=.box [.own 11 0]
abbrev tb71:SO:=.box [.own 14 0]
def code_least.c100004 {ρ:Type} (t16:Int) (t17:Int) (c0:Int) (t14:List Int) (k_:(Int×(List Int)) ⊕ (Int×(List Int)) → Option ρ):Option ρ :=
 br (decide (t17 < t16))
 (bnd (inR (List.length t14) t17) fun y =>
 bnd (idx t14 t17) fun y_1 =>
 k_ (.inl ((IntKind.wrap IntKind.i64 (t17 + (1:Int))),(List.set t14 (Int.toNat t17) (IntKind.wrap IntKind.i64 (c0 + (1:Int)))))))
 (k_ (.inr (t17,t14)))
def code_least.c100004s:Shape:=⟨[(0,tb0),(1,tb17),(2,tb2),(3,tb12),(4,tb17),(5,tb39),(6,tb8),(16,tb5),(17,tb5)],[(2,tb3),(3,tb54),(5,tb70),(6,tb71),(11,tb22),(14,tb50),(1005,tb22),(1006,tb50)]⟩
def code_least.c100004x0:Shape:=code_least.c100004s
def code_least.c100004r:Ck:=Ck.ofLoop (S:=Int×(List Int)) (T:=Int×(List Int)) code_least.c100004s (fun x_=>(x_.2.2.2.2.1,x_.2.2.2.2.2.2.2.2.2.1)) (fun ρ x_ s_ k_=>code_least.c100004 x_.2.2.2.1 s_.1 x_.2.2.2.2.2.1 s_.2 k_) (fun ρ x_ r_ k_=>k_ 2 (Shape.inj code_least.c100004x0 (x_.1,x_.2.1,x_.2.2.1,x_.2.2.2.1,r_.1,x_.2.2.2.2.2.1,x_.2.2.2.2.2.2.1,x_.2.2.2.2.2.2.2.1,x_.2.2.2.2.2.2.2.2.1,r_.2,x_.2.2.2.2.2.2.2.2.2.2)))
def code_least (c:Int×(List (List UInt8))) (l:List (Int×(Int×(Bool)))):Option (List (Int×(Int×(Bool)))) :=
 bnd (okIf (decide ((0:Int) ≤ (↑(List.length l):Int)))) fun y =>
 bnd (okIf (decide ((0:Int) ≤ IntKind.wrap IntKind.i64 ((1:Int) * (2:Int) ^ Min.min (Int.toNat (↑(List.length l):Int)) (64:Nat))) && decide (IntKind.wrap IntKind.i64 ((1:Int) * (2:Int) ^ Min.min (Int.toNat (↑(List.length l):Int)) (64:Nat)) ≤ IntKind.wrap IntKind.i64 ((1:Int) * (2:Int) ^ Min.min (Int.toNat (↑(List.length l):Int)) (64:Nat))) && decide (IntKind.wrap IntKind.i64 ((1:Int) * (2:Int) ^ Min.min (Int.toNat (↑(List.length l):Int)) (64:Nat)) * (↑(24:Nat):Int) ≤ (140737488355328:Int)) && decide (IntKind.wrap IntKind.i64 ((1:Int) * (2:Int) ^ Min.min (Int.toNat (↑(List.length l):Int)) (64:Nat)) ≤ (140737488355328:Int)))) fun y_1 =>
 bnd (okIf (decide ((0:Int) ≤ (↑(List.length (List.replicate (Int.toNat (IntKind.wrap IntKind.i64 ((1:Int) * (2:Int) ^ Min.min (Int.toNat (↑(List.length l):Int)) (64:Nat)))) ((0:Int),(0:Int),false))):Int)) && decide ((↑(List.length (List.replicate (Int.toNat (IntKind.wrap IntKind.i64 ((1:Int) * (2:Int) ^ Min.min (Int.toNat (↑(List.length l):Int)) (64:Nat)))) ((0:Int),(0:Int),false))):Int) ≤ (↑(List.length (List.replicate (Int.toNat (IntKind.wrap IntKind.i64 ((1:Int) * (2:Int) ^ Min.min (Int.toNat (↑(List.length l):Int)) (64:Nat)))) ((0:Int),(0:Int),false))):Int)) && decide ((↑(List.length (List.replicate (Int.toNat (IntKind.wrap IntKind.i64 ((1:Int) * (2:Int) ^ Min.min (Int.toNat (↑(List.length l):Int)) (64:Nat)))) ((0:Int),(0:Int),false))):Int) * (↑(8:Nat):Int) ≤ (140737488355328:Int)) && decide ((↑(List.length (List.replicate (Int.toNat (IntKind.wrap IntKind.i64 ((1:Int) * (2:Int) ^ Min.min (Int.toNat (↑(List.length l):Int)) (64:Nat)))) ((0:Int),(0:Int),false))):Int) ≤ (140737488355328:Int)))) fun y_2 =>
 bnd (iter (fun s ↦ W.code_least.c100004 (↑(List.length (List.replicate (Int.toNat (↑(List.length (List.replicate (Int.toNat (IntKind.wrap IntKind.i64 ((1:Int) * (2:Int) ^ Min.min (Int.toNat (↑(List.length l):Int)) (64:Nat)))) ((0:Int),(0:Int),false))):Int)) (0:Int))):Int) (Prod.fst s) (Prod.fst c) (Prod.snd s) some) ((0:Int),List.replicate (Int.toNat (↑(List.length (List.replicate (Int.toNat (IntKind.wrap IntKind.i64 ((1:Int) * (2:Int) ^ Min.min (Int.toNat (↑(List.length l):Int)) (64:Nat)))) ((0:Int),(0:Int),false))):Int)) (0:Int))) fun y_3 =>
 bnd (W.code_errors__least (Prod.fst c) l (Prod.snd y_3) (List.replicate (Int.toNat (IntKind.wrap IntKind.i64 ((1:Int) * (2:Int) ^ Min.min (Int.toNat (↑(List.length l):Int)) (64:Nat)))) ((0:Int),(0:Int),false))) fun y_4 =>
 some (Prod.fst y_4.2.2)
def code_least.ce:Go.Ql.Callee:=⟨[(.st (.pair (.int .i64) (.sl .str))),(.sl (.st (.pair (.int .u64) (.pair (.int .u64) .bool))))],[(.sl (.st (.pair (.int .u64) (.pair (.int .u64) .bool))))],fun x_=>code_least x_.1 x_.2⟩
def code_least.G:Env:=⟨32,tab,[],[0,1,2,3,4,5,6,7,16,17,18],[5,6,11,14,1005,1006],[],[(100004,code_least.c100004r)],[(133,code_errors__least.mc)],tab_eqs⟩
theorem code_least.eq (x_:dens code_least.ce.params):den code_least.G Try.f113 code_least.ce.params code_least.ce.res x_ = code_least.ce.F x_:=by kernel_rfl
theorem code_least.p0:PcA code_least.G Try.f113 0 :=
 loop_ok (s:=code_least.c100004r) (by kernel_rfl) (by kernel_rfl) (loops_of (sh:=code_least.c100004s) (I:=fun x_ s_=>(x_.1,x_.2.1,x_.2.2.1,x_.2.2.2.1,s_.1,x_.2.2.2.2.2.1,x_.2.2.2.2.2.2.1,x_.2.2.2.2.2.2.2.1,x_.2.2.2.2.2.2.2.2.1,s_.2,x_.2.2.2.2.2.2.2.2.2.2)) (fun x_=>rfl) (fun ρ x_ s_ k_=>(nat_br (nat_bnd fun _=>(nat_bnd fun _=>nat_leaf)) nat_leaf)) (fun ρ x_ t k=>(by kernel_rfl)) (fun x_ s=>by kernel_rfl))
theorem code_least.ok:CalleeOk Try.prog 113 code_least.ce:=fn_ok (G:=code_least.G) tab_ok mixed Try.func113 ⟨fns_nil,(mfns_cons code_errors__least.ok mfns_nil),tab_eqs_ok⟩ (m:=1) (by kernel_rfl) ⟨trivial,code_least.p0⟩ (by kernel_rfl) code_least.eq
abbrev tb72:SD:=.one (.own 7 0)
def tableau_pauli_text.c208197 {ρ:Type} (p2:Bool) (t7:List Int) (k_:List Int → Option ρ):Option ρ :=
 br p2
 (bnd (inR (List.length t7) (0:Int)) fun y =>
 bnd (idx t7 (0:Int)) fun y_1 =>
 k_ (List.set t7 (0:Nat) (45:Int)))
 (k_ t7)
def tableau_pauli_text.c208197s:Shape:=⟨[(0,tb11),(1,tb5),(2,tb2),(4,tb4),(5,tb72)],[(2,tb9),(7,tb66)]⟩
def tableau_pauli_text.c208197x0:Shape:=tableau_pauli_text.c208197s
def tableau_pauli_text.c208197r:Ck:=Ck.of (T:=List Int) tableau_pauli_text.c208197s (fun ρ x_ k_=>tableau_pauli_text.c208197 x_.2.2.2.2.2.1 x_.2.2.2.2.2.2.1 k_) (fun ρ x_ r_ k_=>k_ 0 (Shape.inj tableau_pauli_text.c208197x0 (x_.1,x_.2.1,x_.2.2.1,x_.2.2.2.1,x_.2.2.2.2.1,x_.2.2.2.2.2.1,r_,())))
def tableau_pauli_text.c7 {ρ:Type} (q:Int) (p0:Int) (p1:Int) (t7:List Int) (k_:List Int → Option ρ):Option ρ :=
 bnd (okIf (decide ((0:Int) ≤ q))) fun y =>
 bnd (okIf (decide ((0:Int) ≤ q))) fun y_1 =>
 bnd (idx (Array.toList (ByteArray.data (ByteArray.mk #[(73:UInt8),(88:UInt8),(90:UInt8),(89:UInt8)]))) (ibits BinOp.or IntKind.u64 (ibits BinOp.and IntKind.u64 (Int.fdiv p0 ((2:Int) ^ Min.min (Int.toNat q) (64:Nat))) (1:Int)) (IntKind.wrap IntKind.u64 (ibits BinOp.and IntKind.u64 (Int.fdiv p1 ((2:Int) ^ Min.min (Int.toNat q) (64:Nat))) (1:Int) * (2:Int) ^ (1:Nat))))) fun y_2 =>
 bnd (okIf (decide ((List.length t7 + (1:Nat)) * (1:Nat) ≤ (140737488355328:Nat)) && decide (List.length t7 + (1:Nat) ≤ (140737488355328:Nat)))) fun y_3 =>
 k_ (t7 ++ [(↑(UInt8.toNat y_2):Int)])
def tableau_pauli_text.c7s:Shape:=⟨[(0,tb11),(1,tb5),(2,tb2),(4,tb4),(5,tb72),(6,tb5),(12,tb5),(13,tb5)],[(2,tb9),(7,tb66)]⟩
def tableau_pauli_text.c7x0:Shape:=tableau_pauli_text.c7s
def tableau_pauli_text.c7r:Ck:=Ck.of (T:=List Int) tableau_pauli_text.c7s (fun ρ x_ k_=>tableau_pauli_text.c7 x_.2.2.2.1 x_.2.2.2.2.2.2.1 x_.2.2.2.2.2.2.2.1 x_.2.2.2.2.2.2.2.2.2.1 k_) (fun ρ x_ r_ k_=>k_ 0 (Shape.inj tableau_pauli_text.c7x0 (x_.1,x_.2.1,x_.2.2.1,x_.2.2.2.1,x_.2.2.2.2.1,x_.2.2.2.2.2.1,x_.2.2.2.2.2.2.1,x_.2.2.2.2.2.2.2.1,x_.2.2.2.2.2.2.2.2.1,r_,())))
def tableau_pauli_text.c100005 {ρ:Type} (t12:Int) (t13:Int) (p0:Int) (p1:Int) (t7:List Int) (k_:(Int×(List Int)) ⊕ (Int×(List Int)) → Option ρ):Option ρ :=
 br (decide (t13 < t12))
 (bnd (W.tableau_pauli_text.c7 t13 p0 p1 t7 some) fun y =>
 k_ (.inl ((IntKind.wrap IntKind.i64 (t13 + (1:Int))),y)))
 (k_ (.inr (t13,t7)))
def tableau_pauli_text.c100005s:Shape:=⟨[(0,tb11),(1,tb5),(2,tb2),(4,tb4),(5,tb72),(12,tb5),(13,tb5)],[(2,tb9),(7,tb66)]⟩
def tableau_pauli_text.c100005x0:Shape:=tableau_pauli_text.c100005s
def tableau_pauli_text.c100005r:Ck:=Ck.ofLoop (S:=Int×(List Int)) (T:=Int×(List Int)) tableau_pauli_text.c100005s (fun x_=>(x_.2.2.2.2.1,x_.2.2.2.2.2.2.2.2.1)) (fun ρ x_ s_ k_=>tableau_pauli_text.c100005 x_.2.2.2.1 s_.1 x_.2.2.2.2.2.1 x_.2.2.2.2.2.2.1 s_.2 k_) (fun ρ x_ r_ k_=>k_ 2 (Shape.inj tableau_pauli_text.c100005x0 (x_.1,x_.2.1,x_.2.2.1,x_.2.2.2.1,r_.1,x_.2.2.2.2.2.1,x_.2.2.2.2.2.2.1,x_.2.2.2.2.2.2.2.1,r_.2,())))
def tableau_pauli_text (p:Int×(Int×(Bool))) (n:Int):Option (List UInt8) :=
 bnd (W.tableau_pauli_text.c208197 (Prod.snd (Prod.snd p)) [(43:Int)] some) fun y =>
 bnd (iter (fun s ↦ W.tableau_pauli_text.c100005 n (Prod.fst s) (Prod.fst p) (Prod.fst (Prod.snd p)) (Prod.snd s) some) ((0:Int),y)) fun y_1 =>
 some (List.map (fun n ↦ UInt8.ofNat (Int.toNat n)) (Prod.snd y_1))
def tableau_pauli_text.ce:Go.Ql.Callee:=⟨[(.st (.pair (.int .u64) (.pair (.int .u64) .bool))),(.int .i64)],[.str],fun x_=>tableau_pauli_text x_.1 x_.2⟩
def tableau_pauli_text.G:Env:=⟨35,tab,[],[0,1,2,4,5,6,9,12,13,14],[7],[(7,[⟨[],[],[17,18,19,20,21,22,23,24,25,26,27,28,29,30],[30]⟩,⟨[],[],[16,19,22,23,24,25,26,27],[]⟩,⟨[1],[],[16,19,22,23,24,25,26,27],[]⟩,⟨[],[],[16,17,18,22,23,24,25,26,27],[]⟩,⟨[2,1,3],[],[16,22,23,24,25,26,27],[]⟩,⟨[4,2,1,3],[],[16,22,23,24,25,26,27],[]⟩,⟨[],[],[16,17,18,19,20,21,24],[]⟩,⟨[6],[],[16,17,18,19,20,21,24],[]⟩,⟨[],[],[16,17,18,19,20,21,22,23],[]⟩,⟨[7,6,8],[],[16,17,18,19,20,21],[]⟩,⟨[9,7,6,8],[],[16,17,18,19,20,21],[]⟩,⟨[10,9,7,6,8],[],[16,17,18,19,20,21],[]⟩,⟨[5,4,2,1,3,11,10,9,7,6,8],[],[16],[]⟩,⟨[12,5,4,2,1,3,11,10,9,7,6,8],[],[16],[]⟩,⟨[13,12,5,4,2,1,3,11,10,9,7,6,8],[30],[16],[]⟩,⟨[0,14,13,12,5,4,2,1,3,11,10,9,7,6,8],[7],[],[]⟩,⟨[15,0,14,13,12,5,4,2,1,3,11,10,9,7,6,8],[],[],[]⟩])],[(100005,tableau_pauli_text.c100005r),(7,tableau_pauli_text.c7r),(208197,tableau_pauli_text.c208197r)],[],tab_eqs⟩
theorem tableau_pauli_text.eq (x_:dens tableau_pauli_text.ce.params):den tableau_pauli_text.G Try.f43 tableau_pauli_text.ce.params tableau_pauli_text.ce.res x_ = tableau_pauli_text.ce.F x_:=by kernel_rfl
theorem tableau_pauli_text.p0:PcA tableau_pauli_text.G Try.f43 0 :=
 join_ok (s:=tableau_pauli_text.c208197r) (by kernel_rfl) (by kernel_rfl) (sums_of (sh:=tableau_pauli_text.c208197s) (fun ρ x_ k_=>(nat_br (nat_bnd fun _=>(nat_bnd fun _=>nat_leaf)) nat_leaf)) (fun ρ x_ t k=>(by kernel_rfl)) (fun x_=>by kernel_rfl))
theorem tableau_pauli_text.p1:PcA tableau_pauli_text.G Try.f43 1 :=
 loop_ok (s:=tableau_pauli_text.c100005r) (by kernel_rfl) (by kernel_rfl) (loops_of (sh:=tableau_pauli_text.c100005s) (I:=fun x_ s_=>(x_.1,x_.2.1,x_.2.2.1,x_.2.2.2.1,s_.1,x_.2.2.2.2.2.1,x_.2.2.2.2.2.2.1,x_.2.2.2.2.2.2.2.1,s_.2,())) (fun x_=>rfl) (fun ρ x_ s_ k_=>(nat_br (nat_bnd fun _=>nat_leaf) nat_leaf)) (fun ρ x_ t k=>(by kernel_rfl)) (fun x_ s=>by kernel_rfl))
theorem tableau_pauli_text.p2:PcA tableau_pauli_text.G Try.f43 2 :=
 region_ok (s:=tableau_pauli_text.c7r) (by kernel_rfl) (by kernel_rfl) (sums_of (sh:=tableau_pauli_text.c7s) (fun ρ x_ k_=>(nat_bnd fun _=>(nat_bnd fun _=>(nat_bnd fun _=>(nat_bnd fun _=>nat_leaf))))) (fun ρ x_ t k=>(by kernel_rfl)) (fun x_=>by kernel_rfl))
theorem tableau_pauli_text.ok:CalleeOk Try.prog 43 tableau_pauli_text.ce:=fn_ok (G:=tableau_pauli_text.G) tab_ok mixed Try.func43 ⟨fns_nil,mfns_nil,tab_eqs_ok⟩ (m:=3) (by kernel_rfl) ⟨⟨⟨trivial,tableau_pauli_text.p0⟩,tableau_pauli_text.p1⟩,tableau_pauli_text.p2⟩ (by kernel_rfl) tableau_pauli_text.eq
def tableau_pauli_Text (p:Int×(Int×(Bool))) (n:Int):Option (List UInt8) :=
 bnd (W.tableau_pauli_text (Prod.fst p,Prod.fst (Prod.snd p),Prod.snd (Prod.snd p)) n) fun y =>
 some y
def tableau_pauli_Text.ce:Go.Ql.Callee:=⟨[(.st (.pair (.int .u64) (.pair (.int .u64) .bool))),(.int .i64)],[.str],fun x_=>tableau_pauli_Text x_.1 x_.2⟩
def tableau_pauli_Text.G:Env:=⟨8,tab,[(43,tableau_pauli_text.ce)],[0,1,2,4],[],[],[],[],tab_eqs⟩
theorem tableau_pauli_Text.eq (x_:dens tableau_pauli_Text.ce.params):den tableau_pauli_Text.G Try.f115 tableau_pauli_Text.ce.params tableau_pauli_Text.ce.res x_ = tableau_pauli_Text.ce.F x_:=by kernel_rfl
theorem tableau_pauli_Text.ok:CalleeOk Try.prog 115 tableau_pauli_Text.ce:=fn_ok (G:=tableau_pauli_Text.G) tab_ok mixed Try.func115 ⟨(fns_cons tableau_pauli_text.ok fns_nil),mfns_nil,tab_eqs_ok⟩ (m:=0) (by kernel_rfl) trivial (by kernel_rfl) tableau_pauli_Text.eq
def code_Decode_1 (t0:Int) (t1:Int):Option ((List UInt8)×(Int×Int)) :=
 some (Array.toList (ByteArray.data (ByteArray.mk #[])),t0,t1)
def code_Decode_1.ce:Go.Ql.Callee:=⟨[(.int .i64),(.int .i64)],[.str,(.st (.pair (.int .i64) (.int .i64)))],fun x_=>code_Decode_1 x_.1 x_.2⟩
def code_Decode_1.G:Env:=⟨9,tab,[],[0,1,4,5],[],[],[],[],tab_eqs⟩
theorem code_Decode_1.eq (x_:dens code_Decode_1.ce.params):den code_Decode_1.G Try.f112 code_Decode_1.ce.params code_Decode_1.ce.res x_ = code_Decode_1.ce.F x_:=by kernel_rfl
theorem code_Decode_1.ok:CalleeOk Try.prog 112 code_Decode_1.ce:=fn_ok (G:=code_Decode_1.G) tab_ok mixed Try.func112 ⟨fns_nil,mfns_nil,tab_eqs_ok⟩ (m:=0) (by kernel_rfl) trivial (by kernel_rfl) code_Decode_1.eq
abbrev tb73:SD:=.one (.fn 112)
def code_Decode.c4 {ρ:Type}  (k_:Unit → Option ρ):Option ρ :=
 k_ ()
def code_Decode.c4s:Shape:=⟨[(0,tb0),(1,tb36),(2,tb2),(4,tb4),(5,tb39),(6,tb73),(7,tb17),(8,tb27)],[(2,tb3),(5,tb19),(8,tb19)]⟩
def code_Decode.c4x0:Shape:=code_Decode.c4s
def code_Decode.c4r:Ck:=Ck.of (T:=Unit) code_Decode.c4s (fun ρ x_ k_=>code_Decode.c4  k_) (fun ρ x_ r_ k_=>k_ 0 (Shape.inj code_Decode.c4x0 (x_.1,x_.2.1,(Array.toList (ByteArray.data (ByteArray.mk #[]))),x_.2.2.2.1,x_.2.2.2.2.1,x_.2.2.2.2.2.1,x_.2.2.2.2.2.2.2.2.1,x_.2.2.2.2.2.2.2.2.2.1,x_.2.2.2.2.2.2.2.2)))
def code_Decode.c12 {ρ:Type} (b:Int) (k_:Bool → Option ρ):Option ρ :=
 br (b != (0:Int))
 (k_ (b != (1:Int)))
 (k_ false)
def code_Decode.c12s:Shape:=⟨[(0,tb0),(1,tb36),(2,tb2),(4,tb4),(5,tb39),(6,tb73),(7,tb17),(8,tb27),(9,tb5),(10,tb5),(36,tb36),(37,tb5),(38,tb5)],[(2,tb3),(5,tb19),(8,tb19)]⟩
def code_Decode.c12x0:Shape:=⟨[(0,tb0),(1,tb36),(2,tb2),(4,tb4),(5,tb39),(6,tb73),(7,tb17),(8,tb27),(9,tb5),(10,tb5),(36,tb36),(37,tb5),(38,tb5),(48,tb7)],[(2,tb3),(5,tb19),(8,tb19)]⟩
def code_Decode.c12r:Ck:=Ck.of (T:=Bool) code_Decode.c12s (fun ρ x_ k_=>code_Decode.c12 x_.2.2.2.2.2.1 k_) (fun ρ x_ r_ k_=>k_ 0 (Shape.inj code_Decode.c12x0 (x_.1,x_.2.1,x_.2.2.1,x_.2.2.2.1,x_.2.2.2.2.1,x_.2.2.2.2.2.1,x_.2.2.2.2.2.2.1,x_.2.2.2.2.2.2.2.1,x_.2.2.2.2.2.2.2.2.1,r_,x_.2.2.2.2.2.2.2.2.2)))
def code_Decode.c100010 {ρ:Type} (t36:List Int) (t37:Int) (t38:Int) (k_:Int ⊕ (((List UInt8)×Int×Int×Int) ⊕ Int) → Option ρ):Option ρ :=
 br (decide (t38 < t37))
 (bnd (idx t36 t38) fun y =>
 bnd (W.code_Decode.c12 y some) fun y_1 =>
 br y_1
 (bnd (W.code_Decode_1 (20:Int) t38) fun y_2 =>
 k_ (.inr (.inl ((Prod.fst y_2),t38,(Prod.fst (Prod.snd y_2)),(Prod.snd (Prod.snd y_2))))))
 (k_ (.inl (IntKind.wrap IntKind.i64 (t38 + (1:Int))))))
 (k_ (.inr (.inr t38)))
def code_Decode.c100010s:Shape:=⟨[(0,tb0),(1,tb36),(2,tb2),(4,tb4),(5,tb39),(6,tb73),(7,tb17),(8,tb27),(36,tb36),(37,tb5),(38,tb5)],[(2,tb3),(5,tb19),(8,tb19)]⟩
def code_Decode.c100010x0:Shape:=code_Decode.c100010s
def code_Decode.c100010x1:Shape:=code_Decode.c100010s
def code_Decode.c100010r:Ck:=Ck.ofLoop (S:=Int) (T:=((List UInt8)×Int×Int×Int) ⊕ Int) code_Decode.c100010s (fun x_=>x_.2.2.2.2.2.2.1) (fun ρ x_ s_ k_=>code_Decode.c100010 x_.2.2.2.2.1 x_.2.2.2.2.2.1 s_ k_) (fun ρ x_ r_ k_=>sel r_ (fun r_=>k_ 1 (Shape.inj code_Decode.c100010x0 (x_.1,x_.2.1,r_.1,x_.2.2.2.1,x_.2.2.2.2.1,x_.2.2.2.2.2.1,r_.2.1,x_.2.2.2.2.2.2.2.1,x_.2.2.2.2.2.2.2.2.1,r_.2.2.1,r_.2.2.2,x_.2.2.2.2.2.2.2.2.2.2.2))) (fun r_=>k_ 2 (Shape.inj code_Decode.c100010x1 (x_.1,x_.2.1,x_.2.2.1,x_.2.2.2.1,x_.2.2.2.2.1,x_.2.2.2.2.2.1,r_,x_.2.2.2.2.2.2.2))))
def code_Decode.c15 {ρ:Type} (syndrome:List Int) (l:List (Int×(Int×(Bool)))) (c0:Int) (c1:List (List UInt8)) (k_:List UInt8 → Option ρ):Option ρ :=
 bnd (W.code_least (c0,c1) l) fun y =>
 bnd (W.code_number syndrome) fun y_1 =>
 bnd (idx y y_1) fun y_2 =>
 bnd (W.tableau_pauli_Text y_2 c0) fun y_3 =>
 k_ y_3
def code_Decode.c15s:Shape:=code_Decode.c100010s
def code_Decode.c15x0:Shape:=code_Decode.c100010s
def code_Decode.c15r:Ck:=Ck.of (T:=List UInt8) code_Decode.c15s (fun ρ x_ k_=>code_Decode.c15 x_.2.1 x_.2.2.2.1 x_.2.2.2.2.2.2.2.1 x_.2.2.2.2.2.2.2.2.1 k_) (fun ρ x_ r_ k_=>k_ 0 (Shape.inj code_Decode.c15x0 (x_.1,x_.2.1,r_,x_.2.2.2.1,x_.2.2.2.2.1,x_.2.2.2.2.2.1,x_.2.2.2.2.2.2.1,x_.2.2.2.2.2.2.2.1,x_.2.2.2.2.2.2.2.2.1,x_.2.2.2.2.2.2.2.2.2.2.2.1,x_.2.2.2.2.2.2.2.2.2.2.2.2.1,x_.2.2.2.2.2.2.2.2.2.2.2)))
def code_Decode (c:Int×(List (List UInt8))) (syndrome:List Int):Option ((List UInt8)×(Int×Int)) :=
 bnd (W.code_read (Prod.fst c,Prod.snd c)) fun y =>
 br (Prod.fst (Prod.snd y) != (0:Int))
 (bnd (W.code_Decode.c4 some) fun y_1 =>
 some (Array.toList (ByteArray.data (ByteArray.mk #[])),Prod.fst (Prod.snd y),Prod.snd (Prod.snd y)))
 (br (decide (Prod.fst c > (9:Int)))
 (bnd (W.code_Decode_1 (21:Int) (0:Int)) fun y_2 =>
 some (Prod.fst y_2,Prod.fst (Prod.snd y_2),Prod.snd (Prod.snd y_2)))
 (br ((↑(List.length syndrome):Int) != (↑(List.length (Prod.fst y)):Int))
 (bnd (W.code_Decode_1 (25:Int) (0:Int)) fun y_3 =>
 some (Prod.fst y_3,Prod.fst (Prod.snd y_3),Prod.snd (Prod.snd y_3)))
 (bnd (iter (fun s ↦ W.code_Decode.c100010 syndrome (↑(List.length syndrome):Int) s some) (0:Int)) fun y_4 =>
 sel y_4
 (fun u=>some (Prod.fst u,Prod.fst (Prod.snd (Prod.snd u)),Prod.snd (Prod.snd (Prod.snd u))))
 (fun v=>bnd (W.code_Decode.c15 syndrome (Prod.fst y) (Prod.fst c) (Prod.snd c) some) fun y_5 =>
 some (y_5,Prod.fst (Prod.snd y),Prod.snd (Prod.snd y))))))
def code_Decode.ce:Go.Ql.Callee:=⟨[(.st (.pair (.int .i64) (.sl .str))),(.sl (.int .i64))],[.str,(.st (.pair (.int .i64) (.int .i64)))],fun x_=>code_Decode x_.1 x_.2⟩
def code_Decode.G:Env:=⟨66,tab,[(70,code_read.ce),(113,code_least.ce),(114,code_number.ce),(115,tableau_pauli_Text.ce),(112,code_Decode_1.ce)],[0,1,2,4,5,6,7,8,9,10,18,22,31,36,37,38,39,48],[],[(15,[⟨[],[],[56,58,62,63,65],[]⟩,⟨[],[],[55,58,62,63,65],[]⟩,⟨[0,1],[],[58,62,63,65],[]⟩,⟨[],[],[55,56,57,62,63,65],[]⟩,⟨[3,2,0,1],[],[62,63,65],[]⟩,⟨[2,0,1,4,3],[],[62,63,65],[]⟩,⟨[5,2,0,1,4,3],[],[62,63,65],[]⟩,⟨[],[],[55,56,57,58,59,60,61,65],[]⟩,⟨[7],[],[55,56,57,58,59,60,61,65],[]⟩,⟨[6,5,2,0,1,4,3,8,7],[],[65],[]⟩,⟨[],[],[55,56,57,58,59,60,61,62,63,64,4],[]⟩,⟨[9,6,5,2,0,1,4,3,8,7],[],[65],[]⟩,⟨[10,11,9,6,5,2,0,1,4,3,8,7],[5],[],[]⟩]),
 (4,[⟨[],[],[4],[]⟩,⟨[],[],[19],[]⟩,⟨[0,1],[5],[],[]⟩])],[(15,code_Decode.c15r),(100010,code_Decode.c100010r),(12,code_Decode.c12r),(4,code_Decode.c4r)],[],tab_eqs⟩
theorem code_Decode.eq (x_:dens code_Decode.ce.params):den code_Decode.G Try.f76 code_Decode.ce.params code_Decode.ce.res x_ = code_Decode.ce.F x_:=by kernel_rfl
theorem code_Decode.p0:PcA code_Decode.G Try.f76 0 :=
 region_ok (s:=code_Decode.c4r) (by kernel_rfl) (by kernel_rfl) (sums_of (sh:=code_Decode.c4s) (fun ρ x_ k_=>nat_leaf) (fun ρ x_ t k=>(by kernel_rfl)) (fun x_=>by kernel_rfl))
theorem code_Decode.p1:PcA code_Decode.G Try.f76 1 :=
 loop_ok (s:=code_Decode.c100010r) (by kernel_rfl) (by kernel_rfl) (loops_of (sh:=code_Decode.c100010s) (I:=fun x_ s_=>(x_.1,x_.2.1,x_.2.2.1,x_.2.2.2.1,x_.2.2.2.2.1,x_.2.2.2.2.2.1,s_,x_.2.2.2.2.2.2.2)) (fun x_=>rfl) (fun ρ x_ s_ k_=>(nat_br (nat_bnd fun _=>(nat_bnd fun _=>(nat_br (nat_bnd fun _=>nat_leaf) nat_leaf))) nat_leaf)) (fun ρ x_ t k=>(nat_sel (fun _=>(by kernel_rfl)) (fun _=>(by kernel_rfl)))) (fun x_ s=>by kernel_rfl))
theorem code_Decode.p2:PcA code_Decode.G Try.f76 2 :=
 region_ok (s:=code_Decode.c12r) (by kernel_rfl) (by kernel_rfl) (sums_of (sh:=code_Decode.c12s) (fun ρ x_ k_=>(nat_br nat_leaf nat_leaf)) (fun ρ x_ t k=>(by kernel_rfl)) (fun x_=>by kernel_rfl))
theorem code_Decode.p3:PcA code_Decode.G Try.f76 3 :=
 region_ok (s:=code_Decode.c15r) (by kernel_rfl) (by kernel_rfl) (sums_of (sh:=code_Decode.c15s) (fun ρ x_ k_=>(nat_bnd fun _=>(nat_bnd fun _=>(nat_bnd fun _=>(nat_bnd fun _=>nat_leaf))))) (fun ρ x_ t k=>(by kernel_rfl)) (fun x_=>by kernel_rfl))
theorem code_Decode.ok:CalleeOk Try.prog 76 code_Decode.ce:=fn_ok (G:=code_Decode.G) tab_ok mixed Try.func76 ⟨(fns_cons code_read.ok (fns_cons code_least.ok (fns_cons code_number.ok (fns_cons tableau_pauli_Text.ok (fns_cons code_Decode_1.ok fns_nil))))),mfns_nil,tab_eqs_ok⟩ (m:=4) (by kernel_rfl) ⟨⟨⟨⟨trivial,code_Decode.p0⟩,code_Decode.p1⟩,code_Decode.p2⟩,code_Decode.p3⟩ (by kernel_rfl) code_Decode.eq
def R_SameInts.c6 {ρ:Type} (a:List Int) (b:List Int) (i:Int) (k_:Bool → Option ρ):Option ρ :=
 bnd (idx a i) fun y =>
 bnd (idx b i) fun y_1 =>
 k_ (y != y_1)
def R_SameInts.c6s:Shape:=⟨[(0,tb36),(1,tb36),(4,tb7),(5,tb5)],[]⟩
def R_SameInts.c6x0:Shape:=⟨[(0,tb36),(1,tb36),(4,tb7),(5,tb5),(25,tb7)],[]⟩
def R_SameInts.c6r:Ck:=Ck.of (T:=Bool) R_SameInts.c6s (fun ρ x_ k_=>R_SameInts.c6 x_.1 x_.2.1 x_.2.2.2.1 k_) (fun ρ x_ r_ k_=>k_ 0 (Shape.inj R_SameInts.c6x0 (x_.1,x_.2.1,x_.2.2.1,x_.2.2.2.1,r_,())))
def R_SameInts.c100004 {ρ:Type} (a:List Int) (b:List Int) (i:Int) (k_:Int ⊕ (Int ⊕ Int) → Option ρ):Option ρ :=
 br (decide (i < (↑(List.length a):Int)))
 (bnd (W.R_SameInts.c6 a b i some) fun y =>
 br y
 (k_ (.inr (.inl i)))
 (k_ (.inl (IntKind.wrap IntKind.i64 (i + (1:Int))))))
 (k_ (.inr (.inr i)))
def R_SameInts.c100004s:Shape:=R_SameInts.c6s
def R_SameInts.c100004x0:Shape:=R_SameInts.c6s
def R_SameInts.c100004x1:Shape:=R_SameInts.c6s
def R_SameInts.c100004r:Ck:=Ck.ofLoop (S:=Int) (T:=Int ⊕ Int) R_SameInts.c100004s (fun x_=>x_.2.2.2.1) (fun ρ x_ s_ k_=>R_SameInts.c100004 x_.1 x_.2.1 s_ k_) (fun ρ x_ r_ k_=>sel r_ (fun r_=>k_ 1 (Shape.inj R_SameInts.c100004x0 (x_.1,x_.2.1,false,r_,()))) (fun r_=>k_ 2 (Shape.inj R_SameInts.c100004x1 (x_.1,x_.2.1,x_.2.2.1,r_,()))))
def R_SameInts (a:List Int) (b:List Int):Option (Bool) :=
 br ((↑(List.length a):Int) != (↑(List.length b):Int))
 (some false)
 (bnd (iter (fun s ↦ W.R_SameInts.c100004 a b s some) (0:Int)) fun y =>
 sel y
 (fun u=>some false)
 (fun v=>some true))
def R_SameInts.ce:Go.Ql.Callee:=⟨[(.sl (.int .i64)),(.sl (.int .i64))],[.bool],fun x_=>R_SameInts x_.1 x_.2⟩
def R_SameInts.G:Env:=⟨26,tab,[],[0,1,4,5,10,14,25],[],[(6,[⟨[],[],[18,21,22,23,24],[]⟩,⟨[],[],[17,21,22,23,24],[]⟩,⟨[0,1],[],[21,22,23,24],[]⟩,⟨[2,0,1],[],[21,22,23,24],[]⟩,⟨[],[],[17,18,19,20,22],[]⟩,⟨[],[],[17,18,19,20,21],[]⟩,⟨[4,5],[],[17,18,19,20],[]⟩,⟨[6,4,5],[],[17,18,19,20],[]⟩,⟨[3,2,0,1,7,6,4,5],[],[],[]⟩])],[(100004,R_SameInts.c100004r),(6,R_SameInts.c6r)],[],tab_eqs⟩
theorem R_SameInts.eq (x_:dens R_SameInts.ce.params):den R_SameInts.G Try.f12 R_SameInts.ce.params R_SameInts.ce.res x_ = R_SameInts.ce.F x_:=by kernel_rfl
theorem R_SameInts.p0:PcA R_SameInts.G Try.f12 0 :=
 loop_ok (s:=R_SameInts.c100004r) (by kernel_rfl) (by kernel_rfl) (loops_of (sh:=R_SameInts.c100004s) (I:=fun x_ s_=>(x_.1,x_.2.1,x_.2.2.1,s_,())) (fun x_=>rfl) (fun ρ x_ s_ k_=>(nat_br (nat_bnd fun _=>(nat_br nat_leaf nat_leaf)) nat_leaf)) (fun ρ x_ t k=>(nat_sel (fun _=>(by kernel_rfl)) (fun _=>(by kernel_rfl)))) (fun x_ s=>by kernel_rfl))
theorem R_SameInts.p1:PcA R_SameInts.G Try.f12 1 :=
 region_ok (s:=R_SameInts.c6r) (by kernel_rfl) (by kernel_rfl) (sums_of (sh:=R_SameInts.c6s) (fun ρ x_ k_=>(nat_bnd fun _=>(nat_bnd fun _=>nat_leaf))) (fun ρ x_ t k=>(by kernel_rfl)) (fun x_=>by kernel_rfl))
theorem R_SameInts.ok:CalleeOk Try.prog 12 R_SameInts.ce:=fn_ok (G:=R_SameInts.G) tab_ok mixed Try.func12 ⟨fns_nil,mfns_nil,tab_eqs_ok⟩ (m:=2) (by kernel_rfl) ⟨⟨trivial,R_SameInts.p0⟩,R_SameInts.p1⟩ (by kernel_rfl) R_SameInts.eq
def Law_codeBegun.c4 {ρ:Type} (s:List Int) (e:List UInt8) (f0:Int) (g0:Int) (k_:Bool → Option ρ):Option ρ :=
 br (f0 == (0:Int))
 (br (g0 == (0:Int))
 (bnd (W.R_SameInts s [(1:Int),(0:Int)]) fun y =>
 br y
 (k_ (e == Array.toList (ByteArray.data (ByteArray.mk #[(43:UInt8),(88:UInt8),(73:UInt8),(73:UInt8)]))))
 (k_ false))
 (k_ false))
 (k_ false)
def Law_codeBegun.c4s:Shape:=⟨[(0,tb7),(1,tb1),(2,tb36),(3,tb12),(4,tb4),(5,tb39)],[(1,tb3),(3,tb19),(5,tb19)]⟩
def Law_codeBegun.c4x0:Shape:=Law_codeBegun.c4s
def Law_codeBegun.c4r:Ck:=Ck.of (T:=Bool) Law_codeBegun.c4s (fun ρ x_ k_=>Law_codeBegun.c4 x_.2.1 x_.2.2.1 x_.2.2.2.2.2.1 x_.2.2.2.2.2.2.2.1 k_) (fun ρ x_ r_ k_=>k_ 0 (Shape.inj Law_codeBegun.c4x0 (r_,x_.2)))
def Law_codeBegun :Option (Bool) :=
 bnd (W.code_Syndrome ((3:Int),[Array.toList (ByteArray.data (ByteArray.mk #[(43:UInt8),(90:UInt8),(90:UInt8),(73:UInt8)])),Array.toList (ByteArray.data (ByteArray.mk #[(43:UInt8),(73:UInt8),(90:UInt8),(90:UInt8)]))]) (Array.toList (ByteArray.data (ByteArray.mk #[(43:UInt8),(88:UInt8),(73:UInt8),(73:UInt8)])))) fun y =>
 bnd (W.code_Decode ((3:Int),[Array.toList (ByteArray.data (ByteArray.mk #[(43:UInt8),(90:UInt8),(90:UInt8),(73:UInt8)])),Array.toList (ByteArray.data (ByteArray.mk #[(43:UInt8),(73:UInt8),(90:UInt8),(90:UInt8)]))]) (Prod.fst y)) fun y_1 =>
 bnd (W.Law_codeBegun.c4 (Prod.fst y) (Prod.fst y_1) (Prod.fst (Prod.snd y)) (Prod.fst (Prod.snd y_1)) some) fun y_2 =>
 some y_2
def Law_codeBegun.ce:Go.Ql.Callee:=⟨[],[.bool],fun x_=>Law_codeBegun⟩
def Law_codeBegun.G:Env:=⟨36,tab,[(75,code_Syndrome.ce),(76,code_Decode.ce),(12,R_SameInts.ce)],[0,1,2,3,4,5],[],[],[(4,Law_codeBegun.c4r)],[],tab_eqs⟩
theorem Law_codeBegun.eq (x_:dens Law_codeBegun.ce.params):den Law_codeBegun.G Try.f30 Law_codeBegun.ce.params Law_codeBegun.ce.res x_ = Law_codeBegun.ce.F x_:=by kernel_rfl
theorem Law_codeBegun.p0:PcA Law_codeBegun.G Try.f30 0 :=
 region_ok (s:=Law_codeBegun.c4r) (by kernel_rfl) (by kernel_rfl) (sums_of (sh:=Law_codeBegun.c4s) (fun ρ x_ k_=>(nat_br (nat_br (nat_bnd fun _=>(nat_br nat_leaf nat_leaf)) nat_leaf) nat_leaf)) (fun ρ x_ t k=>(by kernel_rfl)) (fun x_=>by kernel_rfl))
theorem Law_codeBegun.ok:CalleeOk Try.prog 30 Law_codeBegun.ce:=fn_ok (G:=Law_codeBegun.G) tab_ok mixed Try.func30 ⟨(fns_cons code_Syndrome.ok (fns_cons code_Decode.ok (fns_cons R_SameInts.ok fns_nil))),mfns_nil,tab_eqs_ok⟩ (m:=1) (by kernel_rfl) ⟨trivial,Law_codeBegun.p0⟩ (by kernel_rfl) Law_codeBegun.eq
def R_SameCircuit.c1 {ρ:Type} (a0:Int) (a1:Int) (a2:List (Int×(Int×((List Int)×(Int×(Int×(List Int))))))) (b0:Int) (b1:Int) (b2:List (Int×(Int×((List Int)×(Int×(Int×(List Int))))))) (k_:Bool → Option ρ):Option ρ :=
 br (a0 != b0)
 (k_ true)
 (br (a1 != b1)
 (k_ true)
 (k_ ((↑(List.length a2):Int) != (↑(List.length b2):Int))))
def R_SameCircuit.c1s:Shape:=⟨[(0,tb38),(1,tb38),(2,tb2),(3,tb12),(4,tb7)],[(2,tb34),(3,tb34)]⟩
def R_SameCircuit.c1x0:Shape:=⟨[(0,tb38),(1,tb38),(2,tb2),(3,tb12),(4,tb7),(28,tb7)],[(2,tb34),(3,tb34)]⟩
def R_SameCircuit.c1r:Ck:=Ck.of (T:=Bool) R_SameCircuit.c1s (fun ρ x_ k_=>R_SameCircuit.c1 x_.2.2.2.1 x_.2.2.2.2.1 x_.2.2.2.2.2.1 x_.2.2.2.2.2.2.1 x_.2.2.2.2.2.2.2.1 x_.2.2.2.2.2.2.2.2.1 k_) (fun ρ x_ r_ k_=>k_ 0 (Shape.inj R_SameCircuit.c1x0 (x_.1,x_.2.1,x_.2.2.1,r_,x_.2.2.2)))
def R_SameCircuit.c8 {ρ:Type} (x0:Int) (x1:Int) (x2:List Int) (x3:Int) (x4:Int) (x5:List Int) (y0:Int) (y1:Int) (y2:List Int) (y3:Int) (y4:Int) (y5:List Int) (k_:Bool → Option ρ):Option ρ :=
 br (x0 != y0)
 (k_ true)
 (br (x1 != y1)
 (k_ true)
 (br (x3 != y3)
 (k_ true)
 (br (x4 != y4)
 (k_ true)
 (bnd (W.R_SameInts x2 y2) fun y =>
 br (!y)
 (k_ true)
 (bnd (W.R_SameInts x5 y5) fun y_1 =>
 k_ (!y_1))))))
def R_SameCircuit.c8s:Shape:=⟨[(0,tb38),(1,tb38),(2,tb2),(3,tb12),(4,tb7),(5,tb5),(6,tb8),(7,tb42)],[(2,tb34),(3,tb34),(6,tb26),(7,tb26)]⟩
def R_SameCircuit.c8x0:Shape:=⟨[(0,tb38),(1,tb38),(2,tb2),(3,tb12),(4,tb7),(5,tb5),(6,tb8),(7,tb42),(87,tb7)],[(2,tb34),(3,tb34),(6,tb26),(7,tb26)]⟩
def R_SameCircuit.c8r:Ck:=Ck.of (T:=Bool) R_SameCircuit.c8s (fun ρ x_ k_=>R_SameCircuit.c8 x_.2.2.2.2.2.2.2.2.2.2.1 x_.2.2.2.2.2.2.2.2.2.2.2.1 x_.2.2.2.2.2.2.2.2.2.2.2.2.1 x_.2.2.2.2.2.2.2.2.2.2.2.2.2.1 x_.2.2.2.2.2.2.2.2.2.2.2.2.2.2.1 x_.2.2.2.2.2.2.2.2.2.2.2.2.2.2.2.1 x_.2.2.2.2.2.2.2.2.2.2.2.2.2.2.2.2.1 x_.2.2.2.2.2.2.2.2.2.2.2.2.2.2.2.2.2.1 x_.2.2.2.2.2.2.2.2.2.2.2.2.2.2.2.2.2.2.1 x_.2.2.2.2.2.2.2.2.2.2.2.2.2.2.2.2.2.2.2.1 x_.2.2.2.2.2.2.2.2.2.2.2.2.2.2.2.2.2.2.2.2.1 x_.2.2.2.2.2.2.2.2.2.2.2.2.2.2.2.2.2.2.2.2.2.1 k_) (fun ρ x_ r_ k_=>k_ 0 (Shape.inj R_SameCircuit.c8x0 (x_.1,x_.2.1,x_.2.2.1,x_.2.2.2.1,r_,x_.2.2.2.2)))
def R_SameCircuit.c100004 {ρ:Type} (i:Int) (a2:List (Int×(Int×((List Int)×(Int×(Int×(List Int))))))) (b2:List (Int×(Int×((List Int)×(Int×(Int×(List Int))))))) (k_:Int ⊕ (Int ⊕ Int) → Option ρ):Option ρ :=
 br (decide (i < (↑(List.length a2):Int)))
 (bnd (idx a2 i) fun y =>
 bnd (idx b2 i) fun y_1 =>
 bnd (W.R_SameCircuit.c8 (Prod.fst y) (Prod.fst (Prod.snd y)) (Prod.fst (Prod.snd (Prod.snd y))) (Prod.fst (Prod.snd (Prod.snd (Prod.snd y)))) (Prod.fst (Prod.snd (Prod.snd (Prod.snd (Prod.snd y))))) (Prod.snd (Prod.snd (Prod.snd (Prod.snd (Prod.snd y))))) (Prod.fst y_1) (Prod.fst (Prod.snd y_1)) (Prod.fst (Prod.snd (Prod.snd y_1))) (Prod.fst (Prod.snd (Prod.snd (Prod.snd y_1)))) (Prod.fst (Prod.snd (Prod.snd (Prod.snd (Prod.snd y_1))))) (Prod.snd (Prod.snd (Prod.snd (Prod.snd (Prod.snd y_1))))) some) fun y_2 =>
 br y_2
 (k_ (.inr (.inl i)))
 (k_ (.inl (IntKind.wrap IntKind.i64 (i + (1:Int))))))
 (k_ (.inr (.inr i)))
def R_SameCircuit.c100004s:Shape:=⟨[(0,tb38),(1,tb38),(2,tb2),(3,tb12),(4,tb7),(5,tb5)],[(2,tb34),(3,tb34)]⟩
def R_SameCircuit.c100004x0:Shape:=R_SameCircuit.c100004s
def R_SameCircuit.c100004x1:Shape:=R_SameCircuit.c100004s
def R_SameCircuit.c100004r:Ck:=Ck.ofLoop (S:=Int) (T:=Int ⊕ Int) R_SameCircuit.c100004s (fun x_=>x_.2.2.2.1) (fun ρ x_ s_ k_=>R_SameCircuit.c100004 s_ x_.2.2.2.2.2.2.1 x_.2.2.2.2.2.2.2.2.2.1 k_) (fun ρ x_ r_ k_=>sel r_ (fun r_=>k_ 1 (Shape.inj R_SameCircuit.c100004x0 (x_.1,x_.2.1,false,r_,x_.2.2.2.2))) (fun r_=>k_ 2 (Shape.inj R_SameCircuit.c100004x1 (x_.1,x_.2.1,x_.2.2.1,r_,x_.2.2.2.2))))
def R_SameCircuit (a:Int×(Int×(List (Int×(Int×((List Int)×(Int×(Int×(List Int))))))))) (b:Int×(Int×(List (Int×(Int×((List Int)×(Int×(Int×(List Int))))))))):Option (Bool) :=
 bnd (W.R_SameCircuit.c1 (Prod.fst a) (Prod.fst (Prod.snd a)) (Prod.snd (Prod.snd a)) (Prod.fst b) (Prod.fst (Prod.snd b)) (Prod.snd (Prod.snd b)) some) fun y =>
 br y
 (some false)
 (bnd (iter (fun s ↦ W.R_SameCircuit.c100004 s (Prod.snd (Prod.snd a)) (Prod.snd (Prod.snd b)) some) (0:Int)) fun y_1 =>
 sel y_1
 (fun u=>some false)
 (fun v=>some true))
def R_SameCircuit.ce:Go.Ql.Callee:=⟨[(.st (.pair (.int .i64) (.pair (.int .i64) (.sl (.st (.pair (.int .i64) (.pair (.int .i64) (.pair (.sl (.int .i64)) (.pair (.int .i64) (.pair (.int .i64) (.sl (.int .i64)))))))))))),(.st (.pair (.int .i64) (.pair (.int .i64) (.sl (.st (.pair (.int .i64) (.pair (.int .i64) (.pair (.sl (.int .i64)) (.pair (.int .i64) (.pair (.int .i64) (.sl (.int .i64))))))))))))],[.bool],fun x_=>R_SameCircuit x_.1 x_.2⟩
def R_SameCircuit.G:Env:=⟨88,tab,[(12,R_SameInts.ce)],[0,1,2,3,4,5,6,7,28,33,87],[],[],[(100004,R_SameCircuit.c100004r),(8,R_SameCircuit.c8r),(1,R_SameCircuit.c1r)],[],tab_eqs⟩
theorem R_SameCircuit.eq (x_:dens R_SameCircuit.ce.params):den R_SameCircuit.G Try.f11 R_SameCircuit.ce.params R_SameCircuit.ce.res x_ = R_SameCircuit.ce.F x_:=by kernel_rfl
theorem R_SameCircuit.p0:PcA R_SameCircuit.G Try.f11 0 :=
 region_ok (s:=R_SameCircuit.c1r) (by kernel_rfl) (by kernel_rfl) (sums_of (sh:=R_SameCircuit.c1s) (fun ρ x_ k_=>(nat_br nat_leaf (nat_br nat_leaf nat_leaf))) (fun ρ x_ t k=>(by kernel_rfl)) (fun x_=>by kernel_rfl))
theorem R_SameCircuit.p1:PcA R_SameCircuit.G Try.f11 1 :=
 loop_ok (s:=R_SameCircuit.c100004r) (by kernel_rfl) (by kernel_rfl) (loops_of (sh:=R_SameCircuit.c100004s) (I:=fun x_ s_=>(x_.1,x_.2.1,x_.2.2.1,s_,x_.2.2.2.2)) (fun x_=>rfl) (fun ρ x_ s_ k_=>(nat_br (nat_bnd fun _=>(nat_bnd fun _=>(nat_bnd fun _=>(nat_br nat_leaf nat_leaf)))) nat_leaf)) (fun ρ x_ t k=>(nat_sel (fun _=>(by kernel_rfl)) (fun _=>(by kernel_rfl)))) (fun x_ s=>by kernel_rfl))
theorem R_SameCircuit.p2:PcA R_SameCircuit.G Try.f11 2 :=
 region_ok (s:=R_SameCircuit.c8r) (by kernel_rfl) (by kernel_rfl) (sums_of (sh:=R_SameCircuit.c8s) (fun ρ x_ k_=>(nat_br nat_leaf (nat_br nat_leaf (nat_br nat_leaf (nat_br nat_leaf (nat_bnd fun _=>(nat_br nat_leaf (nat_bnd fun _=>nat_leaf)))))))) (fun ρ x_ t k=>(by kernel_rfl)) (fun x_=>by kernel_rfl))
theorem R_SameCircuit.ok:CalleeOk Try.prog 11 R_SameCircuit.ce:=fn_ok (G:=R_SameCircuit.G) tab_ok mixed Try.func11 ⟨(fns_cons R_SameInts.ok fns_nil),mfns_nil,tab_eqs_ok⟩ (m:=3) (by kernel_rfl) ⟨⟨⟨trivial,R_SameCircuit.p0⟩,R_SameCircuit.p1⟩,R_SameCircuit.p2⟩ (by kernel_rfl) R_SameCircuit.eq
def R_member.c100002 {ρ:Type} (l:List Int) (x:Int) (i:Int) (k_:Int ⊕ (Int ⊕ Int) → Option ρ):Option ρ :=
 br (decide (i < (↑(List.length l):Int)))
 (bnd (idx l i) fun y =>
 br (y == x)
 (k_ (.inr (.inl i)))
 (k_ (.inl (IntKind.wrap IntKind.i64 (i + (1:Int))))))
 (k_ (.inr (.inr i)))
def R_member.c100002s:Shape:=⟨[(0,tb36),(1,tb5),(4,tb7),(5,tb5)],[]⟩
def R_member.c100002x0:Shape:=R_member.c100002s
def R_member.c100002x1:Shape:=R_member.c100002s
def R_member.c100002r:Ck:=Ck.ofLoop (S:=Int) (T:=Int ⊕ Int) R_member.c100002s (fun x_=>x_.2.2.2.1) (fun ρ x_ s_ k_=>R_member.c100002 x_.1 x_.2.1 s_ k_) (fun ρ x_ r_ k_=>sel r_ (fun r_=>k_ 1 (Shape.inj R_member.c100002x0 (x_.1,x_.2.1,true,r_,()))) (fun r_=>k_ 2 (Shape.inj R_member.c100002x1 (x_.1,x_.2.1,x_.2.2.1,r_,()))))
def R_member (l:List Int) (x:Int):Option (Bool) :=
 bnd (iter (fun s ↦ W.R_member.c100002 l x s some) (0:Int)) fun y =>
 sel y
 (fun u=>some true)
 (fun v=>some false)
def R_member.ce:Go.Ql.Callee:=⟨[(.sl (.int .i64)),(.int .i64)],[.bool],fun x_=>R_member x_.1 x_.2⟩
def R_member.G:Env:=⟨18,tab,[],[0,1,4,5,9,17],[],[],[(100002,R_member.c100002r)],[],tab_eqs⟩
theorem R_member.eq (x_:dens R_member.ce.params):den R_member.G Try.f89 R_member.ce.params R_member.ce.res x_ = R_member.ce.F x_:=by kernel_rfl
theorem R_member.p0:PcA R_member.G Try.f89 0 :=
 loop_ok (s:=R_member.c100002r) (by kernel_rfl) (by kernel_rfl) (loops_of (sh:=R_member.c100002s) (I:=fun x_ s_=>(x_.1,x_.2.1,x_.2.2.1,s_,())) (fun x_=>rfl) (fun ρ x_ s_ k_=>(nat_br (nat_bnd fun _=>(nat_br nat_leaf nat_leaf)) nat_leaf)) (fun ρ x_ t k=>(nat_sel (fun _=>(by kernel_rfl)) (fun _=>(by kernel_rfl)))) (fun x_ s=>by kernel_rfl))
theorem R_member.ok:CalleeOk Try.prog 89 R_member.ce:=fn_ok (G:=R_member.G) tab_ok mixed Try.func89 ⟨fns_nil,mfns_nil,tab_eqs_ok⟩ (m:=1) (by kernel_rfl) ⟨trivial,R_member.p0⟩ (by kernel_rfl) R_member.eq
def R_badOp.c1 {ρ:Type} (o0:Int) (k_:Bool → Option ρ):Option ρ :=
 br (decide (o0 < (1:Int)))
 (k_ true)
 (k_ (decide (o0 > (6:Int))))
def R_badOp.c1s:Shape:=⟨[(0,tb25),(1,tb5),(2,tb5),(3,tb12),(6,tb5)],[(3,tb26)]⟩
def R_badOp.c1x0:Shape:=⟨[(0,tb25),(1,tb5),(2,tb5),(3,tb12),(6,tb5),(17,tb7)],[(3,tb26)]⟩
def R_badOp.c1r:Ck:=Ck.of (T:=Bool) R_badOp.c1s (fun ρ x_ k_=>R_badOp.c1 x_.2.2.2.2.1 k_) (fun ρ x_ r_ k_=>k_ 0 (Shape.inj R_badOp.c1x0 (x_.1,x_.2.1,x_.2.2.1,x_.2.2.2.1,r_,x_.2.2.2.2)))
def R_badOp.c3 {ρ:Type} (o0:Int) (k_:Bool → Option ρ):Option ρ :=
 br (o0 == (1:Int))
 (k_ true)
 (k_ (o0 == (4:Int)))
def R_badOp.c3s:Shape:=R_badOp.c1s
def R_badOp.c3x0:Shape:=⟨[(0,tb25),(1,tb5),(2,tb5),(3,tb12),(6,tb5),(7,tb7)],[(3,tb26)]⟩
def R_badOp.c3r:Ck:=Ck.of (T:=Bool) R_badOp.c3s (fun ρ x_ k_=>R_badOp.c3 x_.2.2.2.2.1 k_) (fun ρ x_ r_ k_=>k_ 0 (Shape.inj R_badOp.c3x0 (x_.1,x_.2.1,x_.2.2.1,x_.2.2.2.1,r_,x_.2.2.2.2)))
def R_badOp.c4 {ρ:Type} (angle:Bool) (o1:Int) (k_:Bool → Option ρ):Option ρ :=
 br (decide (o1 < (0:Int)))
 (k_ true)
 (br (decide (o1 > (15:Int)))
 (k_ true)
 (br (decide (o1 > (0:Int)))
 (k_ (!angle))
 (k_ false)))
def R_badOp.c4s:Shape:=R_badOp.c3x0
def R_badOp.c4x0:Shape:=⟨[(0,tb25),(1,tb5),(2,tb5),(3,tb12),(6,tb5),(7,tb7),(42,tb7)],[(3,tb26)]⟩
def R_badOp.c4r:Ck:=Ck.of (T:=Bool) R_badOp.c4s (fun ρ x_ k_=>R_badOp.c4 x_.2.2.2.2.1 x_.2.2.2.2.2.2.1 k_) (fun ρ x_ r_ k_=>k_ 0 (Shape.inj R_badOp.c4x0 (x_.1,x_.2.1,x_.2.2.1,x_.2.2.2.1,x_.2.2.2.2.1,r_,x_.2.2.2.2.2)))
def R_badOp.c6 {ρ:Type} (qubits:Int) (o0:Int) (o3:Int) (k_:Bool → Option ρ):Option ρ :=
 br (decide (o3 < (0:Int)))
 (k_ true)
 (br (decide (o3 ≥ qubits))
 (k_ true)
 (br (o0 == (1:Int))
 (k_ (decide (o3 > (0:Int))))
 (k_ false)))
def R_badOp.c6s:Shape:=R_badOp.c3x0
def R_badOp.c6x0:Shape:=⟨[(0,tb25),(1,tb5),(2,tb5),(3,tb12),(6,tb5),(7,tb7),(61,tb7)],[(3,tb26)]⟩
def R_badOp.c6r:Ck:=Ck.of (T:=Bool) R_badOp.c6s (fun ρ x_ k_=>R_badOp.c6 x_.2.1 x_.2.2.2.2.2.1 x_.2.2.2.2.2.2.2.2.1 k_) (fun ρ x_ r_ k_=>k_ 0 (Shape.inj R_badOp.c6x0 (x_.1,x_.2.1,x_.2.2.1,x_.2.2.2.1,x_.2.2.2.2.1,r_,x_.2.2.2.2.2)))
def R_badOp.c8 {ρ:Type} (o0:Int) (o2:List Int) (k_:Bool → Option ρ):Option ρ :=
 br (decide ((↑(List.length o2):Int) > (0:Int)))
 (br (o0 != (2:Int))
 (br (o0 != (3:Int))
 (k_ (o0 != (4:Int)))
 (k_ false))
 (k_ false))
 (k_ false)
def R_badOp.c8s:Shape:=R_badOp.c3x0
def R_badOp.c8x0:Shape:=⟨[(0,tb25),(1,tb5),(2,tb5),(3,tb12),(6,tb5),(7,tb7),(80,tb7)],[(3,tb26)]⟩
def R_badOp.c8r:Ck:=Ck.of (T:=Bool) R_badOp.c8s (fun ρ x_ k_=>R_badOp.c8 x_.2.2.2.2.2.1 x_.2.2.2.2.2.2.2.1 k_) (fun ρ x_ r_ k_=>k_ 0 (Shape.inj R_badOp.c8x0 (x_.1,x_.2.1,x_.2.2.1,x_.2.2.2.1,x_.2.2.2.2.1,r_,x_.2.2.2.2.2)))
def R_badOp.c13 {ρ:Type} (qubits:Int) (i:Int) (o2:List Int) (k_:Bool → Option ρ):Option ρ :=
 bnd (idx o2 i) fun y =>
 br (decide (y < (0:Int)))
 (k_ true)
 (bnd (idx o2 i) fun y_1 =>
 k_ (decide (y_1 ≥ qubits)))
def R_badOp.c13s:Shape:=⟨[(0,tb25),(1,tb5),(2,tb5),(3,tb12),(6,tb5),(7,tb7),(8,tb5)],[(3,tb26)]⟩
def R_badOp.c13x0:Shape:=⟨[(0,tb25),(1,tb5),(2,tb5),(3,tb12),(6,tb5),(7,tb7),(8,tb5),(102,tb7)],[(3,tb26)]⟩
def R_badOp.c13r:Ck:=Ck.of (T:=Bool) R_badOp.c13s (fun ρ x_ k_=>R_badOp.c13 x_.2.1 x_.2.2.2.2.2.1 x_.2.2.2.2.2.2.2.2.1 k_) (fun ρ x_ r_ k_=>k_ 0 (Shape.inj R_badOp.c13x0 (x_.1,x_.2.1,x_.2.2.1,x_.2.2.2.1,x_.2.2.2.2.1,x_.2.2.2.2.2.1,r_,x_.2.2.2.2.2.2)))
def R_badOp.c15 {ρ:Type} (i:Int) (o2:List Int) (o3:Int) (k_:Bool → Option ρ):Option ρ :=
 bnd (idx o2 i) fun y =>
 br (y == o3)
 (k_ true)
 (bnd (okIf (decide ((0:Int) ≤ i) && decide (i ≤ (↑(List.length o2):Int)))) fun y_1 =>
 bnd (idx o2 i) fun y_2 =>
 bnd (W.R_member (List.take (Int.toNat i) o2) y_2) fun y_3 =>
 k_ y_3)
def R_badOp.c15s:Shape:=R_badOp.c13s
def R_badOp.c15x0:Shape:=⟨[(0,tb25),(1,tb5),(2,tb5),(3,tb12),(6,tb5),(7,tb7),(8,tb5),(122,tb7)],[(3,tb26)]⟩
def R_badOp.c15r:Ck:=Ck.of (T:=Bool) R_badOp.c15s (fun ρ x_ k_=>R_badOp.c15 x_.2.2.2.2.2.1 x_.2.2.2.2.2.2.2.2.1 x_.2.2.2.2.2.2.2.2.2.1 k_) (fun ρ x_ r_ k_=>k_ 0 (Shape.inj R_badOp.c15x0 (x_.1,x_.2.1,x_.2.2.1,x_.2.2.2.1,x_.2.2.2.2.1,x_.2.2.2.2.2.1,r_,x_.2.2.2.2.2.2)))
def R_badOp.c100011 {ρ:Type} (qubits:Int) (i:Int) (o2:List Int) (o3:Int) (k_:Int ⊕ ((Int×Int) ⊕ Int) → Option ρ):Option ρ :=
 br (decide (i < (↑(List.length o2):Int)))
 (bnd (W.R_badOp.c13 qubits i o2 some) fun y =>
 br y
 (k_ (.inr (.inl ((10:Int),i))))
 (bnd (W.R_badOp.c15 i o2 o3 some) fun y_1 =>
 br y_1
 (k_ (.inr (.inl ((12:Int),i))))
 (k_ (.inl (IntKind.wrap IntKind.i64 (i + (1:Int)))))))
 (k_ (.inr (.inr i)))
def R_badOp.c100011s:Shape:=R_badOp.c13s
def R_badOp.c100011x0:Shape:=R_badOp.c13s
def R_badOp.c100011x1:Shape:=R_badOp.c13s
def R_badOp.c100011r:Ck:=Ck.ofLoop (S:=Int) (T:=(Int×Int) ⊕ Int) R_badOp.c100011s (fun x_=>x_.2.2.2.2.2.1) (fun ρ x_ s_ k_=>R_badOp.c100011 x_.2.1 s_ x_.2.2.2.2.2.2.2.2.1 x_.2.2.2.2.2.2.2.2.2.1 k_) (fun ρ x_ r_ k_=>sel r_ (fun r_=>k_ 1 (Shape.inj R_badOp.c100011x0 (x_.1,x_.2.1,x_.2.2.1,r_.1,x_.2.2.2.2.1,r_.2,x_.2.2.2.2.2.2))) (fun r_=>k_ 2 (Shape.inj R_badOp.c100011x1 (x_.1,x_.2.1,x_.2.2.1,x_.2.2.2.1,x_.2.2.2.2.1,r_,x_.2.2.2.2.2.2))))
def R_badOp.c18 {ρ:Type} (bits:Int) (o4:Int) (k_:Bool → Option ρ):Option ρ :=
 br (decide (o4 < (0:Int)))
 (k_ true)
 (k_ (decide (o4 ≥ bits)))
def R_badOp.c18s:Shape:=R_badOp.c13s
def R_badOp.c18x0:Shape:=⟨[(0,tb25),(1,tb5),(2,tb5),(3,tb12),(6,tb5),(7,tb7),(8,tb5),(134,tb7)],[(3,tb26)]⟩
def R_badOp.c18r:Ck:=Ck.of (T:=Bool) R_badOp.c18s (fun ρ x_ k_=>R_badOp.c18 x_.2.2.1 x_.2.2.2.2.2.2.2.2.2.2.1 k_) (fun ρ x_ r_ k_=>k_ 0 (Shape.inj R_badOp.c18x0 (x_.1,x_.2.1,x_.2.2.1,x_.2.2.2.1,x_.2.2.2.2.1,x_.2.2.2.2.2.1,r_,x_.2.2.2.2.2.2)))
def R_badOp.c269649 {ρ:Type} (bits:Int) (o0:Int) (o4:Int) (k_:(Unit) ⊕ (Unit) → Option ρ):Option ρ :=
 br (o0 == (5:Int))
 (bnd (W.R_badOp.c18 bits o4 some) fun y =>
 br y
 (k_ (.inl ()))
 (k_ (.inr ())))
 (br (o4 != (0:Int))
 (k_ (.inl ()))
 (k_ (.inr ())))
def R_badOp.c269649s:Shape:=R_badOp.c13s
def R_badOp.c269649x0:Shape:=R_badOp.c13s
def R_badOp.c269649x1:Shape:=R_badOp.c13s
def R_badOp.c269649r:Ck:=Ck.of (T:=(Unit) ⊕ (Unit)) R_badOp.c269649s (fun ρ x_ k_=>R_badOp.c269649 x_.2.2.1 x_.2.2.2.2.2.2.1 x_.2.2.2.2.2.2.2.2.2.2.1 k_) (fun ρ x_ r_ k_=>sel r_ (fun r_=>k_ 1 (Shape.inj R_badOp.c269649x0 (x_.1,x_.2.1,x_.2.2.1,(13:Int),x_.2.2.2.2))) (fun r_=>k_ 0 (Shape.inj R_badOp.c269649x1 x_)))
def R_badOp.c27 {ρ:Type} (bits:Int) (i_1:Int) (o5:List Int) (k_:Bool → Option ρ):Option ρ :=
 bnd (idx o5 i_1) fun y =>
 br (y == (0:Int))
 (k_ true)
 (bnd (idx o5 i_1) fun y_1 =>
 br (decide (y_1 > bits))
 (k_ true)
 (bnd (idx o5 i_1) fun y_2 =>
 k_ (decide (y_2 < IntKind.wrap IntKind.i64 ((0:Int) - bits)))))
def R_badOp.c27s:Shape:=⟨[(0,tb25),(1,tb5),(2,tb5),(3,tb12),(6,tb5),(7,tb7),(8,tb5),(9,tb5)],[(3,tb26)]⟩
def R_badOp.c27x0:Shape:=⟨[(0,tb25),(1,tb5),(2,tb5),(3,tb12),(6,tb5),(7,tb7),(8,tb5),(9,tb5),(173,tb7)],[(3,tb26)]⟩
def R_badOp.c27r:Ck:=Ck.of (T:=Bool) R_badOp.c27s (fun ρ x_ k_=>R_badOp.c27 x_.2.2.1 x_.2.2.2.2.2.2.1 x_.2.2.2.2.2.2.2.2.2.2.2.2.1 k_) (fun ρ x_ r_ k_=>k_ 0 (Shape.inj R_badOp.c27x0 (x_.1,x_.2.1,x_.2.2.1,x_.2.2.2.1,x_.2.2.2.2.1,x_.2.2.2.2.2.1,x_.2.2.2.2.2.2.1,r_,x_.2.2.2.2.2.2.2)))
def R_badOp.c100025 {ρ:Type} (bits:Int) (i_1:Int) (o5:List Int) (k_:Int ⊕ (Int ⊕ Int) → Option ρ):Option ρ :=
 br (decide (i_1 < (↑(List.length o5):Int)))
 (bnd (W.R_badOp.c27 bits i_1 o5 some) fun y =>
 br y
 (k_ (.inr (.inl i_1)))
 (k_ (.inl (IntKind.wrap IntKind.i64 (i_1 + (1:Int))))))
 (k_ (.inr (.inr i_1)))
def R_badOp.c100025s:Shape:=R_badOp.c27s
def R_badOp.c100025x0:Shape:=R_badOp.c27s
def R_badOp.c100025x1:Shape:=R_badOp.c27s
def R_badOp.c100025r:Ck:=Ck.ofLoop (S:=Int) (T:=Int ⊕ Int) R_badOp.c100025s (fun x_=>x_.2.2.2.2.2.2.1) (fun ρ x_ s_ k_=>R_badOp.c100025 x_.2.2.1 s_ x_.2.2.2.2.2.2.2.2.2.2.2.2.1 k_) (fun ρ x_ r_ k_=>sel r_ (fun r_=>k_ 1 (Shape.inj R_badOp.c100025x0 (x_.1,x_.2.1,x_.2.2.1,(14:Int),x_.2.2.2.2.1,x_.2.2.2.2.2.1,r_,x_.2.2.2.2.2.2.2))) (fun r_=>k_ 4 (Shape.inj R_badOp.c100025x1 (x_.1,x_.2.1,x_.2.2.1,x_.2.2.2.1,x_.2.2.2.2.1,x_.2.2.2.2.2.1,r_,x_.2.2.2.2.2.2.2))))
def R_badOp (o:Int×(Int×((List Int)×(Int×(Int×(List Int)))))) (qubits:Int) (bits:Int):Option Int :=
 bnd (W.R_badOp.c1 (Prod.fst o) some) fun y =>
 br y
 (some (8:Int))
 (bnd (W.R_badOp.c3 (Prod.fst o) some) fun y_1 =>
 bnd (W.R_badOp.c4 y_1 (Prod.fst (Prod.snd o)) some) fun y_2 =>
 br y_2
 (some (9:Int))
 (bnd (W.R_badOp.c6 qubits (Prod.fst o) (Prod.fst (Prod.snd (Prod.snd (Prod.snd o)))) some) fun y_3 =>
 br y_3
 (some (10:Int))
 (bnd (W.R_badOp.c8 (Prod.fst o) (Prod.fst (Prod.snd (Prod.snd o))) some) fun y_4 =>
 br y_4
 (some (11:Int))
 (bnd (iter (fun s ↦ W.R_badOp.c100011 qubits s (Prod.fst (Prod.snd (Prod.snd o))) (Prod.fst (Prod.snd (Prod.snd (Prod.snd o)))) some) (0:Int)) fun y_5 =>
 sel y_5
 (fun u=>some (Prod.fst u))
 (fun v=>bnd (W.R_badOp.c269649 bits (Prod.fst o) (Prod.fst (Prod.snd (Prod.snd (Prod.snd (Prod.snd o))))) some) fun y_6 =>
 sel y_6
 (fun u_1=>some (13:Int))
 (fun v_1=>br (decide ((↑(List.length (Prod.snd (Prod.snd (Prod.snd (Prod.snd (Prod.snd o)))))):Int) > (24:Int)))
 (some (14:Int))
 (bnd (iter (fun s ↦ W.R_badOp.c100025 bits s (Prod.snd (Prod.snd (Prod.snd (Prod.snd (Prod.snd o))))) some) (0:Int)) fun y_7 =>
 sel y_7
 (fun u_2=>some (14:Int))
 (fun v_2=>some (0:Int)))))))))
def R_badOp.ce:Go.Ql.Callee:=⟨[(.st (.pair (.int .i64) (.pair (.int .i64) (.pair (.sl (.int .i64)) (.pair (.int .i64) (.pair (.int .i64) (.sl (.int .i64)))))))),(.int .i64),(.int .i64)],[(.int .i64)],fun x_=>R_badOp x_.1 x_.2.1 x_.2.2⟩
def R_badOp.G:Env:=⟨174,tab,[(89,R_member.ce)],[0,1,2,3,6,7,8,9,17,42,61,80,85,102,122,125,134,137,141,146,173],[],[(15,[⟨[],[],[105,108,109],[]⟩,⟨[0],[],[105,108,109],[]⟩,⟨[],[],[103,104,108,109],[]⟩,⟨[1,0,2],[],[108,109],[]⟩,⟨[3,1,0,2],[],[108,109],[]⟩,⟨[],[],[103,104,105,106,107],[]⟩,⟨[5],[],[103,104,105,106,107],[]⟩,⟨[4,3,1,0,2,6,5],[],[],[]⟩,⟨[7,4,3,1,0,2,6,5],[],[],[]⟩,⟨[8,7,4,3,1,0,2,6,5],[],[114,116,117,118,119,120],[]⟩,⟨[9,8,7,4,3,1,0,2,6,5],[],[114,116,117,118,119,120],[]⟩,⟨[8,7,4,3,1,0,2,6,5],[],[112,113,116,117,118,119,120],[]⟩,⟨[10,9,8,7,4,3,1,0,2,6,5,11],[],[116,117,118,119,120],[]⟩,⟨[8,7,4,3,1,0,2,6,5],[],[112,113,114,115,118],[]⟩,⟨[13,8,7,4,3,1,0,2,6,5],[],[112,113,114,115,118],[]⟩,⟨[8,7,4,3,1,0,2,6,5],[],[112,113,114,115,116,117],[]⟩,⟨[14,13,8,7,4,3,1,0,2,6,5,15],[],[112,113,114,115],[]⟩,⟨[16,14,13,8,7,4,3,1,0,2,6,5,15],[],[112,113,114,115],[]⟩,⟨[12,10,9,8,7,4,3,1,0,2,6,5,11,17,16,14,13,15],[],[],[]⟩,⟨[8,7,4,3,1,0,2,6,5,18,12,10,9,11,17,16,14,13,15],[],[],[]⟩])],[(100025,R_badOp.c100025r),(27,R_badOp.c27r),(269649,R_badOp.c269649r),(18,R_badOp.c18r),(100011,R_badOp.c100011r),(15,R_badOp.c15r),(13,R_badOp.c13r),(8,R_badOp.c8r),(6,R_badOp.c6r),(4,R_badOp.c4r),(3,R_badOp.c3r),(1,R_badOp.c1r)],[],tab_eqs⟩
theorem R_badOp.eq (x_:dens R_badOp.ce.params):den R_badOp.G Try.f45 R_badOp.ce.params R_badOp.ce.res x_ = R_badOp.ce.F x_:=by kernel_rfl
theorem R_badOp.p0:PcA R_badOp.G Try.f45 0 :=
 region_ok (s:=R_badOp.c1r) (by kernel_rfl) (by kernel_rfl) (sums_of (sh:=R_badOp.c1s) (fun ρ x_ k_=>(nat_br nat_leaf nat_leaf)) (fun ρ x_ t k=>(by kernel_rfl)) (fun x_=>by kernel_rfl))
theorem R_badOp.p1:PcA R_badOp.G Try.f45 1 :=
 region_ok (s:=R_badOp.c3r) (by kernel_rfl) (by kernel_rfl) (sums_of (sh:=R_badOp.c3s) (fun ρ x_ k_=>(nat_br nat_leaf nat_leaf)) (fun ρ x_ t k=>(by kernel_rfl)) (fun x_=>by kernel_rfl))
theorem R_badOp.p2:PcA R_badOp.G Try.f45 2 :=
 region_ok (s:=R_badOp.c4r) (by kernel_rfl) (by kernel_rfl) (sums_of (sh:=R_badOp.c4s) (fun ρ x_ k_=>(nat_br nat_leaf (nat_br nat_leaf (nat_br nat_leaf nat_leaf)))) (fun ρ x_ t k=>(by kernel_rfl)) (fun x_=>by kernel_rfl))
theorem R_badOp.p3:PcA R_badOp.G Try.f45 3 :=
 region_ok (s:=R_badOp.c6r) (by kernel_rfl) (by kernel_rfl) (sums_of (sh:=R_badOp.c6s) (fun ρ x_ k_=>(nat_br nat_leaf (nat_br nat_leaf (nat_br nat_leaf nat_leaf)))) (fun ρ x_ t k=>(by kernel_rfl)) (fun x_=>by kernel_rfl))
theorem R_badOp.p4:PcA R_badOp.G Try.f45 4 :=
 region_ok (s:=R_badOp.c8r) (by kernel_rfl) (by kernel_rfl) (sums_of (sh:=R_badOp.c8s) (fun ρ x_ k_=>(nat_br (nat_br (nat_br nat_leaf nat_leaf) nat_leaf) nat_leaf)) (fun ρ x_ t k=>(by kernel_rfl)) (fun x_=>by kernel_rfl))
theorem R_badOp.p5:PcA R_badOp.G Try.f45 5 :=
 loop_ok (s:=R_badOp.c100011r) (by kernel_rfl) (by kernel_rfl) (loops_of (sh:=R_badOp.c100011s) (I:=fun x_ s_=>(x_.1,x_.2.1,x_.2.2.1,x_.2.2.2.1,x_.2.2.2.2.1,s_,x_.2.2.2.2.2.2)) (fun x_=>rfl) (fun ρ x_ s_ k_=>(nat_br (nat_bnd fun _=>(nat_br nat_leaf (nat_bnd fun _=>(nat_br nat_leaf nat_leaf)))) nat_leaf)) (fun ρ x_ t k=>(nat_sel (fun _=>(by kernel_rfl)) (fun _=>(by kernel_rfl)))) (fun x_ s=>by kernel_rfl))
theorem R_badOp.p6:PcA R_badOp.G Try.f45 6 :=
 region_ok (s:=R_badOp.c13r) (by kernel_rfl) (by kernel_rfl) (sums_of (sh:=R_badOp.c13s) (fun ρ x_ k_=>(nat_bnd fun _=>(nat_br nat_leaf (nat_bnd fun _=>nat_leaf)))) (fun ρ x_ t k=>(by kernel_rfl)) (fun x_=>by kernel_rfl))
theorem R_badOp.p7:PcA R_badOp.G Try.f45 7 :=
 region_ok (s:=R_badOp.c15r) (by kernel_rfl) (by kernel_rfl) (sums_of (sh:=R_badOp.c15s) (fun ρ x_ k_=>(nat_bnd fun _=>(nat_br nat_leaf (nat_bnd fun _=>(nat_bnd fun _=>(nat_bnd fun _=>nat_leaf)))))) (fun ρ x_ t k=>(by kernel_rfl)) (fun x_=>by kernel_rfl))
theorem R_badOp.p8:PcA R_badOp.G Try.f45 8 :=
 join_ok (s:=R_badOp.c269649r) (by kernel_rfl) (by kernel_rfl) (sums_of (sh:=R_badOp.c269649s) (fun ρ x_ k_=>(nat_br (nat_bnd fun _=>(nat_br nat_leaf nat_leaf)) (nat_br nat_leaf nat_leaf))) (fun ρ x_ t k=>(nat_sel (fun _=>(by kernel_rfl)) (fun _=>(by kernel_rfl)))) (fun x_=>by kernel_rfl))
theorem R_badOp.p9:PcA R_badOp.G Try.f45 9 :=
 region_ok (s:=R_badOp.c18r) (by kernel_rfl) (by kernel_rfl) (sums_of (sh:=R_badOp.c18s) (fun ρ x_ k_=>(nat_br nat_leaf nat_leaf)) (fun ρ x_ t k=>(by kernel_rfl)) (fun x_=>by kernel_rfl))
theorem R_badOp.p10:PcA R_badOp.G Try.f45 10 :=
 loop_ok (s:=R_badOp.c100025r) (by kernel_rfl) (by kernel_rfl) (loops_of (sh:=R_badOp.c100025s) (I:=fun x_ s_=>(x_.1,x_.2.1,x_.2.2.1,x_.2.2.2.1,x_.2.2.2.2.1,x_.2.2.2.2.2.1,s_,x_.2.2.2.2.2.2.2)) (fun x_=>rfl) (fun ρ x_ s_ k_=>(nat_br (nat_bnd fun _=>(nat_br nat_leaf nat_leaf)) nat_leaf)) (fun ρ x_ t k=>(nat_sel (fun _=>(by kernel_rfl)) (fun _=>(by kernel_rfl)))) (fun x_ s=>by kernel_rfl))
theorem R_badOp.p11:PcA R_badOp.G Try.f45 11 :=
 region_ok (s:=R_badOp.c27r) (by kernel_rfl) (by kernel_rfl) (sums_of (sh:=R_badOp.c27s) (fun ρ x_ k_=>(nat_bnd fun _=>(nat_br nat_leaf (nat_bnd fun _=>(nat_br nat_leaf (nat_bnd fun _=>nat_leaf)))))) (fun ρ x_ t k=>(by kernel_rfl)) (fun x_=>by kernel_rfl))
theorem R_badOp.ok:CalleeOk Try.prog 45 R_badOp.ce:=fn_ok (G:=R_badOp.G) tab_ok mixed Try.func45 ⟨(fns_cons R_member.ok fns_nil),mfns_nil,tab_eqs_ok⟩ (m:=12) (by kernel_rfl) ⟨⟨⟨⟨⟨⟨⟨⟨⟨⟨⟨⟨trivial,R_badOp.p0⟩,R_badOp.p1⟩,R_badOp.p2⟩,R_badOp.p3⟩,R_badOp.p4⟩,R_badOp.p5⟩,R_badOp.p6⟩,R_badOp.p7⟩,R_badOp.p8⟩,R_badOp.p9⟩,R_badOp.p10⟩,R_badOp.p11⟩ (by kernel_rfl) R_badOp.eq
def R_Check.c1 {ρ:Type} (c0:Int) (k_:Bool → Option ρ):Option ρ :=
 br (decide (c0 < (1:Int)))
 (k_ true)
 (k_ (decide (c0 > (12:Int))))
def R_Check.c1s:Shape:=⟨[(0,tb38),(1,tb1),(2,tb2)],[(1,tb34),(2,tb19)]⟩
def R_Check.c1x0:Shape:=⟨[(0,tb38),(1,tb1),(2,tb2),(12,tb7)],[(1,tb34),(2,tb19)]⟩
def R_Check.c1r:Ck:=Ck.of (T:=Bool) R_Check.c1s (fun ρ x_ k_=>R_Check.c1 x_.2.1 k_) (fun ρ x_ r_ k_=>k_ 0 (Shape.inj R_Check.c1x0 (x_.1,r_,x_.2)))
def R_Check.c3 {ρ:Type} (c1:Int) (k_:Bool → Option ρ):Option ρ :=
 br (decide (c1 < (0:Int)))
 (k_ true)
 (k_ (decide (c1 > (12:Int))))
def R_Check.c3s:Shape:=R_Check.c1s
def R_Check.c3x0:Shape:=⟨[(0,tb38),(1,tb1),(2,tb2),(21,tb7)],[(1,tb34),(2,tb19)]⟩
def R_Check.c3r:Ck:=Ck.of (T:=Bool) R_Check.c3s (fun ρ x_ k_=>R_Check.c3 x_.2.2.1 k_) (fun ρ x_ r_ k_=>k_ 0 (Shape.inj R_Check.c3x0 (x_.1,r_,x_.2)))
def R_Check.c10 {ρ:Type} (i:Int) (c0:Int) (c1:Int) (c2:List (Int×(Int×((List Int)×(Int×(Int×(List Int))))))) (k_:Int → Option ρ):Option ρ :=
 bnd (idx c2 i) fun y =>
 bnd (W.R_badOp y c0 c1) fun y_1 =>
 k_ y_1
def R_Check.c10s:Shape:=⟨[(0,tb38),(1,tb1),(2,tb2),(3,tb5)],[(1,tb34),(2,tb19)]⟩
def R_Check.c10x0:Shape:=⟨[(0,tb38),(1,tb1),(2,tb2),(3,tb5),(4,tb5)],[(1,tb34),(2,tb19)]⟩
def R_Check.c10r:Ck:=Ck.of (T:=Int) R_Check.c10s (fun ρ x_ k_=>R_Check.c10 x_.2.1 x_.2.2.1 x_.2.2.2.1 x_.2.2.2.2.1 k_) (fun ρ x_ r_ k_=>k_ 0 (Shape.inj R_Check.c10x0 (x_.1,x_.2.1,r_,x_.2.2)))
def R_Check.c100008 {ρ:Type} (i:Int) (c0:Int) (c1:Int) (c2:List (Int×(Int×((List Int)×(Int×(Int×(List Int))))))) (k_:Int ⊕ ((Int×Int×Int) ⊕ Int) → Option ρ):Option ρ :=
 br (decide (i < (↑(List.length c2):Int)))
 (bnd (W.R_Check.c10 i c0 c1 c2 some) fun y =>
 br (y != (0:Int))
 (bnd (W.R_rfault y i) fun y_1 =>
 k_ (.inr (.inl (i,(Prod.fst y_1),(Prod.snd y_1)))))
 (k_ (.inl (IntKind.wrap IntKind.i64 (i + (1:Int))))))
 (k_ (.inr (.inr i)))
def R_Check.c100008s:Shape:=R_Check.c10s
def R_Check.c100008x0:Shape:=R_Check.c10s
def R_Check.c100008x1:Shape:=R_Check.c10s
def R_Check.c100008r:Ck:=Ck.ofLoop (S:=Int) (T:=(Int×Int×Int) ⊕ Int) R_Check.c100008s (fun x_=>x_.2.1) (fun ρ x_ s_ k_=>R_Check.c100008 s_ x_.2.2.1 x_.2.2.2.1 x_.2.2.2.2.1 k_) (fun ρ x_ r_ k_=>sel r_ (fun r_=>k_ 1 (Shape.inj R_Check.c100008x0 (x_.1,r_.1,x_.2.2.1,x_.2.2.2.1,x_.2.2.2.2.1,r_.2.1,r_.2.2,()))) (fun r_=>k_ 2 (Shape.inj R_Check.c100008x1 (x_.1,r_,x_.2.2))))
def R_Check (c:Int×(Int×(List (Int×(Int×((List Int)×(Int×(Int×(List Int))))))))):Option (Int×Int) :=
 bnd (W.R_Check.c1 (Prod.fst c) some) fun y =>
 br y
 (bnd (W.R_rfault (6:Int) (0:Int)) fun y_1 =>
 some (Prod.fst y_1,Prod.snd y_1))
 (bnd (W.R_Check.c3 (Prod.fst (Prod.snd c)) some) fun y_2 =>
 br y_2
 (bnd (W.R_rfault (7:Int) (0:Int)) fun y_3 =>
 some (Prod.fst y_3,Prod.snd y_3))
 (br (decide ((↑(List.length (Prod.snd (Prod.snd c))):Int) > (4096:Int)))
 (bnd (W.R_rfault (2:Int) (0:Int)) fun y_4 =>
 some (Prod.fst y_4,Prod.snd y_4))
 (bnd (iter (fun s ↦ W.R_Check.c100008 s (Prod.fst c) (Prod.fst (Prod.snd c)) (Prod.snd (Prod.snd c)) some) (0:Int)) fun y_5 =>
 sel y_5
 (fun u=>some (Prod.fst (Prod.snd u),Prod.snd (Prod.snd u)))
 (fun v=>some ((0:Int),(0:Int))))))
def R_Check.ce:Go.Ql.Callee:=⟨[(.st (.pair (.int .i64) (.pair (.int .i64) (.sl (.st (.pair (.int .i64) (.pair (.int .i64) (.pair (.sl (.int .i64)) (.pair (.int .i64) (.pair (.int .i64) (.sl (.int .i64))))))))))))],[(.st (.pair (.int .i64) (.int .i64)))],fun x_=>R_Check x_⟩
def R_Check.G:Env:=⟨51,tab,[(44,R_rfault.ce),(45,R_badOp.ce)],[0,1,2,3,4,12,21,26,32,46],[],[(10,[⟨[],[],[37,40,41,42,43],[]⟩,⟨[0],[],[37,40,41,42,43],[]⟩,⟨[],[],[35,36,40,41,42,43],[]⟩,⟨[1,0,2],[],[40,41,42,43],[]⟩,⟨[3,1,0,2],[],[40,41,42,43],[]⟩,⟨[],[],[35,36,37,38,39,42,43],[]⟩,⟨[5],[],[35,36,37,38,39,42,43],[]⟩,⟨[],[],[35,36,37,38,39,40,41],[]⟩,⟨[7],[],[35,36,37,38,39,40,41],[]⟩,⟨[4,3,1,0,2,6,5,8,7],[],[],[]⟩,⟨[9,4,3,1,0,2,6,5,8,7],[],[],[]⟩])],[(100008,R_Check.c100008r),(10,R_Check.c10r),(3,R_Check.c3r),(1,R_Check.c1r)],[],tab_eqs⟩
theorem R_Check.eq (x_:dens R_Check.ce.params):den R_Check.G Try.f13 R_Check.ce.params R_Check.ce.res x_ = R_Check.ce.F x_:=by kernel_rfl
theorem R_Check.p0:PcA R_Check.G Try.f13 0 :=
 region_ok (s:=R_Check.c1r) (by kernel_rfl) (by kernel_rfl) (sums_of (sh:=R_Check.c1s) (fun ρ x_ k_=>(nat_br nat_leaf nat_leaf)) (fun ρ x_ t k=>(by kernel_rfl)) (fun x_=>by kernel_rfl))
theorem R_Check.p1:PcA R_Check.G Try.f13 1 :=
 region_ok (s:=R_Check.c3r) (by kernel_rfl) (by kernel_rfl) (sums_of (sh:=R_Check.c3s) (fun ρ x_ k_=>(nat_br nat_leaf nat_leaf)) (fun ρ x_ t k=>(by kernel_rfl)) (fun x_=>by kernel_rfl))
theorem R_Check.p2:PcA R_Check.G Try.f13 2 :=
 loop_ok (s:=R_Check.c100008r) (by kernel_rfl) (by kernel_rfl) (loops_of (sh:=R_Check.c100008s) (I:=fun x_ s_=>(x_.1,s_,x_.2.2)) (fun x_=>rfl) (fun ρ x_ s_ k_=>(nat_br (nat_bnd fun _=>(nat_br (nat_bnd fun _=>nat_leaf) nat_leaf)) nat_leaf)) (fun ρ x_ t k=>(nat_sel (fun _=>(by kernel_rfl)) (fun _=>(by kernel_rfl)))) (fun x_ s=>by kernel_rfl))
theorem R_Check.p3:PcA R_Check.G Try.f13 3 :=
 region_ok (s:=R_Check.c10r) (by kernel_rfl) (by kernel_rfl) (sums_of (sh:=R_Check.c10s) (fun ρ x_ k_=>(nat_bnd fun _=>(nat_bnd fun _=>nat_leaf))) (fun ρ x_ t k=>(by kernel_rfl)) (fun x_=>by kernel_rfl))
theorem R_Check.ok:CalleeOk Try.prog 13 R_Check.ce:=fn_ok (G:=R_Check.G) tab_ok mixed Try.func13 ⟨(fns_cons R_rfault.ok (fns_cons R_badOp.ok fns_nil)),mfns_nil,tab_eqs_ok⟩ (m:=4) (by kernel_rfl) ⟨⟨⟨⟨trivial,R_Check.p0⟩,R_Check.p1⟩,R_Check.p2⟩,R_Check.p3⟩ (by kernel_rfl) R_Check.eq
def R_Pure.c7 {ρ:Type} (i:Int) (c2:List (Int×(Int×((List Int)×(Int×(Int×(List Int))))))) (k_:Bool → Option ρ):Option ρ :=
 bnd (idx c2 i) fun y =>
 br (decide (Prod.fst y ≥ (5:Int)))
 (k_ true)
 (bnd (idx c2 i) fun y_1 =>
 k_ (decide ((↑(List.length (Prod.snd (Prod.snd (Prod.snd (Prod.snd (Prod.snd y_1)))))):Int) > (0:Int))))
def R_Pure.c7s:Shape:=⟨[(0,tb38),(1,tb1),(2,tb2),(3,tb12),(4,tb5)],[(1,tb34),(2,tb19),(3,tb19)]⟩
def R_Pure.c7x0:Shape:=⟨[(0,tb38),(1,tb1),(2,tb2),(3,tb12),(4,tb5),(34,tb7)],[(1,tb34),(2,tb19),(3,tb19)]⟩
def R_Pure.c7r:Ck:=Ck.of (T:=Bool) R_Pure.c7s (fun ρ x_ k_=>R_Pure.c7 x_.2.1 x_.2.2.2.2.1 k_) (fun ρ x_ r_ k_=>k_ 0 (Shape.inj R_Pure.c7x0 (x_.1,x_.2.1,r_,x_.2.2)))
def R_Pure.c100005 {ρ:Type} (i:Int) (c2:List (Int×(Int×((List Int)×(Int×(Int×(List Int))))))) (k_:Int ⊕ ((Int×Int×Int) ⊕ Int) → Option ρ):Option ρ :=
 br (decide (i < (↑(List.length c2):Int)))
 (bnd (W.R_Pure.c7 i c2 some) fun y =>
 br y
 (bnd (W.R_rfault (15:Int) i) fun y_1 =>
 k_ (.inr (.inl (i,(Prod.fst y_1),(Prod.snd y_1)))))
 (k_ (.inl (IntKind.wrap IntKind.i64 (i + (1:Int))))))
 (k_ (.inr (.inr i)))
def R_Pure.c100005s:Shape:=R_Pure.c7s
def R_Pure.c100005x0:Shape:=R_Pure.c7s
def R_Pure.c100005x1:Shape:=R_Pure.c7s
def R_Pure.c100005r:Ck:=Ck.ofLoop (S:=Int) (T:=(Int×Int×Int) ⊕ Int) R_Pure.c100005s (fun x_=>x_.2.1) (fun ρ x_ s_ k_=>R_Pure.c100005 s_ x_.2.2.2.2.1 k_) (fun ρ x_ r_ k_=>sel r_ (fun r_=>k_ 1 (Shape.inj R_Pure.c100005x0 (x_.1,r_.1,x_.2.2.1,x_.2.2.2.1,x_.2.2.2.2.1,r_.2.1,r_.2.2,x_.2.2.2.2.2.2.2))) (fun r_=>k_ 2 (Shape.inj R_Pure.c100005x1 (x_.1,r_,x_.2.2))))
def R_Pure (c:Int×(Int×(List (Int×(Int×((List Int)×(Int×(Int×(List Int))))))))):Option (Int×Int) :=
 bnd (W.R_Check (Prod.fst c,Prod.fst (Prod.snd c),Prod.snd (Prod.snd c))) fun y =>
 br (Prod.fst y != (0:Int))
 (some (Prod.fst y,Prod.snd y))
 (bnd (iter (fun s ↦ W.R_Pure.c100005 s (Prod.snd (Prod.snd c)) some) (0:Int)) fun y_1 =>
 sel y_1
 (fun u=>some (Prod.fst (Prod.snd u),Prod.snd (Prod.snd u)))
 (fun v=>some (Prod.fst y,Prod.snd y)))
def R_Pure.ce:Go.Ql.Callee:=⟨[(.st (.pair (.int .i64) (.pair (.int .i64) (.sl (.st (.pair (.int .i64) (.pair (.int .i64) (.pair (.sl (.int .i64)) (.pair (.int .i64) (.pair (.int .i64) (.sl (.int .i64))))))))))))],[(.st (.pair (.int .i64) (.int .i64)))],fun x_=>R_Pure x_⟩
def R_Pure.G:Env:=⟨38,tab,[(13,R_Check.ce),(44,R_rfault.ce)],[0,1,2,3,4,9,15,34],[],[],[(100005,R_Pure.c100005r),(7,R_Pure.c7r)],[],tab_eqs⟩
theorem R_Pure.eq (x_:dens R_Pure.ce.params):den R_Pure.G Try.f21 R_Pure.ce.params R_Pure.ce.res x_ = R_Pure.ce.F x_:=by kernel_rfl
theorem R_Pure.p0:PcA R_Pure.G Try.f21 0 :=
 loop_ok (s:=R_Pure.c100005r) (by kernel_rfl) (by kernel_rfl) (loops_of (sh:=R_Pure.c100005s) (I:=fun x_ s_=>(x_.1,s_,x_.2.2)) (fun x_=>rfl) (fun ρ x_ s_ k_=>(nat_br (nat_bnd fun _=>(nat_br (nat_bnd fun _=>nat_leaf) nat_leaf)) nat_leaf)) (fun ρ x_ t k=>(nat_sel (fun _=>(by kernel_rfl)) (fun _=>(by kernel_rfl)))) (fun x_ s=>by kernel_rfl))
theorem R_Pure.p1:PcA R_Pure.G Try.f21 1 :=
 region_ok (s:=R_Pure.c7r) (by kernel_rfl) (by kernel_rfl) (sums_of (sh:=R_Pure.c7s) (fun ρ x_ k_=>(nat_bnd fun _=>(nat_br nat_leaf (nat_bnd fun _=>nat_leaf)))) (fun ρ x_ t k=>(by kernel_rfl)) (fun x_=>by kernel_rfl))
theorem R_Pure.ok:CalleeOk Try.prog 21 R_Pure.ce:=fn_ok (G:=R_Pure.G) tab_ok mixed Try.func21 ⟨(fns_cons R_Check.ok (fns_cons R_rfault.ok fns_nil)),mfns_nil,tab_eqs_ok⟩ (m:=2) (by kernel_rfl) ⟨⟨trivial,R_Pure.p0⟩,R_Pure.p1⟩ (by kernel_rfl) R_Pure.eq
def R_normalOp.c6 {ρ:Type} (o1:Int) (o2:List Int) (k_:Bool → Option ρ):Option ρ :=
 br ((↑(List.length o2):Int) == (0:Int))
 (br (Int.tmod o1 (4:Int) == (0:Int))
 (k_ true)
 (br ((↑(List.length o2):Int) == (1:Int))
 (k_ (Int.tmod o1 (8:Int) == (0:Int)))
 (k_ false)))
 (br ((↑(List.length o2):Int) == (1:Int))
 (k_ (Int.tmod o1 (8:Int) == (0:Int)))
 (k_ false))
def R_normalOp.c6s:Shape:=⟨[(0,tb25),(1,tb1),(2,tb7)],[(1,tb26)]⟩
def R_normalOp.c6x0:Shape:=R_normalOp.c6s
def R_normalOp.c6r:Ck:=Ck.of (T:=Bool) R_normalOp.c6s (fun ρ x_ k_=>R_normalOp.c6 x_.2.2.2.1 x_.2.2.2.2.1 k_) (fun ρ x_ r_ k_=>k_ 0 (Shape.inj R_normalOp.c6x0 (x_.1,r_,x_.2.2)))
def R_normalOp (o:Int×(Int×((List Int)×(Int×(Int×(List Int)))))):Option (Bool) :=
 br (Prod.fst o == (2:Int))
 (some (decide ((↑(List.length (Prod.fst (Prod.snd (Prod.snd o)))):Int) ≤ (1:Int))))
 (br (Prod.fst o == (3:Int))
 (some ((↑(List.length (Prod.fst (Prod.snd (Prod.snd o)))):Int) == (0:Int)))
 (br (Prod.fst o == (4:Int))
 (bnd (W.R_normalOp.c6 (Prod.fst (Prod.snd o)) (Prod.fst (Prod.snd (Prod.snd o))) some) fun y =>
 some y)
 (some true)))
def R_normalOp.ce:Go.Ql.Callee:=⟨[(.st (.pair (.int .i64) (.pair (.int .i64) (.pair (.sl (.int .i64)) (.pair (.int .i64) (.pair (.int .i64) (.sl (.int .i64))))))))],[.bool],fun x_=>R_normalOp x_⟩
def R_normalOp.G:Env:=⟨42,tab,[],[0,1,2,5,12,19],[],[],[(6,R_normalOp.c6r)],[],tab_eqs⟩
theorem R_normalOp.eq (x_:dens R_normalOp.ce.params):den R_normalOp.G Try.f58 R_normalOp.ce.params R_normalOp.ce.res x_ = R_normalOp.ce.F x_:=by kernel_rfl
theorem R_normalOp.p0:PcA R_normalOp.G Try.f58 0 :=
 region_ok (s:=R_normalOp.c6r) (by kernel_rfl) (by kernel_rfl) (sums_of (sh:=R_normalOp.c6s) (fun ρ x_ k_=>(nat_br (nat_br nat_leaf (nat_br nat_leaf nat_leaf)) (nat_br nat_leaf nat_leaf))) (fun ρ x_ t k=>(by kernel_rfl)) (fun x_=>by kernel_rfl))
theorem R_normalOp.ok:CalleeOk Try.prog 58 R_normalOp.ce:=fn_ok (G:=R_normalOp.G) tab_ok mixed Try.func58 ⟨fns_nil,mfns_nil,tab_eqs_ok⟩ (m:=1) (by kernel_rfl) ⟨trivial,R_normalOp.p0⟩ (by kernel_rfl) R_normalOp.eq
def R_NormalFault.c100002 {ρ:Type} (i:Int) (c2:List (Int×(Int×((List Int)×(Int×(Int×(List Int))))))) (k_:Int ⊕ ((Int×Int×Int) ⊕ Int) → Option ρ):Option ρ :=
 br (decide (i < (↑(List.length c2):Int)))
 (bnd (idx c2 i) fun y =>
 bnd (W.R_normalOp y) fun y_1 =>
 br (!y_1)
 (bnd (W.R_rfault (41:Int) i) fun y_2 =>
 k_ (.inr (.inl (i,(Prod.fst y_2),(Prod.snd y_2)))))
 (k_ (.inl (IntKind.wrap IntKind.i64 (i + (1:Int))))))
 (k_ (.inr (.inr i)))
def R_NormalFault.c100002s:Shape:=⟨[(0,tb38),(1,tb1),(2,tb2),(3,tb5)],[(1,tb34),(2,tb19)]⟩
def R_NormalFault.c100002x0:Shape:=R_NormalFault.c100002s
def R_NormalFault.c100002x1:Shape:=R_NormalFault.c100002s
def R_NormalFault.c100002r:Ck:=Ck.ofLoop (S:=Int) (T:=(Int×Int×Int) ⊕ Int) R_NormalFault.c100002s (fun x_=>x_.2.1) (fun ρ x_ s_ k_=>R_NormalFault.c100002 s_ x_.2.2.2.2.1 k_) (fun ρ x_ r_ k_=>sel r_ (fun r_=>k_ 1 (Shape.inj R_NormalFault.c100002x0 (x_.1,r_.1,x_.2.2.1,x_.2.2.2.1,x_.2.2.2.2.1,r_.2.1,r_.2.2,()))) (fun r_=>k_ 2 (Shape.inj R_NormalFault.c100002x1 (x_.1,r_,x_.2.2))))
def R_NormalFault (c:Int×(Int×(List (Int×(Int×((List Int)×(Int×(Int×(List Int))))))))):Option (Int×Int) :=
 bnd (iter (fun s ↦ W.R_NormalFault.c100002 s (Prod.snd (Prod.snd c)) some) (0:Int)) fun y =>
 sel y
 (fun u=>some (Prod.fst (Prod.snd u),Prod.snd (Prod.snd u)))
 (fun v=>some ((0:Int),(0:Int)))
def R_NormalFault.ce:Go.Ql.Callee:=⟨[(.st (.pair (.int .i64) (.pair (.int .i64) (.sl (.st (.pair (.int .i64) (.pair (.int .i64) (.pair (.sl (.int .i64)) (.pair (.int .i64) (.pair (.int .i64) (.sl (.int .i64))))))))))))],[(.st (.pair (.int .i64) (.int .i64)))],fun x_=>R_NormalFault x_⟩
def R_NormalFault.G:Env:=⟨21,tab,[(58,R_normalOp.ce),(44,R_rfault.ce)],[0,1,2,3,8,17],[],[],[(100002,R_NormalFault.c100002r)],[],tab_eqs⟩
theorem R_NormalFault.eq (x_:dens R_NormalFault.ce.params):den R_NormalFault.G Try.f22 R_NormalFault.ce.params R_NormalFault.ce.res x_ = R_NormalFault.ce.F x_:=by kernel_rfl
theorem R_NormalFault.p0:PcA R_NormalFault.G Try.f22 0 :=
 loop_ok (s:=R_NormalFault.c100002r) (by kernel_rfl) (by kernel_rfl) (loops_of (sh:=R_NormalFault.c100002s) (I:=fun x_ s_=>(x_.1,s_,x_.2.2)) (fun x_=>rfl) (fun ρ x_ s_ k_=>(nat_br (nat_bnd fun _=>(nat_bnd fun _=>(nat_br (nat_bnd fun _=>nat_leaf) nat_leaf))) nat_leaf)) (fun ρ x_ t k=>(nat_sel (fun _=>(by kernel_rfl)) (fun _=>(by kernel_rfl)))) (fun x_ s=>by kernel_rfl))
theorem R_NormalFault.ok:CalleeOk Try.prog 22 R_NormalFault.ce:=fn_ok (G:=R_NormalFault.G) tab_ok mixed Try.func22 ⟨(fns_cons R_normalOp.ok (fns_cons R_rfault.ok fns_nil)),mfns_nil,tab_eqs_ok⟩ (m:=1) (by kernel_rfl) ⟨trivial,R_NormalFault.p0⟩ (by kernel_rfl) R_NormalFault.eq
def circ_Pure (c:Int×(Int×(List (Int×(Int×((List Int)×(Int×(Int×(List Int))))))))):Option (Int×Int) :=
 bnd (W.circ_pure (Prod.fst c,Prod.fst (Prod.snd c),Prod.snd (Prod.snd c))) fun y =>
 some (Prod.fst y,Prod.snd y)
def circ_Pure.ce:Go.Ql.Callee:=⟨[(.st (.pair (.int .i64) (.pair (.int .i64) (.sl (.st (.pair (.int .i64) (.pair (.int .i64) (.pair (.sl (.int .i64)) (.pair (.int .i64) (.pair (.int .i64) (.sl (.int .i64))))))))))))],[(.st (.pair (.int .i64) (.int .i64)))],fun x_=>circ_Pure x_⟩
def circ_Pure.G:Env:=⟨5,tab,[(101,circ_pure.ce)],[0,1,2],[],[],[],[],tab_eqs⟩
theorem circ_Pure.eq (x_:dens circ_Pure.ce.params):den circ_Pure.G Try.f93 circ_Pure.ce.params circ_Pure.ce.res x_ = circ_Pure.ce.F x_:=by kernel_rfl
theorem circ_Pure.ok:CalleeOk Try.prog 93 circ_Pure.ce:=fn_ok (G:=circ_Pure.G) tab_ok mixed Try.func93 ⟨(fns_cons circ_pure.ok fns_nil),mfns_nil,tab_eqs_ok⟩ (m:=0) (by kernel_rfl) trivial (by kernel_rfl) circ_Pure.eq
def tableau_normal.c7 {ρ:Type} (o1:Int) (o2:List Int) (k_:Bool → Option ρ):Option ρ :=
 br ((↑(List.length o2):Int) == (0:Int))
 (br (Int.tmod o1 (4:Int) == (0:Int))
 (k_ true)
 (br ((↑(List.length o2):Int) == (1:Int))
 (k_ (Int.tmod o1 (8:Int) == (0:Int)))
 (k_ false)))
 (br ((↑(List.length o2):Int) == (1:Int))
 (k_ (Int.tmod o1 (8:Int) == (0:Int)))
 (k_ false))
def tableau_normal.c7s:Shape:=⟨[(0,tb25),(1,tb1),(2,tb7),(4,tb5)],[(1,tb26)]⟩
def tableau_normal.c7x0:Shape:=tableau_normal.c7s
def tableau_normal.c7r:Ck:=Ck.of (T:=Bool) tableau_normal.c7s (fun ρ x_ k_=>tableau_normal.c7 x_.2.2.2.2.1 x_.2.2.2.2.2.1 k_) (fun ρ x_ r_ k_=>k_ 0 (Shape.inj tableau_normal.c7x0 (x_.1,r_,x_.2.2)))
def tableau_normal (o:Int×(Int×((List Int)×(Int×(Int×(List Int)))))):Option (Bool) :=
 br (Prod.fst o == (2:Int))
 (some (decide ((↑(List.length (Prod.fst (Prod.snd (Prod.snd o)))):Int) < (2:Int))))
 (br (Prod.fst o == (3:Int))
 (some ((↑(List.length (Prod.fst (Prod.snd (Prod.snd o)))):Int) == (0:Int)))
 (br (Prod.fst o == (4:Int))
 (bnd (W.tableau_normal.c7 (Prod.fst (Prod.snd o)) (Prod.fst (Prod.snd (Prod.snd o))) some) fun y =>
 some y)
 (some true)))
def tableau_normal.ce:Go.Ql.Callee:=⟨[(.st (.pair (.int .i64) (.pair (.int .i64) (.pair (.sl (.int .i64)) (.pair (.int .i64) (.pair (.int .i64) (.sl (.int .i64))))))))],[.bool],fun x_=>tableau_normal x_⟩
def tableau_normal.G:Env:=⟨41,tab,[],[0,1,2,4,5,11,17],[],[],[(7,tableau_normal.c7r)],[],tab_eqs⟩
theorem tableau_normal.eq (x_:dens tableau_normal.ce.params):den tableau_normal.G Try.f82 tableau_normal.ce.params tableau_normal.ce.res x_ = tableau_normal.ce.F x_:=by kernel_rfl
theorem tableau_normal.p0:PcA tableau_normal.G Try.f82 0 :=
 region_ok (s:=tableau_normal.c7r) (by kernel_rfl) (by kernel_rfl) (sums_of (sh:=tableau_normal.c7s) (fun ρ x_ k_=>(nat_br (nat_br nat_leaf (nat_br nat_leaf nat_leaf)) (nat_br nat_leaf nat_leaf))) (fun ρ x_ t k=>(by kernel_rfl)) (fun x_=>by kernel_rfl))
theorem tableau_normal.ok:CalleeOk Try.prog 82 tableau_normal.ce:=fn_ok (G:=tableau_normal.G) tab_ok mixed Try.func82 ⟨fns_nil,mfns_nil,tab_eqs_ok⟩ (m:=1) (by kernel_rfl) ⟨trivial,tableau_normal.p0⟩ (by kernel_rfl) tableau_normal.eq
def tableau_stranger.c100002 {ρ:Type} (t6:List (Int×(Int×((List Int)×(Int×(Int×(List Int))))))) (t7:Int) (t8:Int) (k_:Int ⊕ ((Int×Int) ⊕ Int) → Option ρ):Option ρ :=
 br (decide (t8 < t7))
 (bnd (idx t6 t8) fun y =>
 bnd (W.tableau_normal (Prod.fst y,Prod.fst (Prod.snd y),Prod.fst (Prod.snd (Prod.snd y)),Prod.fst (Prod.snd (Prod.snd (Prod.snd y))),Prod.fst (Prod.snd (Prod.snd (Prod.snd (Prod.snd y)))),Prod.snd (Prod.snd (Prod.snd (Prod.snd (Prod.snd y)))))) fun y_1 =>
 br (!y_1)
 (k_ (.inr (.inl (t8,t8))))
 (k_ (.inl (IntKind.wrap IntKind.i64 (t8 + (1:Int))))))
 (k_ (.inr (.inr t8)))
def tableau_stranger.c100002s:Shape:=⟨[(0,tb38),(1,tb1),(2,tb2),(6,tb31),(7,tb5),(8,tb5)],[(1,tb34),(2,tb19)]⟩
def tableau_stranger.c100002x0:Shape:=tableau_stranger.c100002s
def tableau_stranger.c100002x1:Shape:=tableau_stranger.c100002s
def tableau_stranger.c100002r:Ck:=Ck.ofLoop (S:=Int) (T:=(Int×Int) ⊕ Int) tableau_stranger.c100002s (fun x_=>x_.2.2.2.1) (fun ρ x_ s_ k_=>tableau_stranger.c100002 x_.2.1 x_.2.2.1 s_ k_) (fun ρ x_ r_ k_=>sel r_ (fun r_=>k_ 1 (Shape.inj tableau_stranger.c100002x0 (x_.1,x_.2.1,x_.2.2.1,r_.1,x_.2.2.2.2.1,x_.2.2.2.2.2.1,x_.2.2.2.2.2.2.1,(41:Int),r_.2,()))) (fun r_=>k_ 2 (Shape.inj tableau_stranger.c100002x1 (x_.1,x_.2.1,x_.2.2.1,r_,x_.2.2.2.2))))
def tableau_stranger (c:Int×(Int×(List (Int×(Int×((List Int)×(Int×(Int×(List Int))))))))):Option (Int×Int) :=
 bnd (iter (fun s ↦ W.tableau_stranger.c100002 (Prod.snd (Prod.snd c)) (↑(List.length (Prod.snd (Prod.snd c))):Int) s some) (0:Int)) fun y =>
 sel y
 (fun u=>some ((41:Int),Prod.snd u))
 (fun v=>some ((0:Int),(0:Int)))
def tableau_stranger.ce:Go.Ql.Callee:=⟨[(.st (.pair (.int .i64) (.pair (.int .i64) (.sl (.st (.pair (.int .i64) (.pair (.int .i64) (.pair (.sl (.int .i64)) (.pair (.int .i64) (.pair (.int .i64) (.sl (.int .i64))))))))))))],[(.st (.pair (.int .i64) (.int .i64)))],fun x_=>tableau_stranger x_⟩
def tableau_stranger.G:Env:=⟨20,tab,[(82,tableau_normal.ce)],[0,1,2,3,4,6,7,8,9,15],[],[],[(100002,tableau_stranger.c100002r)],[],tab_eqs⟩
theorem tableau_stranger.eq (x_:dens tableau_stranger.ce.params):den tableau_stranger.G Try.f37 tableau_stranger.ce.params tableau_stranger.ce.res x_ = tableau_stranger.ce.F x_:=by kernel_rfl
theorem tableau_stranger.p0:PcA tableau_stranger.G Try.f37 0 :=
 loop_ok (s:=tableau_stranger.c100002r) (by kernel_rfl) (by kernel_rfl) (loops_of (sh:=tableau_stranger.c100002s) (I:=fun x_ s_=>(x_.1,x_.2.1,x_.2.2.1,s_,x_.2.2.2.2)) (fun x_=>rfl) (fun ρ x_ s_ k_=>(nat_br (nat_bnd fun _=>(nat_bnd fun _=>(nat_br nat_leaf nat_leaf))) nat_leaf)) (fun ρ x_ t k=>(nat_sel (fun _=>(by kernel_rfl)) (fun _=>(by kernel_rfl)))) (fun x_ s=>by kernel_rfl))
theorem tableau_stranger.ok:CalleeOk Try.prog 37 tableau_stranger.ce:=fn_ok (G:=tableau_stranger.G) tab_ok mixed Try.func37 ⟨(fns_cons tableau_normal.ok fns_nil),mfns_nil,tab_eqs_ok⟩ (m:=1) (by kernel_rfl) ⟨trivial,tableau_stranger.p0⟩ (by kernel_rfl) tableau_stranger.eq
def tableau_pure (c:Int×(Int×(List (Int×(Int×((List Int)×(Int×(Int×(List Int))))))))):Option (Int×Int) :=
 bnd (W.circ_Pure (Prod.fst c,Prod.fst (Prod.snd c),Prod.snd (Prod.snd c))) fun y =>
 br (Prod.fst y != (0:Int))
 (some (Prod.fst y,Prod.snd y))
 (bnd (W.tableau_stranger (Prod.fst c,Prod.fst (Prod.snd c),Prod.snd (Prod.snd c))) fun y_1 =>
 some (Prod.fst y_1,Prod.snd y_1))
def tableau_pure.ce:Go.Ql.Callee:=⟨[(.st (.pair (.int .i64) (.pair (.int .i64) (.sl (.st (.pair (.int .i64) (.pair (.int .i64) (.pair (.sl (.int .i64)) (.pair (.int .i64) (.pair (.int .i64) (.sl (.int .i64))))))))))))],[(.st (.pair (.int .i64) (.int .i64)))],fun x_=>tableau_pure x_⟩
def tableau_pure.G:Env:=⟨12,tab,[(93,circ_Pure.ce),(37,tableau_stranger.ce)],[0,1,2,3,8],[],[],[],[],tab_eqs⟩
theorem tableau_pure.eq (x_:dens tableau_pure.ce.params):den tableau_pure.G Try.f55 tableau_pure.ce.params tableau_pure.ce.res x_ = tableau_pure.ce.F x_:=by kernel_rfl
theorem tableau_pure.ok:CalleeOk Try.prog 55 tableau_pure.ce:=fn_ok (G:=tableau_pure.G) tab_ok mixed Try.func55 ⟨(fns_cons circ_Pure.ok (fns_cons tableau_stranger.ok fns_nil)),mfns_nil,tab_eqs_ok⟩ (m:=0) (by kernel_rfl) trivial (by kernel_rfl) tableau_pure.eq
def tableau_Image.c3 {ρ:Type}  (k_:Unit → Option ρ):Option ρ :=
 k_ ()
def tableau_Image.c3s:Shape:=⟨[(0,tb38),(1,tb4),(2,tb2),(4,tb4),(5,tb39),(6,tb8)],[(2,tb34),(5,tb19),(6,tb19)]⟩
def tableau_Image.c3x0:Shape:=tableau_Image.c3s
def tableau_Image.c3r:Ck:=Ck.of (T:=Unit) tableau_Image.c3s (fun ρ x_ k_=>tableau_Image.c3  k_) (fun ρ x_ r_ k_=>k_ 0 (Shape.inj tableau_Image.c3x0 (x_.1,x_.2.1,(Array.toList (ByteArray.data (ByteArray.mk #[]))),x_.2.2.2.1,x_.2.2.2.2.1,x_.2.2.2.2.2.1,x_.2.2.2.2.2.2.2.2.1,x_.2.2.2.2.2.2.2.2.2.1,x_.2.2.2.2.2.2.2.2)))
def tableau_Image.c100008 {ρ:Type} (t28:List (Int×(Int×((List Int)×(Int×(Int×(List Int))))))) (t29:Int) (t30:Int) (p0:Int) (p1:Int) (p2:Bool) (k_:(Int×Int×Int×(Bool)) ⊕ (Int×Int×Int×(Bool)) → Option ρ):Option ρ :=
 br (decide (t30 < t29))
 (bnd (idx t28 t30) fun y =>
 bnd (W.tableau_pauli_gate ((p0,p1,p2),(Prod.fst y,Prod.fst (Prod.snd y),Prod.fst (Prod.snd (Prod.snd y)),Prod.fst (Prod.snd (Prod.snd (Prod.snd y))),Prod.fst (Prod.snd (Prod.snd (Prod.snd (Prod.snd y)))),Prod.snd (Prod.snd (Prod.snd (Prod.snd (Prod.snd y))))),())) fun y_1 =>
 k_ (.inl ((IntKind.wrap IntKind.i64 (t30 + (1:Int))),(Prod.fst (Prod.fst y_1)),(Prod.fst (Prod.snd (Prod.fst y_1))),(Prod.snd (Prod.snd (Prod.fst y_1))))))
 (k_ (.inr (t30,p0,p1,p2)))
def tableau_Image.c100008s:Shape:=⟨[(0,tb38),(1,tb4),(2,tb2),(4,tb4),(5,tb39),(6,tb8),(7,tb42),(8,tb7),(28,tb31),(29,tb5),(30,tb5)],[(2,tb34),(5,tb19),(6,tb19),(7,tb9)]⟩
def tableau_Image.c100008x0:Shape:=tableau_Image.c100008s
def tableau_Image.c100008r:Ck:=Ck.ofLoop (S:=Int×Int×Int×(Bool)) (T:=Int×Int×Int×(Bool)) tableau_Image.c100008s (fun x_=>(x_.2.2.2.2.2.2.1,x_.2.2.2.2.2.2.2.2.2.2.2.2.2.2.1,x_.2.2.2.2.2.2.2.2.2.2.2.2.2.2.2.1,x_.2.2.2.2.2.2.2.2.2.2.2.2.2.2.2.2.1)) (fun ρ x_ s_ k_=>tableau_Image.c100008 x_.2.2.2.2.1 x_.2.2.2.2.2.1 s_.1 s_.2.1 s_.2.2.1 s_.2.2.2 k_) (fun ρ x_ r_ k_=>k_ 2 (Shape.inj tableau_Image.c100008x0 (x_.1,x_.2.1,x_.2.2.1,x_.2.2.2.1,x_.2.2.2.2.1,x_.2.2.2.2.2.1,r_.1,x_.2.2.2.2.2.2.2.1,x_.2.2.2.2.2.2.2.2.1,x_.2.2.2.2.2.2.2.2.2.1,x_.2.2.2.2.2.2.2.2.2.2.1,x_.2.2.2.2.2.2.2.2.2.2.2.1,x_.2.2.2.2.2.2.2.2.2.2.2.2.1,x_.2.2.2.2.2.2.2.2.2.2.2.2.2.1,r_.2.1,r_.2.2.1,r_.2.2.2,())))
def tableau_Image (c:Int×(Int×(List (Int×(Int×((List Int)×(Int×(Int×(List Int))))))))) (text:List UInt8):Option ((List UInt8)×(Int×Int)) :=
 bnd (W.tableau_pure (Prod.fst c,Prod.fst (Prod.snd c),Prod.snd (Prod.snd c))) fun y =>
 br (Prod.fst y != (0:Int))
 (bnd (W.tableau_Image.c3 some) fun y_1 =>
 some (Array.toList (ByteArray.data (ByteArray.mk #[])),Prod.fst y,Prod.snd y))
 (bnd (W.tableau_read text (Prod.fst c)) fun y_2 =>
 br (!Prod.snd y_2)
 (some (Array.toList (ByteArray.data (ByteArray.mk #[])),(33:Int),(0:Int)))
 (bnd (iter (fun s ↦ W.tableau_Image.c100008 (Prod.snd (Prod.snd c)) (↑(List.length (Prod.snd (Prod.snd c))):Int) (Prod.fst s) (Prod.fst (Prod.snd s)) (Prod.fst (Prod.snd (Prod.snd s))) (Prod.snd (Prod.snd (Prod.snd s))) some) ((0:Int),Prod.fst (Prod.fst y_2),Prod.fst (Prod.snd (Prod.fst y_2)),Prod.snd (Prod.snd (Prod.fst y_2)))) fun y_3 =>
 bnd (W.tableau_pauli_text (Prod.fst (Prod.snd y_3),Prod.fst (Prod.snd (Prod.snd y_3)),Prod.snd (Prod.snd (Prod.snd y_3))) (Prod.fst c)) fun y_4 =>
 some (y_4,(0:Int),(0:Int))))
def tableau_Image.ce:Go.Ql.Callee:=⟨[(.st (.pair (.int .i64) (.pair (.int .i64) (.sl (.st (.pair (.int .i64) (.pair (.int .i64) (.pair (.sl (.int .i64)) (.pair (.int .i64) (.pair (.int .i64) (.sl (.int .i64)))))))))))),.str],[.str,(.st (.pair (.int .i64) (.int .i64)))],fun x_=>tableau_Image x_.1 x_.2⟩
def tableau_Image.G:Env:=⟨43,tab,[(55,tableau_pure.ce),(56,tableau_read.ce),(43,tableau_pauli_text.ce)],[0,1,2,4,5,6,7,8,10,15,25,28,29,30,31],[],[(3,[⟨[],[],[4],[]⟩,⟨[],[],[16],[]⟩,⟨[0,1],[5],[],[]⟩])],[(100008,tableau_Image.c100008r),(3,tableau_Image.c3r)],[(57,tableau_pauli_gate.mc)],tab_eqs⟩
theorem tableau_Image.eq (x_:dens tableau_Image.ce.params):den tableau_Image.G Try.f20 tableau_Image.ce.params tableau_Image.ce.res x_ = tableau_Image.ce.F x_:=by kernel_rfl
theorem tableau_Image.p0:PcA tableau_Image.G Try.f20 0 :=
 region_ok (s:=tableau_Image.c3r) (by kernel_rfl) (by kernel_rfl) (sums_of (sh:=tableau_Image.c3s) (fun ρ x_ k_=>nat_leaf) (fun ρ x_ t k=>(by kernel_rfl)) (fun x_=>by kernel_rfl))
theorem tableau_Image.p1:PcA tableau_Image.G Try.f20 1 :=
 loop_ok (s:=tableau_Image.c100008r) (by kernel_rfl) (by kernel_rfl) (loops_of (sh:=tableau_Image.c100008s) (I:=fun x_ s_=>(x_.1,x_.2.1,x_.2.2.1,x_.2.2.2.1,x_.2.2.2.2.1,x_.2.2.2.2.2.1,s_.1,x_.2.2.2.2.2.2.2.1,x_.2.2.2.2.2.2.2.2.1,x_.2.2.2.2.2.2.2.2.2.1,x_.2.2.2.2.2.2.2.2.2.2.1,x_.2.2.2.2.2.2.2.2.2.2.2.1,x_.2.2.2.2.2.2.2.2.2.2.2.2.1,x_.2.2.2.2.2.2.2.2.2.2.2.2.2.1,s_.2.1,s_.2.2.1,s_.2.2.2,())) (fun x_=>rfl) (fun ρ x_ s_ k_=>(nat_br (nat_bnd fun _=>(nat_bnd fun _=>nat_leaf)) nat_leaf)) (fun ρ x_ t k=>(by kernel_rfl)) (fun x_ s=>by kernel_rfl))
theorem tableau_Image.ok:CalleeOk Try.prog 20 tableau_Image.ce:=fn_ok (G:=tableau_Image.G) tab_ok mixed Try.func20 ⟨(fns_cons tableau_pure.ok (fns_cons tableau_read.ok (fns_cons tableau_pauli_text.ok fns_nil))),(mfns_cons tableau_pauli_gate.ok mfns_nil),tab_eqs_ok⟩ (m:=2) (by kernel_rfl) ⟨⟨trivial,tableau_Image.p0⟩,tableau_Image.p1⟩ (by kernel_rfl) tableau_Image.eq
abbrev tb74:SD:=.one (.ref 12 0)
def Law_CodeEncodes.c3 {ρ:Type} (f0:Int) (f1:Int) (g0:Int) (g1:Int) (k_:Bool → Option ρ):Option ρ :=
 bnd W.Law_codeBegun fun y =>
 br (!y)
 (k_ true)
 (k_ (!Ty.eqT (Ty.pair (Ty.int IntKind.i64) (Ty.int IntKind.i64)) (f0,f1) (g0,g1)))
def Law_CodeEncodes.c3s:Shape:=⟨[(0,tb0),(1,tb1),(2,tb7),(3,tb12),(4,tb6),(5,tb39)],[(1,tb3),(3,tb34),(4,tb19),(5,tb19)]⟩
def Law_CodeEncodes.c3x0:Shape:=⟨[(0,tb0),(1,tb1),(2,tb7),(3,tb12),(4,tb6),(5,tb39),(27,tb7)],[(1,tb3),(3,tb34),(4,tb19),(5,tb19)]⟩
def Law_CodeEncodes.c3r:Ck:=Ck.of (T:=Bool) Law_CodeEncodes.c3s (fun ρ x_ k_=>Law_CodeEncodes.c3 x_.2.2.2.2.2.2.2.1 x_.2.2.2.2.2.2.2.2.1 x_.2.2.2.2.2.2.2.2.2.1 x_.2.2.2.2.2.2.2.2.2.2.1 k_) (fun ρ x_ r_ k_=>k_ 0 (Shape.inj Law_CodeEncodes.c3x0 (x_.1,x_.2.1,r_,x_.2.2)))
def Law_CodeEncodes.c9 {ρ:Type} (c0:Int) (e0:Int) (e1:Int) (e2:List (Int×(Int×((List Int)×(Int×(Int×(List Int))))))) (h0:Int) (t70:Int) (k_:Bool → Option ρ):Option ρ :=
 br (h0 != (0:Int))
 (k_ true)
 (br (t70 != (0:Int))
 (k_ true)
 (br (e0 != c0)
 (k_ true)
 (br (e1 != (0:Int))
 (k_ true)
 (k_ (decide ((↑(List.length e2):Int) > IntKind.wrap IntKind.i64 (IntKind.wrap IntKind.i64 ((8:Int) * c0) * IntKind.wrap IntKind.i64 (c0 + (1:Int)))))))))
def Law_CodeEncodes.c9s:Shape:=⟨[(0,tb0),(1,tb1),(2,tb7),(3,tb12),(4,tb6),(5,tb39),(6,tb8),(7,tb42)],[(1,tb3),(3,tb34),(4,tb19),(5,tb19),(6,tb19),(7,tb19)]⟩
def Law_CodeEncodes.c9x0:Shape:=⟨[(0,tb0),(1,tb1),(2,tb7),(3,tb12),(4,tb6),(5,tb39),(6,tb8),(7,tb42),(70,tb7)],[(1,tb3),(3,tb34),(4,tb19),(5,tb19),(6,tb19),(7,tb19)]⟩
def Law_CodeEncodes.c9r:Ck:=Ck.of (T:=Bool) Law_CodeEncodes.c9s (fun ρ x_ k_=>Law_CodeEncodes.c9 x_.2.2.1 x_.2.2.2.2.1 x_.2.2.2.2.2.1 x_.2.2.2.2.2.2.1 x_.2.2.2.2.2.2.2.2.2.2.2.1 x_.2.2.2.2.2.2.2.2.2.2.2.2.2.1 k_) (fun ρ x_ r_ k_=>k_ 0 (Shape.inj Law_CodeEncodes.c9x0 (x_.1,x_.2.1,r_,x_.2.2)))
def Law_CodeEncodes.c273734 {ρ:Type} (i:Int) (z:List UInt8) (q:Int) (k_:List UInt8 → Option ρ):Option ρ :=
 br (q == i)
 (bnd (okIf (decide (List.length z + List.length (Array.toList (ByteArray.data (ByteArray.mk #[(90:UInt8)]))) ≤ (9223372036854775807:Nat)))) fun y =>
 k_ (z ++ Array.toList (ByteArray.data (ByteArray.mk #[(90:UInt8)]))))
 (bnd (okIf (decide (List.length z + List.length (Array.toList (ByteArray.data (ByteArray.mk #[(73:UInt8)]))) ≤ (9223372036854775807:Nat)))) fun y_1 =>
 k_ (z ++ Array.toList (ByteArray.data (ByteArray.mk #[(73:UInt8)]))))
def Law_CodeEncodes.c273734s:Shape:=⟨[(0,tb0),(1,tb1),(2,tb7),(3,tb12),(4,tb6),(5,tb39),(6,tb8),(7,tb42),(8,tb5),(9,tb4),(10,tb5)],[(1,tb3),(3,tb34),(4,tb19),(5,tb19),(6,tb19),(7,tb19)]⟩
def Law_CodeEncodes.c273734x0:Shape:=Law_CodeEncodes.c273734s
def Law_CodeEncodes.c273734r:Ck:=Ck.of (T:=List UInt8) Law_CodeEncodes.c273734s (fun ρ x_ k_=>Law_CodeEncodes.c273734 x_.2.2.1 x_.2.2.2.1 x_.2.2.2.2.1 k_) (fun ρ x_ r_ k_=>k_ 0 (Shape.inj Law_CodeEncodes.c273734x0 (x_.1,x_.2.1,x_.2.2.1,r_,x_.2.2.2.2)))
def Law_CodeEncodes.c100016 {ρ:Type} (i:Int) (z:List UInt8) (q:Int) (c0:Int) (k_:((List UInt8)×Int) ⊕ ((List UInt8)×Int) → Option ρ):Option ρ :=
 br (decide (q < c0))
 (bnd (W.Law_CodeEncodes.c273734 i z q some) fun y =>
 k_ (.inl (y,(IntKind.wrap IntKind.i64 (q + (1:Int))))))
 (k_ (.inr (z,q)))
def Law_CodeEncodes.c100016s:Shape:=Law_CodeEncodes.c273734s
def Law_CodeEncodes.c100016x0:Shape:=Law_CodeEncodes.c273734s
def Law_CodeEncodes.c100016r:Ck:=Ck.ofLoop (S:=(List UInt8)×Int) (T:=(List UInt8)×Int) Law_CodeEncodes.c100016s (fun x_=>(x_.2.2.2.1,x_.2.2.2.2.1)) (fun ρ x_ s_ k_=>Law_CodeEncodes.c100016 x_.2.2.1 s_.1 s_.2 x_.2.2.2.2.2.1 k_) (fun ρ x_ r_ k_=>k_ 4 (Shape.inj Law_CodeEncodes.c100016x0 (x_.1,x_.2.1,x_.2.2.1,r_.1,r_.2,x_.2.2.2.2.2)))
def Law_CodeEncodes.c22 {ρ:Type} (i:Int) (image:List UInt8) (c1:List (List UInt8)) (f0_1:Int) (k_:Bool → Option ρ):Option ρ :=
 br (f0_1 != (0:Int))
 (k_ true)
 (bnd (idx c1 i) fun y =>
 k_ (!image == y))
def Law_CodeEncodes.c22s:Shape:=⟨[(0,tb0),(1,tb1),(2,tb7),(3,tb12),(4,tb6),(5,tb39),(6,tb8),(7,tb42),(8,tb5),(9,tb4),(10,tb5),(11,tb4),(12,tb74)],[(1,tb3),(3,tb34),(4,tb19),(5,tb19),(6,tb19),(7,tb19),(12,tb19)]⟩
def Law_CodeEncodes.c22x0:Shape:=⟨[(0,tb0),(1,tb1),(2,tb7),(3,tb12),(4,tb6),(5,tb39),(6,tb8),(7,tb42),(8,tb5),(9,tb4),(10,tb5),(11,tb4),(12,tb74),(108,tb7)],[(1,tb3),(3,tb34),(4,tb19),(5,tb19),(6,tb19),(7,tb19),(12,tb19)]⟩
def Law_CodeEncodes.c22r:Ck:=Ck.of (T:=Bool) Law_CodeEncodes.c22s (fun ρ x_ k_=>Law_CodeEncodes.c22 x_.2.2.1 x_.2.2.2.2.2.1 x_.2.2.2.2.2.2.2.1 x_.2.2.2.2.2.2.2.2.2.2.2.2.2.2.2.2.2.2.2.1 k_) (fun ρ x_ r_ k_=>k_ 0 (Shape.inj Law_CodeEncodes.c22x0 (x_.1,x_.2.1,x_.2.2.1,x_.2.2.2.1,x_.2.2.2.2.1,x_.2.2.2.2.2.1,r_,x_.2.2.2.2.2.2)))
def Law_CodeEncodes.c100012 {ρ:Type} (i:Int) (c0:Int) (c1:List (List UInt8)) (e0:Int) (e1:Int) (e2:List (Int×(Int×((List Int)×(Int×(Int×(List Int))))))) (k_:Int ⊕ (Int ⊕ Int) → Option ρ):Option ρ :=
 br (decide (i < (↑(List.length c1):Int)))
 (bnd (iter (fun s ↦ W.Law_CodeEncodes.c100016 i (Prod.fst s) (Prod.snd s) c0 some) (Array.toList (ByteArray.data (ByteArray.mk #[(43:UInt8)])),(0:Int))) fun y =>
 bnd (W.tableau_Image (e0,e1,e2) (Prod.fst y)) fun y_1 =>
 bnd (W.Law_CodeEncodes.c22 i (Prod.fst y_1) c1 (Prod.fst (Prod.snd y_1)) some) fun y_2 =>
 br y_2
 (k_ (.inr (.inl i)))
 (k_ (.inl (IntKind.wrap IntKind.i64 (i + (1:Int))))))
 (k_ (.inr (.inr i)))
def Law_CodeEncodes.c100012s:Shape:=⟨[(0,tb0),(1,tb1),(2,tb7),(3,tb12),(4,tb6),(5,tb39),(6,tb8),(7,tb42),(8,tb5)],[(1,tb3),(3,tb34),(4,tb19),(5,tb19),(6,tb19),(7,tb19)]⟩
def Law_CodeEncodes.c100012x0:Shape:=Law_CodeEncodes.c100012s
def Law_CodeEncodes.c100012x1:Shape:=Law_CodeEncodes.c100012s
def Law_CodeEncodes.c100012r:Ck:=Ck.ofLoop (S:=Int) (T:=Int ⊕ Int) Law_CodeEncodes.c100012s (fun x_=>x_.2.2.1) (fun ρ x_ s_ k_=>Law_CodeEncodes.c100012 s_ x_.2.2.2.1 x_.2.2.2.2.1 x_.2.2.2.2.2.1 x_.2.2.2.2.2.2.1 x_.2.2.2.2.2.2.2.1 k_) (fun ρ x_ r_ k_=>sel r_ (fun r_=>k_ 1 (Shape.inj Law_CodeEncodes.c100012x0 (x_.1,false,r_,x_.2.2.2))) (fun r_=>k_ 2 (Shape.inj Law_CodeEncodes.c100012x1 (x_.1,x_.2.1,r_,x_.2.2.2))))
def Law_CodeEncodes (c:Int×(List (List UInt8))):Option (Bool) :=
 bnd (W.Law_copyCode (Prod.fst c,Prod.snd c)) fun y =>
 bnd (W.code_Encoder y) fun y_1 =>
 bnd (W.R_CheckCode (Prod.fst c,Prod.snd c)) fun y_2 =>
 bnd (W.Law_CodeEncodes.c3 (Prod.fst (Prod.snd y_1)) (Prod.snd (Prod.snd y_1)) (Prod.fst y_2) (Prod.snd y_2) some) fun y_3 =>
 br y_3
 (some false)
 (br (Prod.fst y_2 != (0:Int))
 (bnd (W.R_SameCircuit (Prod.fst (Prod.fst y_1),Prod.fst (Prod.snd (Prod.fst y_1)),Prod.snd (Prod.snd (Prod.fst y_1))) ((0:Int),(0:Int),[])) fun y_4 =>
 some y_4)
 (bnd (W.R_Pure (Prod.fst (Prod.fst y_1),Prod.fst (Prod.snd (Prod.fst y_1)),Prod.snd (Prod.snd (Prod.fst y_1)))) fun y_5 =>
 bnd (W.R_NormalFault (Prod.fst (Prod.fst y_1),Prod.fst (Prod.snd (Prod.fst y_1)),Prod.snd (Prod.snd (Prod.fst y_1)))) fun y_6 =>
 bnd (W.Law_CodeEncodes.c9 (Prod.fst c) (Prod.fst (Prod.fst y_1)) (Prod.fst (Prod.snd (Prod.fst y_1))) (Prod.snd (Prod.snd (Prod.fst y_1))) (Prod.fst y_5) (Prod.fst y_6) some) fun y_7 =>
 br y_7
 (some false)
 (bnd (iter (fun s ↦ W.Law_CodeEncodes.c100012 s (Prod.fst c) (Prod.snd c) (Prod.fst (Prod.fst y_1)) (Prod.fst (Prod.snd (Prod.fst y_1))) (Prod.snd (Prod.snd (Prod.fst y_1))) some) (0:Int)) fun y_8 =>
 sel y_8
 (fun u=>some false)
 (fun v=>some true))))
def Law_CodeEncodes.ce:Go.Ql.Callee:=⟨[(.st (.pair (.int .i64) (.sl .str)))],[.bool],fun x_=>Law_CodeEncodes x_⟩
def Law_CodeEncodes.G:Env:=⟨109,tab,[(28,Law_copyCode.ce),(27,code_Encoder.ce),(29,R_CheckCode.ce),(30,Law_codeBegun.ce),(11,R_SameCircuit.ce),(21,R_Pure.ce),(22,R_NormalFault.ce),(20,tableau_Image.ce)],[0,1,2,3,4,5,6,7,8,9,10,11,12,27,30,70,75,81,86,108],[],[],[(100012,Law_CodeEncodes.c100012r),(22,Law_CodeEncodes.c22r),(100016,Law_CodeEncodes.c100016r),(273734,Law_CodeEncodes.c273734r),(9,Law_CodeEncodes.c9r),(3,Law_CodeEncodes.c3r)],[],tab_eqs⟩
theorem Law_CodeEncodes.eq (x_:dens Law_CodeEncodes.ce.params):den Law_CodeEncodes.G Try.f6 Law_CodeEncodes.ce.params Law_CodeEncodes.ce.res x_ = Law_CodeEncodes.ce.F x_:=by kernel_rfl
theorem Law_CodeEncodes.p0:PcA Law_CodeEncodes.G Try.f6 0 :=
 region_ok (s:=Law_CodeEncodes.c3r) (by kernel_rfl) (by kernel_rfl) (sums_of (sh:=Law_CodeEncodes.c3s) (fun ρ x_ k_=>(nat_bnd fun _=>(nat_br nat_leaf nat_leaf))) (fun ρ x_ t k=>(by kernel_rfl)) (fun x_=>by kernel_rfl))
theorem Law_CodeEncodes.p1:PcA Law_CodeEncodes.G Try.f6 1 :=
 region_ok (s:=Law_CodeEncodes.c9r) (by kernel_rfl) (by kernel_rfl) (sums_of (sh:=Law_CodeEncodes.c9s) (fun ρ x_ k_=>(nat_br nat_leaf (nat_br nat_leaf (nat_br nat_leaf (nat_br nat_leaf nat_leaf))))) (fun ρ x_ t k=>(by kernel_rfl)) (fun x_=>by kernel_rfl))
theorem Law_CodeEncodes.p2:PcA Law_CodeEncodes.G Try.f6 2 :=
 loop_ok (s:=Law_CodeEncodes.c100012r) (by kernel_rfl) (by kernel_rfl) (loops_of (sh:=Law_CodeEncodes.c100012s) (I:=fun x_ s_=>(x_.1,x_.2.1,s_,x_.2.2.2)) (fun x_=>rfl) (fun ρ x_ s_ k_=>(nat_br (nat_bnd fun _=>(nat_bnd fun _=>(nat_bnd fun _=>(nat_br nat_leaf nat_leaf)))) nat_leaf)) (fun ρ x_ t k=>(nat_sel (fun _=>(by kernel_rfl)) (fun _=>(by kernel_rfl)))) (fun x_ s=>by kernel_rfl))
theorem Law_CodeEncodes.p3:PcA Law_CodeEncodes.G Try.f6 3 :=
 loop_ok (s:=Law_CodeEncodes.c100016r) (by kernel_rfl) (by kernel_rfl) (loops_of (sh:=Law_CodeEncodes.c100016s) (I:=fun x_ s_=>(x_.1,x_.2.1,x_.2.2.1,s_.1,s_.2,x_.2.2.2.2.2)) (fun x_=>rfl) (fun ρ x_ s_ k_=>(nat_br (nat_bnd fun _=>nat_leaf) nat_leaf)) (fun ρ x_ t k=>(by kernel_rfl)) (fun x_ s=>by kernel_rfl))
theorem Law_CodeEncodes.p4:PcA Law_CodeEncodes.G Try.f6 4 :=
 join_ok (s:=Law_CodeEncodes.c273734r) (by kernel_rfl) (by kernel_rfl) (sums_of (sh:=Law_CodeEncodes.c273734s) (fun ρ x_ k_=>(nat_br (nat_bnd fun _=>nat_leaf) (nat_bnd fun _=>nat_leaf))) (fun ρ x_ t k=>(by kernel_rfl)) (fun x_=>by kernel_rfl))
theorem Law_CodeEncodes.p5:PcA Law_CodeEncodes.G Try.f6 5 :=
 region_ok (s:=Law_CodeEncodes.c22r) (by kernel_rfl) (by kernel_rfl) (sums_of (sh:=Law_CodeEncodes.c22s) (fun ρ x_ k_=>(nat_br nat_leaf (nat_bnd fun _=>nat_leaf))) (fun ρ x_ t k=>(by kernel_rfl)) (fun x_=>by kernel_rfl))
theorem Law_CodeEncodes.ok:CalleeOk Try.prog 6 Law_CodeEncodes.ce:=fn_ok (G:=Law_CodeEncodes.G) tab_ok mixed Try.func6 ⟨(fns_cons Law_copyCode.ok (fns_cons code_Encoder.ok (fns_cons R_CheckCode.ok (fns_cons Law_codeBegun.ok (fns_cons R_SameCircuit.ok (fns_cons R_Pure.ok (fns_cons R_NormalFault.ok (fns_cons tableau_Image.ok fns_nil)))))))),mfns_nil,tab_eqs_ok⟩ (m:=6) (by kernel_rfl) ⟨⟨⟨⟨⟨⟨trivial,Law_CodeEncodes.p0⟩,Law_CodeEncodes.p1⟩,Law_CodeEncodes.p2⟩,Law_CodeEncodes.p3⟩,Law_CodeEncodes.p4⟩,Law_CodeEncodes.p5⟩ (by kernel_rfl) Law_CodeEncodes.eq
abbrev tb76:SD:=.one (.ref 0 0)
abbrev tb77:SO:=.box [.val (.int .i64),.own 1 0,.own 2 0]
abbrev tb78:SD:=.one (.val (.nilv 0))
abbrev tb79:SD:=.one (.ref 9 0)
abbrev tb80:SO:=.box [.val (.int .i64),.own 2009 0,.own 3009 0]
def tableau_begin.pre:Shape:=⟨[(0,tb5),(1,tb5)],[]⟩
def tableau_begin.post:Shape:=⟨[(0,tb76)],[(0,tb77),(1,tb22),(2,tb22)]⟩
def tableau_begin.c5 {ρ:Type} (t1:Int) (q:Int) (t2009:List (Int×(Int×(Bool)))) (k_:Unit → Option ρ):Option ρ :=
 bnd (okIf (decide ((0:Int) ≤ q))) fun y =>
 bnd (okIf (decide ((0:Int) ≤ q))) fun y_1 =>
 bnd (okIf (decide ((List.length t2009 + (1:Nat)) * (24:Nat) ≤ (140737488355328:Nat)) && decide (List.length t2009 + (1:Nat) ≤ (140737488355328:Nat)))) fun y_2 =>
 k_ ()
def tableau_begin.c5s:Shape:=⟨[(0,tb5),(1,tb5),(4,tb78),(5,tb79),(6,tb5),(10,tb5),(11,tb5)],[(9,tb80),(2009,tb22),(3009,tb22)]⟩
def tableau_begin.c5x0:Shape:=tableau_begin.c5s
def tableau_begin.c5r:Ck:=Ck.of (T:=Unit) tableau_begin.c5s (fun ρ x_ k_=>tableau_begin.c5 x_.2.1 x_.2.2.2.1 x_.2.2.2.2.2.2.2.1 k_) (fun ρ x_ r_ k_=>k_ 0 (Shape.inj tableau_begin.c5x0 (x_.1,x_.2.1,x_.2.2.1,x_.2.2.2.1,x_.2.2.2.2.1,x_.2.2.2.2.2.1,x_.2.2.2.2.2.2.1,(x_.2.2.2.2.2.2.2.1 ++ [((0:Int),IntKind.wrap IntKind.u64 ((1:Int) * (2:Int) ^ Min.min (Int.toNat x_.2.2.2.1) (64:Nat)),ibits BinOp.and IntKind.i64 (Int.fdiv x_.2.1 ((2:Int) ^ Min.min (Int.toNat x_.2.2.2.1) (64:Nat))) (1:Int) == (1:Int))]),x_.2.2.2.2.2.2.2.2)))
def tableau_begin.c6 {ρ:Type} (q:Int) (t3009:List (Int×(Int×(Bool)))) (k_:Unit → Option ρ):Option ρ :=
 bnd (okIf (decide ((0:Int) ≤ q))) fun y =>
 bnd (okIf (decide ((List.length t3009 + (1:Nat)) * (24:Nat) ≤ (140737488355328:Nat)) && decide (List.length t3009 + (1:Nat) ≤ (140737488355328:Nat)))) fun y_1 =>
 k_ ()
def tableau_begin.c6s:Shape:=tableau_begin.c5s
def tableau_begin.c6x0:Shape:=tableau_begin.c5s
def tableau_begin.c6r:Ck:=Ck.of (T:=Unit) tableau_begin.c6s (fun ρ x_ k_=>tableau_begin.c6 x_.2.2.2.1 x_.2.2.2.2.2.2.2.2.1 k_) (fun ρ x_ r_ k_=>k_ 0 (Shape.inj tableau_begin.c6x0 (x_.1,x_.2.1,x_.2.2.1,x_.2.2.2.1,x_.2.2.2.2.1,x_.2.2.2.2.2.1,x_.2.2.2.2.2.2.1,x_.2.2.2.2.2.2.2.1,(x_.2.2.2.2.2.2.2.2.1 ++ [(IntKind.wrap IntKind.u64 ((1:Int) * (2:Int) ^ Min.min (Int.toNat x_.2.2.2.1) (64:Nat)),(0:Int),false)]),())))
def tableau_begin.c100003 {ρ:Type} (t1:Int) (t10:Int) (t11:Int) (t2009:List (Int×(Int×(Bool)))) (t3009:List (Int×(Int×(Bool)))) (k_:(Int×(List (Int×(Int×(Bool))))×(List (Int×(Int×(Bool))))) ⊕ (Int×(List (Int×(Int×(Bool))))×(List (Int×(Int×(Bool))))) → Option ρ):Option ρ :=
 br (decide (t11 < t10))
 (bnd (W.tableau_begin.c5 t1 t11 t2009 some) fun y =>
 bnd (W.tableau_begin.c6 t11 t3009 some) fun y_1 =>
 k_ (.inl ((IntKind.wrap IntKind.i64 (t11 + (1:Int))),(t2009 ++ [((0:Int),IntKind.wrap IntKind.u64 ((1:Int) * (2:Int) ^ Min.min (Int.toNat t11) (64:Nat)),ibits BinOp.and IntKind.i64 (Int.fdiv t1 ((2:Int) ^ Min.min (Int.toNat t11) (64:Nat))) (1:Int) == (1:Int))]),(t3009 ++ [(IntKind.wrap IntKind.u64 ((1:Int) * (2:Int) ^ Min.min (Int.toNat t11) (64:Nat)),(0:Int),false)]))))
 (k_ (.inr (t11,t2009,t3009)))
def tableau_begin.c100003s:Shape:=⟨[(0,tb5),(1,tb5),(4,tb78),(5,tb79),(10,tb5),(11,tb5)],[(9,tb80),(2009,tb22),(3009,tb22)]⟩
def tableau_begin.c100003x0:Shape:=tableau_begin.c100003s
def tableau_begin.c100003r:Ck:=Ck.ofLoop (S:=Int×(List (Int×(Int×(Bool))))×(List (Int×(Int×(Bool))))) (T:=Int×(List (Int×(Int×(Bool))))×(List (Int×(Int×(Bool))))) tableau_begin.c100003s (fun x_=>(x_.2.2.2.2.1,x_.2.2.2.2.2.2.1,x_.2.2.2.2.2.2.2.1)) (fun ρ x_ s_ k_=>tableau_begin.c100003 x_.2.1 x_.2.2.2.1 s_.1 s_.2.1 s_.2.2 k_) (fun ρ x_ r_ k_=>k_ 2 (Shape.inj tableau_begin.c100003x0 (x_.1,x_.2.1,x_.2.2.1,x_.2.2.2.1,r_.1,x_.2.2.2.2.2.1,r_.2.1,r_.2.2,())))
def tableau_begin (n:Int) (t1:Int):Option (Int×(List (Int×(Int×(Bool))))×(List (Int×(Int×(Bool))))×Unit) :=
 bnd (iter (fun s ↦ W.tableau_begin.c100003 t1 n (Prod.fst s) (Prod.fst (Prod.snd s)) (Prod.snd (Prod.snd s)) some) ((0:Int),[],[])) fun y =>
 some (n,Prod.fst (Prod.snd y),Prod.snd (Prod.snd y),())
def tableau_begin.mc:MCallee:=⟨38,tableau_begin.pre,tableau_begin.post,fun x_=>tableau_begin x_.1 x_.2.1⟩
def tableau_begin.G:Env:=⟨45,tab,[],[0,1,4,5,6,10,11,12],[8,9,2009,3009],[(6,[⟨[],[],[32,33,34,35,36,37,38,39,40],[39,3009]⟩,⟨[],[],[31,36,37,38,39],[39]⟩,⟨[1],[],[31,36,37,38,39],[39]⟩,⟨[2,1],[],[31,36,37,38,39],[39]⟩,⟨[3,2,1],[],[31,36,37,38,39],[39]⟩,⟨[],[],[31,32,33,34,35],[]⟩,⟨[5],[],[31,32,33,34,35],[]⟩,⟨[6,5],[],[31,32,33,34,35],[]⟩,⟨[7,6,5],[39],[31,32,33,34,35],[]⟩,⟨[4,3,2,1,8,7,6,5],[3009],[31],[]⟩,⟨[0,1,2,3,4,5,6,7,8,9],[],[],[]⟩,⟨[10,0,1,2,3,4,5,6,7,8,9],[],[],[]⟩,⟨[11,10,0,1,2,3,4,5,6,7,8,9],[9],[],[]⟩]),
 (5,[⟨[],[],[15,16,17,18,19,20,21,22,23,24,25,26,27,28],[27,2009]⟩,⟨[],[],[14,19,20,21,22,23,24,25,26,27],[27]⟩,⟨[1],[],[14,19,20,21,22,23,24,25,26,27],[27]⟩,⟨[2,1],[],[14,19,20,21,22,23,24,25,26,27],[27]⟩,⟨[3,2,1],[],[14,19,20,21,22,23,24,25,26,27],[27]⟩,⟨[],[],[14,15,16,17,18,21,22,23,24,25],[]⟩,⟨[5],[],[14,15,16,17,18,21,22,23,24,25],[]⟩,⟨[],[],[14,15,16,17,18,19,20,22],[]⟩,⟨[],[],[14,15,16,17,18,19,20,21],[]⟩,⟨[7,8],[],[14,15,16,17,18,19,20],[]⟩,⟨[9,7,8],[],[14,15,16,17,18,19,20],[]⟩,⟨[10,9,7,8],[],[14,15,16,17,18,19,20],[]⟩,⟨[6,5,11,10,9,7,8],[],[14,15,16,17,18],[]⟩,⟨[12,6,5,11,10,9,7,8],[27],[14,15,16,17,18],[]⟩,⟨[4,3,2,1,13,12,6,5,11,10,9,7,8],[2009],[14],[]⟩,⟨[0,1,2,3,4,5,6,7,8,9,10,11,12,13,14],[],[],[]⟩,⟨[15,0,1,2,3,4,5,6,7,8,9,10,11,12,13,14],[],[],[]⟩,⟨[16,15,0,1,2,3,4,5,6,7,8,9,10,11,12,13,14],[9],[],[]⟩])],[(100003,tableau_begin.c100003r),(6,tableau_begin.c6r),(5,tableau_begin.c5r)],[],tab_eqs⟩
theorem tableau_begin.eq (x_:densU tableau_begin.mc.pre.tys):denM tableau_begin.G Try.f38 tableau_begin.mc.pre tableau_begin.mc.post x_ = tableau_begin.mc.F x_:=by kernel_rfl
theorem tableau_begin.p0:PcA tableau_begin.G Try.f38 0 :=
 loop_ok (s:=tableau_begin.c100003r) (by kernel_rfl) (by kernel_rfl) (loops_of (sh:=tableau_begin.c100003s) (I:=fun x_ s_=>(x_.1,x_.2.1,x_.2.2.1,x_.2.2.2.1,s_.1,x_.2.2.2.2.2.1,s_.2.1,s_.2.2,())) (fun x_=>rfl) (fun ρ x_ s_ k_=>(nat_br (nat_bnd fun _=>(nat_bnd fun _=>nat_leaf)) nat_leaf)) (fun ρ x_ t k=>(by kernel_rfl)) (fun x_ s=>by kernel_rfl))
theorem tableau_begin.p1:PcA tableau_begin.G Try.f38 1 :=
 region_ok (s:=tableau_begin.c5r) (by kernel_rfl) (by kernel_rfl) (sums_of (sh:=tableau_begin.c5s) (fun ρ x_ k_=>(nat_bnd fun _=>(nat_bnd fun _=>(nat_bnd fun _=>nat_leaf)))) (fun ρ x_ t k=>(by kernel_rfl)) (fun x_=>by kernel_rfl))
theorem tableau_begin.p2:PcA tableau_begin.G Try.f38 2 :=
 region_ok (s:=tableau_begin.c6r) (by kernel_rfl) (by kernel_rfl) (sums_of (sh:=tableau_begin.c6s) (fun ρ x_ k_=>(nat_bnd fun _=>(nat_bnd fun _=>nat_leaf))) (fun ρ x_ t k=>(by kernel_rfl)) (fun x_=>by kernel_rfl))
theorem tableau_begin.ok:MOk Try.prog 38 tableau_begin.mc:=fnm_ok (G:=tableau_begin.G) tab_ok mixed Try.func38 ⟨fns_nil,mfns_nil,tab_eqs_ok⟩ (m:=3) (by kernel_rfl) ⟨⟨⟨trivial,tableau_begin.p0⟩,tableau_begin.p1⟩,tableau_begin.p2⟩ (by kernel_rfl) tableau_begin.eq
abbrev tb81:SO:=.box [.val (.int .i64),.own 1000701 0,.own 1000702 0]
def tableau_table_gate.pre:Shape:=⟨[(0,tb28),(1,tb25)],[(1000700,tb81),(1000701,tb22),(1000702,tb22)]⟩
def tableau_table_gate.post:Shape:=⟨[],[(1000701,tb22),(1000702,tb22),(1000700,tb81)]⟩
def tableau_table_gate.c4 {ρ:Type} (i:Int) (o0:Int) (o1:Int) (o2:List Int) (o3:Int) (o4:Int) (o5:List Int) (t1000701:List (Int×(Int×(Bool)))) (k_:List (Int×(Int×(Bool))) → Option ρ):Option ρ :=
 bnd (inR (List.length t1000701) i) fun y =>
 bnd (idx t1000701 i) fun y_1 =>
 bnd (W.tableau_pauli_gate (y_1,(o0,o1,o2,o3,o4,o5),())) fun y_2 =>
 bnd (inR (List.length t1000701) i) fun y_3 =>
 bnd (idx t1000701 i) fun y_4 =>
 k_ (List.set t1000701 (Int.toNat i) (Prod.fst y_2))
def tableau_table_gate.c4s:Shape:=⟨[(0,tb28),(1,tb25),(3,tb12),(4,tb5),(8,tb5),(9,tb5)],[(3,tb26),(1000700,tb81),(1000701,tb22),(1000702,tb22)]⟩
def tableau_table_gate.c4x0:Shape:=tableau_table_gate.c4s
def tableau_table_gate.c4r:Ck:=Ck.of (T:=List (Int×(Int×(Bool)))) tableau_table_gate.c4s (fun ρ x_ k_=>tableau_table_gate.c4 x_.2.1 x_.2.2.2.2.1 x_.2.2.2.2.2.1 x_.2.2.2.2.2.2.1 x_.2.2.2.2.2.2.2.1 x_.2.2.2.2.2.2.2.2.1 x_.2.2.2.2.2.2.2.2.2.1 x_.2.2.2.2.2.2.2.2.2.2.2.1 k_) (fun ρ x_ r_ k_=>k_ 0 (Shape.inj tableau_table_gate.c4x0 (x_.1,x_.2.1,x_.2.2.1,x_.2.2.2.1,x_.2.2.2.2.1,x_.2.2.2.2.2.1,x_.2.2.2.2.2.2.1,x_.2.2.2.2.2.2.2.1,x_.2.2.2.2.2.2.2.2.1,x_.2.2.2.2.2.2.2.2.2.1,x_.2.2.2.2.2.2.2.2.2.2.1,r_,x_.2.2.2.2.2.2.2.2.2.2.2.2)))
def tableau_table_gate.c5 {ρ:Type} (i:Int) (o0:Int) (o1:Int) (o2:List Int) (o3:Int) (o4:Int) (o5:List Int) (t1000702:List (Int×(Int×(Bool)))) (k_:List (Int×(Int×(Bool))) → Option ρ):Option ρ :=
 bnd (inR (List.length t1000702) i) fun y =>
 bnd (idx t1000702 i) fun y_1 =>
 bnd (W.tableau_pauli_gate (y_1,(o0,o1,o2,o3,o4,o5),())) fun y_2 =>
 bnd (inR (List.length t1000702) i) fun y_3 =>
 bnd (idx t1000702 i) fun y_4 =>
 k_ (List.set t1000702 (Int.toNat i) (Prod.fst y_2))
def tableau_table_gate.c5s:Shape:=tableau_table_gate.c4s
def tableau_table_gate.c5x0:Shape:=tableau_table_gate.c4s
def tableau_table_gate.c5r:Ck:=Ck.of (T:=List (Int×(Int×(Bool)))) tableau_table_gate.c5s (fun ρ x_ k_=>tableau_table_gate.c5 x_.2.1 x_.2.2.2.2.1 x_.2.2.2.2.2.1 x_.2.2.2.2.2.2.1 x_.2.2.2.2.2.2.2.1 x_.2.2.2.2.2.2.2.2.1 x_.2.2.2.2.2.2.2.2.2.1 x_.2.2.2.2.2.2.2.2.2.2.2.2.1 k_) (fun ρ x_ r_ k_=>k_ 0 (Shape.inj tableau_table_gate.c5x0 (x_.1,x_.2.1,x_.2.2.1,x_.2.2.2.1,x_.2.2.2.2.1,x_.2.2.2.2.2.1,x_.2.2.2.2.2.2.1,x_.2.2.2.2.2.2.2.1,x_.2.2.2.2.2.2.2.2.1,x_.2.2.2.2.2.2.2.2.2.1,x_.2.2.2.2.2.2.2.2.2.2.1,x_.2.2.2.2.2.2.2.2.2.2.2.1,r_,())))
def tableau_table_gate.c100002 {ρ:Type} (t8:Int) (t9:Int) (o0:Int) (o1:Int) (o2:List Int) (o3:Int) (o4:Int) (o5:List Int) (t1000701:List (Int×(Int×(Bool)))) (t1000702:List (Int×(Int×(Bool)))) (k_:(Int×(List (Int×(Int×(Bool))))×(List (Int×(Int×(Bool))))) ⊕ (Int×(List (Int×(Int×(Bool))))×(List (Int×(Int×(Bool))))) → Option ρ):Option ρ :=
 br (decide (t9 < t8))
 (bnd (W.tableau_table_gate.c4 t9 o0 o1 o2 o3 o4 o5 t1000701 some) fun y =>
 bnd (W.tableau_table_gate.c5 t9 o0 o1 o2 o3 o4 o5 t1000702 some) fun y_1 =>
 k_ (.inl ((IntKind.wrap IntKind.i64 (t9 + (1:Int))),y,y_1)))
 (k_ (.inr (t9,t1000701,t1000702)))
def tableau_table_gate.c100002s:Shape:=⟨[(0,tb28),(1,tb25),(3,tb12),(8,tb5),(9,tb5)],[(3,tb26),(1000700,tb81),(1000701,tb22),(1000702,tb22)]⟩
def tableau_table_gate.c100002x0:Shape:=tableau_table_gate.c100002s
def tableau_table_gate.c100002r:Ck:=Ck.ofLoop (S:=Int×(List (Int×(Int×(Bool))))×(List (Int×(Int×(Bool))))) (T:=Int×(List (Int×(Int×(Bool))))×(List (Int×(Int×(Bool))))) tableau_table_gate.c100002s (fun x_=>(x_.2.2.1,x_.2.2.2.2.2.2.2.2.2.2.1,x_.2.2.2.2.2.2.2.2.2.2.2.1)) (fun ρ x_ s_ k_=>tableau_table_gate.c100002 x_.2.1 s_.1 x_.2.2.2.1 x_.2.2.2.2.1 x_.2.2.2.2.2.1 x_.2.2.2.2.2.2.1 x_.2.2.2.2.2.2.2.1 x_.2.2.2.2.2.2.2.2.1 s_.2.1 s_.2.2 k_) (fun ρ x_ r_ k_=>k_ 2 (Shape.inj tableau_table_gate.c100002x0 (x_.1,x_.2.1,r_.1,x_.2.2.2.1,x_.2.2.2.2.1,x_.2.2.2.2.2.1,x_.2.2.2.2.2.2.1,x_.2.2.2.2.2.2.2.1,x_.2.2.2.2.2.2.2.2.1,x_.2.2.2.2.2.2.2.2.2.1,r_.2.1,r_.2.2,())))
def tableau_table_gate (o:Int×(Int×((List Int)×(Int×(Int×(List Int)))))) (t10007000:Int) (t1000701:List (Int×(Int×(Bool)))) (t1000702:List (Int×(Int×(Bool)))):Option ((List (Int×(Int×(Bool))))×(List (Int×(Int×(Bool))))×Int×Unit) :=
 bnd (iter (fun s ↦ W.tableau_table_gate.c100002 t10007000 (Prod.fst s) (Prod.fst o) (Prod.fst (Prod.snd o)) (Prod.fst (Prod.snd (Prod.snd o))) (Prod.fst (Prod.snd (Prod.snd (Prod.snd o)))) (Prod.fst (Prod.snd (Prod.snd (Prod.snd (Prod.snd o))))) (Prod.snd (Prod.snd (Prod.snd (Prod.snd (Prod.snd o))))) (Prod.fst (Prod.snd s)) (Prod.snd (Prod.snd s)) some) ((0:Int),t1000701,t1000702)) fun y =>
 some (Prod.fst (Prod.snd y),Prod.snd (Prod.snd y),t10007000,())
def tableau_table_gate.mc:MCallee:=⟨40,tableau_table_gate.pre,tableau_table_gate.post,fun x_=>tableau_table_gate x_.1 x_.2.1 x_.2.2.1 x_.2.2.2.1⟩
def tableau_table_gate.G:Env:=⟨43,tab,[],[0,1,3,4,8,9,10],[1000700,1000701,1000702],[(5,[⟨[],[],[31,32,33,34,35,36,37,38,39,40],[]⟩,⟨[0],[],[31,32,33,34,35,36,37,38,39,40],[]⟩,⟨[1,0],[],[31,32,33,34,35,36,37,38,39,40],[]⟩,⟨[2,1,0],[],[31,32,33,34,35,36,37,38,39,40],[]⟩,⟨[],[],[27,28,29,30,32,33,34,35,36,37,38,39,40],[]⟩,⟨[],[],[27,28,29,30,31,36,39],[]⟩,⟨[5],[],[27,28,29,30,31,36,39],[]⟩,⟨[6,5],[],[27,28,29,30,31,36,39],[]⟩,⟨[7,6,5],[],[27,28,29,30,31,36,39],[]⟩,⟨[],[],[27,28,29,30,31,32,33,34,35,39],[]⟩,⟨[8,7,6,5,9],[],[27,28,29,30,31,39],[]⟩,⟨[10,8,7,6,5,9],[],[27,28,29,30,31,39],[]⟩,⟨[],[],[27,28,29,30,31,32,33,34,35,36,37,38],[]⟩,⟨[11,10,8,7,6,5,9,12],[],[27,28,29,30,31],[]⟩,⟨[3,2,1,0,4,5,6,7,8,9,10,11,12,13],[],[],[]⟩,⟨[14,3,2,1,0,4,5,6,7,8,9,10,11,12,13],[1000702],[],[]⟩]),
 (4,[⟨[],[],[16,17,18,19,20,21,22,23,24,25],[]⟩,⟨[0],[],[16,17,18,19,20,21,22,23,24,25],[]⟩,⟨[1,0],[],[16,17,18,19,20,21,22,23,24,25],[]⟩,⟨[2,1,0],[],[16,17,18,19,20,21,22,23,24,25],[]⟩,⟨[],[],[12,13,14,15,17,18,19,20,21,22,23,24,25],[]⟩,⟨[],[],[12,13,14,15,16,21,24],[]⟩,⟨[5],[],[12,13,14,15,16,21,24],[]⟩,⟨[6,5],[],[12,13,14,15,16,21,24],[]⟩,⟨[7,6,5],[],[12,13,14,15,16,21,24],[]⟩,⟨[],[],[12,13,14,15,16,17,18,19,20,24],[]⟩,⟨[8,7,6,5,9],[],[12,13,14,15,16,24],[]⟩,⟨[10,8,7,6,5,9],[],[12,13,14,15,16,24],[]⟩,⟨[],[],[12,13,14,15,16,17,18,19,20,21,22,23],[]⟩,⟨[11,10,8,7,6,5,9,12],[],[12,13,14,15,16],[]⟩,⟨[3,2,1,0,4,5,6,7,8,9,10,11,12,13],[],[],[]⟩,⟨[14,3,2,1,0,4,5,6,7,8,9,10,11,12,13],[1000701],[],[]⟩])],[(100002,tableau_table_gate.c100002r),(5,tableau_table_gate.c5r),(4,tableau_table_gate.c4r)],[(57,tableau_pauli_gate.mc)],tab_eqs⟩
theorem tableau_table_gate.eq (x_:densU tableau_table_gate.mc.pre.tys):denM tableau_table_gate.G Try.f40 tableau_table_gate.mc.pre tableau_table_gate.mc.post x_ = tableau_table_gate.mc.F x_:=by kernel_rfl
theorem tableau_table_gate.p0:PcA tableau_table_gate.G Try.f40 0 :=
 loop_ok (s:=tableau_table_gate.c100002r) (by kernel_rfl) (by kernel_rfl) (loops_of (sh:=tableau_table_gate.c100002s) (I:=fun x_ s_=>(x_.1,x_.2.1,s_.1,x_.2.2.2.1,x_.2.2.2.2.1,x_.2.2.2.2.2.1,x_.2.2.2.2.2.2.1,x_.2.2.2.2.2.2.2.1,x_.2.2.2.2.2.2.2.2.1,x_.2.2.2.2.2.2.2.2.2.1,s_.2.1,s_.2.2,())) (fun x_=>rfl) (fun ρ x_ s_ k_=>(nat_br (nat_bnd fun _=>(nat_bnd fun _=>nat_leaf)) nat_leaf)) (fun ρ x_ t k=>(by kernel_rfl)) (fun x_ s=>by kernel_rfl))
theorem tableau_table_gate.p1:PcA tableau_table_gate.G Try.f40 1 :=
 region_ok (s:=tableau_table_gate.c4r) (by kernel_rfl) (by kernel_rfl) (sums_of (sh:=tableau_table_gate.c4s) (fun ρ x_ k_=>(nat_bnd fun _=>(nat_bnd fun _=>(nat_bnd fun _=>(nat_bnd fun _=>(nat_bnd fun _=>nat_leaf)))))) (fun ρ x_ t k=>(by kernel_rfl)) (fun x_=>by kernel_rfl))
theorem tableau_table_gate.p2:PcA tableau_table_gate.G Try.f40 2 :=
 region_ok (s:=tableau_table_gate.c5r) (by kernel_rfl) (by kernel_rfl) (sums_of (sh:=tableau_table_gate.c5s) (fun ρ x_ k_=>(nat_bnd fun _=>(nat_bnd fun _=>(nat_bnd fun _=>(nat_bnd fun _=>(nat_bnd fun _=>nat_leaf)))))) (fun ρ x_ t k=>(by kernel_rfl)) (fun x_=>by kernel_rfl))
theorem tableau_table_gate.ok:MOk Try.prog 40 tableau_table_gate.mc:=fnm_ok (G:=tableau_table_gate.G) tab_ok mixed Try.func40 ⟨fns_nil,(mfns_cons tableau_pauli_gate.ok mfns_nil),tab_eqs_ok⟩ (m:=3) (by kernel_rfl) ⟨⟨⟨trivial,tableau_table_gate.p0⟩,tableau_table_gate.p1⟩,tableau_table_gate.p2⟩ (by kernel_rfl) tableau_table_gate.eq
def tableau_table_measure_1.pre:Shape:=⟨[(0,tb11),(1,tb51)],[(1000200,tb9)]⟩
def tableau_table_measure_1.post:Shape:=⟨[(0,tb7)],[(1000200,tb9)]⟩
def tableau_table_measure_1 (p:Int×(Int×(Bool))) (t10002000:Int) (t10002001:Int) (t10002002:Bool):Option ((Bool)×Int×Int×(Bool)×Unit) :=
 bnd (W.tableau_pauli_meets (Prod.fst p,Prod.fst (Prod.snd p),Prod.snd (Prod.snd p)) (t10002000,t10002001,t10002002)) fun y =>
 some (y,t10002000,t10002001,t10002002,())
def tableau_table_measure_1.mc:MCallee:=⟨84,tableau_table_measure_1.pre,tableau_table_measure_1.post,fun x_=>tableau_table_measure_1 x_.1 x_.2.1 x_.2.2.1 x_.2.2.2.1⟩
def tableau_table_measure_1.G:Env:=⟨7,tab,[(85,tableau_pauli_meets.ce)],[0,1,2,3],[1000200],[],[],[],tab_eqs⟩
theorem tableau_table_measure_1.eq (x_:densU tableau_table_measure_1.mc.pre.tys):denM tableau_table_measure_1.G Try.f84 tableau_table_measure_1.mc.pre tableau_table_measure_1.mc.post x_ = tableau_table_measure_1.mc.F x_:=by kernel_rfl
theorem tableau_table_measure_1.ok:MOk Try.prog 84 tableau_table_measure_1.mc:=fnm_ok (G:=tableau_table_measure_1.G) tab_ok mixed Try.func84 ⟨(fns_cons tableau_pauli_meets.ok fns_nil),mfns_nil,tab_eqs_ok⟩ (m:=0) (by kernel_rfl) trivial (by kernel_rfl) tableau_table_measure_1.eq
abbrev tb82:SD:=.one (.win 2000000 0)
abbrev tb83:SO:=.clo 84 [] [.ref 1000200 0]
def slices_IndexFunc_tableau_pauli__meas.pre:Shape:=⟨[(0,tb82),(1,tb69)],[(1000140,tb83),(1000200,tb9),(2000000,tb22)]⟩
def slices_IndexFunc_tableau_pauli__meas.post:Shape:=⟨[(0,tb5)],[(1000140,tb83),(1000200,tb9),(2000000,tb22)]⟩
def slices_IndexFunc_tableau_pauli__meas.c100002 {ρ:Type} (slo:Int) (sn:Int) (t7:Int) (t8:Int) (t10002000:Int) (t10002001:Int) (t10002002:Bool) (t2000000:List (Int×(Int×(Bool)))) (k_:(Int×Int×Int×(Bool)) ⊕ ((Int×Int×Int×Int×(Bool)) ⊕ (Int×Int×Int×(Bool))) → Option ρ):Option ρ :=
 br (decide (t8 < t7))
 (bnd (okIf (decide ((0:Ty.den (Ty.int IntKind.i64)) ≤ t8) && decide (t8 < sn))) fun y =>
 bnd (idx t2000000 (slo + t8)) fun y_1 =>
 bnd (W.tableau_table_measure_1 y_1 t10002000 t10002001 t10002002) fun y_2 =>
 br (Prod.fst y_2)
 (k_ (.inr (.inl (t8,t8,(Prod.fst y_2.2),(Prod.fst y_2.2.2),(Prod.fst y_2.2.2.2)))))
 (k_ (.inl ((IntKind.wrap IntKind.i64 (t8 + (1:Int))),(Prod.fst y_2.2),(Prod.fst y_2.2.2),(Prod.fst y_2.2.2.2)))))
 (k_ (.inr (.inr (t8,t10002000,t10002001,t10002002))))
def slices_IndexFunc_tableau_pauli__meas.c100002s:Shape:=⟨[(0,tb82),(1,tb69),(4,tb5),(7,tb5),(8,tb5)],[(1000140,tb83),(1000200,tb9),(2000000,tb22)]⟩
def slices_IndexFunc_tableau_pauli__meas.c100002x0:Shape:=slices_IndexFunc_tableau_pauli__meas.c100002s
def slices_IndexFunc_tableau_pauli__meas.c100002x1:Shape:=slices_IndexFunc_tableau_pauli__meas.c100002s
def slices_IndexFunc_tableau_pauli__meas.c100002r:Ck:=Ck.ofLoop (S:=Int×Int×Int×(Bool)) (T:=(Int×Int×Int×Int×(Bool)) ⊕ (Int×Int×Int×(Bool))) slices_IndexFunc_tableau_pauli__meas.c100002s (fun x_=>(x_.2.2.2.2.1,x_.2.2.2.2.2.1,x_.2.2.2.2.2.2.1,x_.2.2.2.2.2.2.2.1)) (fun ρ x_ s_ k_=>slices_IndexFunc_tableau_pauli__meas.c100002 x_.1 x_.2.1 x_.2.2.2.1 s_.1 s_.2.1 s_.2.2.1 s_.2.2.2 x_.2.2.2.2.2.2.2.2.1 k_) (fun ρ x_ r_ k_=>sel r_ (fun r_=>k_ 1 (Shape.inj slices_IndexFunc_tableau_pauli__meas.c100002x0 (x_.1,x_.2.1,r_.1,x_.2.2.2.1,r_.2.1,r_.2.2.1,r_.2.2.2.1,r_.2.2.2.2,x_.2.2.2.2.2.2.2.2))) (fun r_=>k_ 2 (Shape.inj slices_IndexFunc_tableau_pauli__meas.c100002x1 (x_.1,x_.2.1,x_.2.2.1,x_.2.2.2.1,r_.1,r_.2.1,r_.2.2.1,r_.2.2.2,x_.2.2.2.2.2.2.2.2))))
def slices_IndexFunc_tableau_pauli__meas (slo:Int) (sn:Int) (t10002000:Int) (t10002001:Int) (t10002002:Bool) (t2000000:List (Int×(Int×(Bool)))):Option (Int×Int×Int×(Bool)×(List (Int×(Int×(Bool))))×Unit) :=
 bnd (iter (fun s ↦ W.slices_IndexFunc_tableau_pauli__meas.c100002 slo sn (↑(List.length (part slo sn t2000000)):Int) (Prod.fst s) (Prod.fst (Prod.snd s)) (Prod.fst (Prod.snd (Prod.snd s))) (Prod.snd (Prod.snd (Prod.snd s))) t2000000 some) ((0:Int),t10002000,t10002001,t10002002)) fun y =>
 sel y
 (fun u=>some (Prod.fst u,Prod.fst (Prod.snd (Prod.snd u)),Prod.fst (Prod.snd (Prod.snd (Prod.snd u))),Prod.snd (Prod.snd (Prod.snd (Prod.snd u))),t2000000,()))
 (fun v=>some ((-1:Int),Prod.fst (Prod.snd v),Prod.fst (Prod.snd (Prod.snd v)),Prod.snd (Prod.snd (Prod.snd v)),t2000000,()))
def slices_IndexFunc_tableau_pauli__meas.mc:MCallee:=⟨83,slices_IndexFunc_tableau_pauli__meas.pre,slices_IndexFunc_tableau_pauli__meas.post,fun x_=>slices_IndexFunc_tableau_pauli__meas x_.1 x_.2.1 x_.2.2.1 x_.2.2.2.1 x_.2.2.2.2.1 x_.2.2.2.2.2.1⟩
def slices_IndexFunc_tableau_pauli__meas.G:Env:=⟨19,tab,[],[0,1,4,5,7,8,9,16],[1000140,1000200,2000000],[],[(100002,slices_IndexFunc_tableau_pauli__meas.c100002r)],[(84,tableau_table_measure_1.mc)],tab_eqs⟩
theorem slices_IndexFunc_tableau_pauli__meas.eq (x_:densU slices_IndexFunc_tableau_pauli__meas.mc.pre.tys):denM slices_IndexFunc_tableau_pauli__meas.G Try.f83 slices_IndexFunc_tableau_pauli__meas.mc.pre slices_IndexFunc_tableau_pauli__meas.mc.post x_ = slices_IndexFunc_tableau_pauli__meas.mc.F x_:=by kernel_rfl
theorem slices_IndexFunc_tableau_pauli__meas.p0:PcA slices_IndexFunc_tableau_pauli__meas.G Try.f83 0 :=
 loop_ok (s:=slices_IndexFunc_tableau_pauli__meas.c100002r) (by kernel_rfl) (by kernel_rfl) (loops_of (sh:=slices_IndexFunc_tableau_pauli__meas.c100002s) (I:=fun x_ s_=>(x_.1,x_.2.1,x_.2.2.1,x_.2.2.2.1,s_.1,s_.2.1,s_.2.2.1,s_.2.2.2,x_.2.2.2.2.2.2.2.2)) (fun x_=>rfl) (fun ρ x_ s_ k_=>(nat_br (nat_bnd fun _=>(nat_bnd fun _=>(nat_bnd fun _=>(nat_br nat_leaf nat_leaf)))) nat_leaf)) (fun ρ x_ t k=>(nat_sel (fun _=>(by kernel_rfl)) (fun _=>(by kernel_rfl)))) (fun x_ s=>by kernel_rfl))
theorem slices_IndexFunc_tableau_pauli__meas.ok:MOk Try.prog 83 slices_IndexFunc_tableau_pauli__meas.mc:=fnm_ok (G:=slices_IndexFunc_tableau_pauli__meas.G) tab_ok mixed Try.func83 ⟨fns_nil,(mfns_cons tableau_table_measure_1.ok mfns_nil),tab_eqs_ok⟩ (m:=1) (by kernel_rfl) ⟨trivial,slices_IndexFunc_tableau_pauli__meas.p0⟩ (by kernel_rfl) slices_IndexFunc_tableau_pauli__meas.eq
def tableau_pauli_times.c1 {ρ:Type} (p0:Int) (p1:Int) (o0:Int) (o1:Int) (k_:Int → Option ρ):Option ρ :=
 bnd (W.bits_OnesCount (ibits BinOp.and IntKind.u64 p0 p1)) fun y =>
 bnd (W.bits_OnesCount (ibits BinOp.and IntKind.u64 o0 o1)) fun y_1 =>
 bnd (W.bits_OnesCount (ibits BinOp.and IntKind.u64 p1 o0)) fun y_2 =>
 k_ (IntKind.wrap IntKind.i64 (IntKind.wrap IntKind.i64 (y + y_1) + IntKind.wrap IntKind.i64 ((2:Int) * y_2)))
def tableau_pauli_times.c1s:Shape:=⟨[(0,tb11),(1,tb11),(2,tb2),(3,tb12),(4,tb6)],[(2,tb9),(3,tb9),(4,tb9)]⟩
def tableau_pauli_times.c1x0:Shape:=⟨[(0,tb11),(1,tb11),(2,tb2),(3,tb12),(4,tb6),(5,tb5)],[(2,tb9),(3,tb9),(4,tb9)]⟩
def tableau_pauli_times.c1r:Ck:=Ck.of (T:=Int) tableau_pauli_times.c1s (fun ρ x_ k_=>tableau_pauli_times.c1 x_.2.2.1 x_.2.2.2.1 x_.2.2.2.2.2.1 x_.2.2.2.2.2.2.1 k_) (fun ρ x_ r_ k_=>k_ 0 (Shape.inj tableau_pauli_times.c1x0 (x_.1,x_.2.1,r_,x_.2.2)))
def tableau_pauli_times (p:Int×(Int×(Bool))) (o:Int×(Int×(Bool))):Option (Int×(Int×(Bool))) :=
 bnd (W.tableau_pauli_times.c1 (Prod.fst p) (Prod.fst (Prod.snd p)) (Prod.fst o) (Prod.fst (Prod.snd o)) some) fun y =>
 bnd (W.bits_OnesCount (ibits BinOp.and IntKind.u64 (ibits BinOp.xor IntKind.u64 (Prod.fst p) (Prod.fst o)) (ibits BinOp.xor IntKind.u64 (Prod.fst (Prod.snd p)) (Prod.fst (Prod.snd o))))) fun y_1 =>
 some (ibits BinOp.xor IntKind.u64 (Prod.fst p) (Prod.fst o),ibits BinOp.xor IntKind.u64 (Prod.fst (Prod.snd p)) (Prod.fst (Prod.snd o)),!(!Prod.snd (Prod.snd p) == Prod.snd (Prod.snd o)) == (ibits BinOp.and IntKind.i64 (IntKind.wrap IntKind.i64 (y - y_1)) (3:Int) == (2:Int)))
def tableau_pauli_times.ce:Go.Ql.Callee:=⟨[(.st (.pair (.int .u64) (.pair (.int .u64) .bool))),(.st (.pair (.int .u64) (.pair (.int .u64) .bool)))],[(.st (.pair (.int .u64) (.pair (.int .u64) .bool)))],fun x_=>tableau_pauli_times x_.1 x_.2⟩
def tableau_pauli_times.G:Env:=⟨58,tab,[(118,bits_OnesCount.ce)],[0,1,2,3,4,5,6],[],[(1,[⟨[],[],[9,10,13,14,15,16,17,20,21,22,23,24],[]⟩,⟨[0],[],[9,10,13,14,15,16,17,20,21,22,23,24],[]⟩,⟨[],[],[7,8,13,14,15,16,17,20,21,22,23,24],[]⟩,⟨[2],[],[7,8,13,14,15,16,17,20,21,22,23,24],[]⟩,⟨[1,0,3,2],[],[13,14,15,16,17,20,21,22,23,24],[]⟩,⟨[4,1,0,3,2],[],[13,14,15,16,17,20,21,22,23,24],[]⟩,⟨[],[],[7,8,9,10,11,12,15,16,20,21,22,23,24],[]⟩,⟨[6],[],[7,8,9,10,11,12,15,16,20,21,22,23,24],[]⟩,⟨[],[],[7,8,9,10,11,12,13,14,20,21,22,23,24],[]⟩,⟨[8],[],[7,8,9,10,11,12,13,14,20,21,22,23,24],[]⟩,⟨[7,6,9,8],[],[7,8,9,10,11,12,20,21,22,23,24],[]⟩,⟨[10,7,6,9,8,5,4,1,0,3,2],[],[20,21,22,23,24],[]⟩,⟨[5,4,1,0,3,2,11,10,7,6,9,8],[],[20,21,22,23,24,25,26],[]⟩,⟨[],[],[7,8,9,10,11,12,13,14,15,16,17,18,19,22,23],[]⟩,⟨[13],[],[7,8,9,10,11,12,13,14,15,16,17,18,19,22,23],[]⟩,⟨[],[],[7,8,9,10,11,12,13,14,15,16,17,18,19,20,21],[]⟩,⟨[15],[],[7,8,9,10,11,12,13,14,15,16,17,18,19,20,21],[]⟩,⟨[14,13,16,15],[],[7,8,9,10,11,12,13,14,15,16,17,18,19],[]⟩,⟨[17,14,13,16,15,11,10,7,6,9,8,5,4,1,0,3,2],[],[19],[]⟩,⟨[18,17,14,13,16,15,11,10,7,6,9,8,5,4,1,0,3,2],[],[19],[]⟩,⟨[12,5,4,1,0,3,2,11,10,7,6,9,8,19,18,17,14,13,16,15],[],[],[]⟩,⟨[20,12,5,4,1,0,3,2,11,10,7,6,9,8,19,18,17,14,13,16,15],[],[],[]⟩])],[(1,tableau_pauli_times.c1r)],[],tab_eqs⟩
theorem tableau_pauli_times.eq (x_:dens tableau_pauli_times.ce.params):den tableau_pauli_times.G Try.f86 tableau_pauli_times.ce.params tableau_pauli_times.ce.res x_ = tableau_pauli_times.ce.F x_:=by kernel_rfl
theorem tableau_pauli_times.p0:PcA tableau_pauli_times.G Try.f86 0 :=
 region_ok (s:=tableau_pauli_times.c1r) (by kernel_rfl) (by kernel_rfl) (sums_of (sh:=tableau_pauli_times.c1s) (fun ρ x_ k_=>(nat_bnd fun _=>(nat_bnd fun _=>(nat_bnd fun _=>nat_leaf)))) (fun ρ x_ t k=>(by kernel_rfl)) (fun x_=>by kernel_rfl))
theorem tableau_pauli_times.ok:CalleeOk Try.prog 86 tableau_pauli_times.ce:=fn_ok (G:=tableau_pauli_times.G) tab_ok mixed Try.func86 ⟨(fns_cons bits_OnesCount.ok fns_nil),mfns_nil,tab_eqs_ok⟩ (m:=1) (by kernel_rfl) ⟨trivial,tableau_pauli_times.p0⟩ (by kernel_rfl) tableau_pauli_times.eq
def tableau_mixed (a:Int×(Int×(Bool))) (b:Int×(Int×(Bool))):Option (Int×(Int×(Bool))) :=
 some (ibits BinOp.xor IntKind.u64 (Prod.fst a) (Prod.fst b),ibits BinOp.xor IntKind.u64 (Prod.fst (Prod.snd a)) (Prod.fst (Prod.snd b)),false)
def tableau_mixed.ce:Go.Ql.Callee:=⟨[(.st (.pair (.int .u64) (.pair (.int .u64) .bool))),(.st (.pair (.int .u64) (.pair (.int .u64) .bool)))],[(.st (.pair (.int .u64) (.pair (.int .u64) .bool)))],fun x_=>tableau_mixed x_.1 x_.2⟩
def tableau_mixed.G:Env:=⟨16,tab,[],[0,1,2,3,4],[],[],[],[],tab_eqs⟩
theorem tableau_mixed.eq (x_:dens tableau_mixed.ce.params):den tableau_mixed.G Try.f87 tableau_mixed.ce.params tableau_mixed.ce.res x_ = tableau_mixed.ce.F x_:=by kernel_rfl
theorem tableau_mixed.ok:CalleeOk Try.prog 87 tableau_mixed.ce:=fn_ok (G:=tableau_mixed.G) tab_ok mixed Try.func87 ⟨fns_nil,mfns_nil,tab_eqs_ok⟩ (m:=0) (by kernel_rfl) trivial (by kernel_rfl) tableau_mixed.eq
end
end W
end
