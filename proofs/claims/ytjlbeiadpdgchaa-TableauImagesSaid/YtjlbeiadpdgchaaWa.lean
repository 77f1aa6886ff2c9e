/- Lifted functions, part 1: each with its contract. -/
import Derived.Test.YtjlbeiadpdgchaaCa
import Derived.Test.YtjlbeiadpdgchaaProg
set_option linter.all false
section
set_option maxHeartbeats 4000000
set_option maxRecDepth 100000
set_option linter.unusedVariables false
namespace W
open Go Go.Ql Go.Proofs
noncomputable section
abbrev tb1:SD:=.one (.ref 1 0)
abbrev tb2:SD:=.one (.ref 2 0)
abbrev tb4:SD:=.one (.val .str)
abbrev tb5:SD:=.one (.val (.int .i64))
abbrev tb6:SD:=.one (.ref 4 0)
abbrev tb7:SD:=.one (.val .bool)
abbrev tb8:SD:=.one (.ref 6 0)
abbrev tb9:SO:=.box [.val (.int .u64),.val (.int .u64),.val .bool]
def tableau_read.c2 {ρ:Type} (s:List UInt8) (n:Int) (k_:Bool → Option ρ):Option ρ :=
 br ((↑(List.length s):Int) != IntKind.wrap IntKind.i64 (n + (1:Int)))
 (k_ true)
 (bnd (idx s (0:Int)) fun y =>
 br ((↑(UInt8.toNat y):Int) != (43:Int))
 (bnd (idx s (0:Int)) fun y_1 =>
 k_ ((↑(UInt8.toNat y_1):Int) != (45:Int)))
 (k_ false))
def tableau_read.c2s:Shape:=⟨[(0,tb4),(1,tb5),(4,tb6),(5,tb7),(6,tb8)],[(4,tb9),(6,tb9)]⟩
def tableau_read.c2x0:Shape:=⟨[(0,tb4),(1,tb5),(4,tb6),(5,tb7),(6,tb8),(23,tb7)],[(4,tb9),(6,tb9)]⟩
def tableau_read.c2r:Ck:=Ck.of (T:=Bool) tableau_read.c2s (fun ρ x_ k_=>tableau_read.c2 x_.1 x_.2.1 k_) (fun ρ x_ r_ k_=>k_ 0 (Shape.inj tableau_read.c2x0 (x_.1,x_.2.1,x_.2.2.1,r_,x_.2.2.2)))
def tableau_read.c11 {ρ:Type} (q:Int) (k_:Unit → Option ρ):Option ρ :=
 bnd (okIf (decide ((0:Int) ≤ q))) fun y =>
 k_ ()
def tableau_read.c11s:Shape:=⟨[(0,tb4),(1,tb5),(4,tb6),(5,tb7),(6,tb8),(7,tb5),(8,tb5),(29,tb5),(30,tb5)],[(4,tb9),(6,tb9)]⟩
def tableau_read.c11x0:Shape:=tableau_read.c11s
def tableau_read.c11r:Ck:=Ck.of (T:=Unit) tableau_read.c11s (fun ρ x_ k_=>tableau_read.c11 x_.2.2.2.1 k_) (fun ρ x_ r_ k_=>k_ 0 (Shape.inj tableau_read.c11x0 (x_.1,x_.2.1,x_.2.2.1,x_.2.2.2.1,x_.2.2.2.2.1,x_.2.2.2.2.2.1,x_.2.2.2.2.2.2.1,x_.2.2.2.2.2.2.2.1,x_.2.2.2.2.2.2.2.2.1,x_.2.2.2.2.2.2.2.2.2.1,(ibits BinOp.or IntKind.u64 x_.2.2.2.2.2.2.2.2.2.2.1 (IntKind.wrap IntKind.u64 (IntKind.wrap IntKind.u64 (ibits BinOp.and IntKind.i64 x_.2.2.2.2.1 (1:Int)) * (2:Int) ^ Min.min (Int.toNat x_.2.2.2.1) (64:Nat)))),x_.2.2.2.2.2.2.2.2.2.2.2)))
def tableau_read.c12 {ρ:Type} (q:Int) (k_:Unit → Option ρ):Option ρ :=
 bnd (okIf (decide ((0:Int) ≤ q))) fun y =>
 k_ ()
def tableau_read.c12s:Shape:=tableau_read.c11s
def tableau_read.c12x0:Shape:=tableau_read.c11s
def tableau_read.c12r:Ck:=Ck.of (T:=Unit) tableau_read.c12s (fun ρ x_ k_=>tableau_read.c12 x_.2.2.2.1 k_) (fun ρ x_ r_ k_=>k_ 0 (Shape.inj tableau_read.c12x0 (x_.1,x_.2.1,x_.2.2.1,x_.2.2.2.1,x_.2.2.2.2.1,x_.2.2.2.2.2.1,x_.2.2.2.2.2.2.1,x_.2.2.2.2.2.2.2.1,x_.2.2.2.2.2.2.2.2.1,x_.2.2.2.2.2.2.2.2.2.1,x_.2.2.2.2.2.2.2.2.2.2.1,(ibits BinOp.or IntKind.u64 x_.2.2.2.2.2.2.2.2.2.2.2.1 (IntKind.wrap IntKind.u64 (IntKind.wrap IntKind.u64 (Int.fdiv x_.2.2.2.2.1 ((2:Int) ^ (1:Nat))) * (2:Int) ^ Min.min (Int.toNat x_.2.2.2.1) (64:Nat)))),x_.2.2.2.2.2.2.2.2.2.2.2.2)))
def tableau_read.c100006 {ρ:Type} (s:List UInt8) (t29:Int) (t30:Int) (p0:Int) (p1:Int) (k_:(Int×Int×Int) ⊕ ((Int×Int×Int×Int×Int) ⊕ (Int×Int×Int)) → Option ρ):Option ρ :=
 br (decide (t30 < t29))
 (bnd (idx s (IntKind.wrap IntKind.i64 (t30 + (1:Int)))) fun y =>
 bnd (W.strings_IndexByte (Array.toList (ByteArray.data (ByteArray.mk #[(73:UInt8),(88:UInt8),(90:UInt8),(89:UInt8)]))) (↑(UInt8.toNat y):Int)) fun y_1 =>
 br (decide (y_1 < (0:Int)))
 (k_ (.inr (.inl (t30,p0,p1,p0,p1))))
 (bnd (W.tableau_read.c11 t30 some) fun y_2 =>
 bnd (W.tableau_read.c12 t30 some) fun y_3 =>
 k_ (.inl ((IntKind.wrap IntKind.i64 (t30 + (1:Int))),(ibits BinOp.or IntKind.u64 p0 (IntKind.wrap IntKind.u64 (IntKind.wrap IntKind.u64 (ibits BinOp.and IntKind.i64 y_1 (1:Int)) * (2:Int) ^ Min.min (Int.toNat t30) (64:Nat)))),(ibits BinOp.or IntKind.u64 p1 (IntKind.wrap IntKind.u64 (IntKind.wrap IntKind.u64 (Int.fdiv y_1 ((2:Int) ^ (1:Nat))) * (2:Int) ^ Min.min (Int.toNat t30) (64:Nat))))))))
 (k_ (.inr (.inr (t30,p0,p1))))
def tableau_read.c100006s:Shape:=⟨[(0,tb4),(1,tb5),(4,tb6),(5,tb7),(6,tb8),(29,tb5),(30,tb5)],[(4,tb9),(6,tb9)]⟩
def tableau_read.c100006x0:Shape:=tableau_read.c100006s
def tableau_read.c100006x1:Shape:=tableau_read.c100006s
def tableau_read.c100006r:Ck:=Ck.ofLoop (S:=Int×Int×Int) (T:=(Int×Int×Int×Int×Int) ⊕ (Int×Int×Int)) tableau_read.c100006s (fun x_=>(x_.2.2.2.2.1,x_.2.2.2.2.2.2.2.2.1,x_.2.2.2.2.2.2.2.2.2.1)) (fun ρ x_ s_ k_=>tableau_read.c100006 x_.1 x_.2.2.2.1 s_.1 s_.2.1 s_.2.2 k_) (fun ρ x_ r_ k_=>sel r_ (fun r_=>k_ 1 (Shape.inj tableau_read.c100006x0 (x_.1,x_.2.1,false,x_.2.2.2.1,r_.1,r_.2.1,r_.2.2.1,x_.2.2.2.2.2.2.2.2.2.2.1,r_.2.2.2.1,r_.2.2.2.2,x_.2.2.2.2.2.2.2.2.2.2))) (fun r_=>k_ 2 (Shape.inj tableau_read.c100006x1 (x_.1,x_.2.1,x_.2.2.1,x_.2.2.2.1,r_.1,x_.2.2.2.2.2.1,x_.2.2.2.2.2.2.1,x_.2.2.2.2.2.2.2.1,r_.2.1,r_.2.2,x_.2.2.2.2.2.2.2.2.2.2))))
def tableau_read (s:List UInt8) (n:Int):Option ((Int×(Int×(Bool)))×(Bool)) :=
 bnd (W.tableau_read.c2 s n some) fun y =>
 br y
 (some (((0:Int),(0:Int),false),false))
 (bnd (idx s (0:Int)) fun y_1 =>
 bnd (iter (fun s_1 ↦ W.tableau_read.c100006 s n (Prod.fst s_1) (Prod.fst (Prod.snd s_1)) (Prod.snd (Prod.snd s_1)) some) ((0:Int),(0:Int),(0:Int))) fun y_2 =>
 sel y_2
 (fun u=>some ((Prod.fst (Prod.snd u),Prod.fst (Prod.snd (Prod.snd u)),(↑(UInt8.toNat y_1):Int) == (45:Int)),false))
 (fun v=>some ((Prod.fst (Prod.snd v),Prod.snd (Prod.snd v),(↑(UInt8.toNat y_1):Int) == (45:Int)),true)))
def tableau_read.ce:Go.Ql.Callee:=⟨[.str,(.int .i64)],[(.st (.pair (.int .u64) (.pair (.int .u64) .bool))),.bool],fun x_=>tableau_read x_.1 x_.2⟩
def tableau_read.G:Env:=⟨61,tab,[(94,strings_IndexByte.ce)],[0,1,4,5,6,7,8,23,29,30,31,39],[],[(12,[⟨[],[],[52,53,54,55,56],[]⟩,⟨[0],[],[52,53,54,55,56],[]⟩,⟨[],[],[50,51,55],[]⟩,⟨[2],[],[50,51,55],[]⟩,⟨[3,2],[],[50,51,55],[]⟩,⟨[],[],[50,51,52,53,54],[]⟩,⟨[4,3,2,5],[],[50,51],[]⟩,⟨[1,0,6,4,3,2,5],[],[],[]⟩,⟨[0,1,2,3,4,5,6,7],[],[],[]⟩,⟨[8,0,1,2,3,4,5,6,7],[6],[],[]⟩]),
 (11,[⟨[],[],[43,44,45,46,47],[]⟩,⟨[0],[],[43,44,45,46,47],[]⟩,⟨[],[],[41,42,46],[]⟩,⟨[2],[],[41,42,46],[]⟩,⟨[3,2],[],[41,42,46],[]⟩,⟨[],[],[41,42,43,44,45],[]⟩,⟨[4,3,2,5],[],[41,42],[]⟩,⟨[1,0,6,4,3,2,5],[],[],[]⟩,⟨[0,1,2,3,4,5,6,7],[],[],[]⟩,⟨[8,0,1,2,3,4,5,6,7],[6],[],[]⟩])],[(100006,tableau_read.c100006r),(12,tableau_read.c12r),(11,tableau_read.c11r),(2,tableau_read.c2r)],[],tab_eqs⟩
theorem tableau_read.eq (x_:dens tableau_read.ce.params):den tableau_read.G Try.f56 tableau_read.ce.params tableau_read.ce.res x_ = tableau_read.ce.F x_:=by kernel_rfl
theorem tableau_read.p0:PcA tableau_read.G Try.f56 0 :=
 region_ok (s:=tableau_read.c2r) (by kernel_rfl) (by kernel_rfl) (sums_of (sh:=tableau_read.c2s) (fun ρ x_ k_=>(nat_br nat_leaf (nat_bnd fun _=>(nat_br (nat_bnd fun _=>nat_leaf) nat_leaf)))) (fun ρ x_ t k=>(by kernel_rfl)) (fun x_=>by kernel_rfl))
theorem tableau_read.p1:PcA tableau_read.G Try.f56 1 :=
 loop_ok (s:=tableau_read.c100006r) (by kernel_rfl) (by kernel_rfl) (loops_of (sh:=tableau_read.c100006s) (I:=fun x_ s_=>(x_.1,x_.2.1,x_.2.2.1,x_.2.2.2.1,s_.1,x_.2.2.2.2.2.1,x_.2.2.2.2.2.2.1,x_.2.2.2.2.2.2.2.1,s_.2.1,s_.2.2,x_.2.2.2.2.2.2.2.2.2.2)) (fun x_=>rfl) (fun ρ x_ s_ k_=>(nat_br (nat_bnd fun _=>(nat_bnd fun _=>(nat_br nat_leaf (nat_bnd fun _=>(nat_bnd fun _=>nat_leaf))))) nat_leaf)) (fun ρ x_ t k=>(nat_sel (fun _=>(by kernel_rfl)) (fun _=>(by kernel_rfl)))) (fun x_ s=>by kernel_rfl))
theorem tableau_read.p2:PcA tableau_read.G Try.f56 2 :=
 region_ok (s:=tableau_read.c11r) (by kernel_rfl) (by kernel_rfl) (sums_of (sh:=tableau_read.c11s) (fun ρ x_ k_=>(nat_bnd fun _=>nat_leaf)) (fun ρ x_ t k=>(by kernel_rfl)) (fun x_=>by kernel_rfl))
theorem tableau_read.p3:PcA tableau_read.G Try.f56 3 :=
 region_ok (s:=tableau_read.c12r) (by kernel_rfl) (by kernel_rfl) (sums_of (sh:=tableau_read.c12s) (fun ρ x_ k_=>(nat_bnd fun _=>nat_leaf)) (fun ρ x_ t k=>(by kernel_rfl)) (fun x_=>by kernel_rfl))
theorem tableau_read.ok:CalleeOk Try.prog 56 tableau_read.ce:=fn_ok (G:=tableau_read.G) tab_ok mixed Try.func56 ⟨(fns_cons strings_IndexByte.ok fns_nil),mfns_nil,tab_eqs_ok⟩ (m:=4) (by kernel_rfl) ⟨⟨⟨⟨trivial,tableau_read.p0⟩,tableau_read.p1⟩,tableau_read.p2⟩,tableau_read.p3⟩ (by kernel_rfl) tableau_read.eq
def tableau_Read (s:List UInt8) (n:Int):Option ((Int×(Int×(Bool)))×(Bool)) :=
 bnd (W.tableau_read s n) fun y =>
 some ((Prod.fst (Prod.fst y),Prod.fst (Prod.snd (Prod.fst y)),Prod.snd (Prod.snd (Prod.fst y))),Prod.snd y)
def tableau_Read.ce:Go.Ql.Callee:=⟨[.str,(.int .i64)],[(.st (.pair (.int .u64) (.pair (.int .u64) .bool))),.bool],fun x_=>tableau_Read x_.1 x_.2⟩
def tableau_Read.G:Env:=⟨11,tab,[(56,tableau_read.ce)],[0,1,4,5],[],[],[],[],tab_eqs⟩
theorem tableau_Read.eq (x_:dens tableau_Read.ce.params):den tableau_Read.G Try.f106 tableau_Read.ce.params tableau_Read.ce.res x_ = tableau_Read.ce.F x_:=by kernel_rfl
theorem tableau_Read.ok:CalleeOk Try.prog 106 tableau_Read.ce:=fn_ok (G:=tableau_Read.G) tab_ok mixed Try.func106 ⟨(fns_cons tableau_read.ok fns_nil),mfns_nil,tab_eqs_ok⟩ (m:=0) (by kernel_rfl) trivial (by kernel_rfl) tableau_Read.eq
abbrev tb10:SD:=.one (.val (.int .u32))
def bits_OnesCount32.c1 {ρ:Type} (x:Int) (k_:Int → Option ρ):Option ρ :=
 bnd (idx (Array.toList (ByteArray.data (ByteArray.mk (List.toArray (List.append (List.append [(0:UInt8),(1:UInt8),(1:UInt8),(2:UInt8),(1:UInt8),(2:UInt8),(2:UInt8),(3:UInt8),(1:UInt8),(2:UInt8),(2:UInt8),(3:UInt8),(2:UInt8),(3:UInt8),(3:UInt8),(4:UInt8),(1:UInt8),(2:UInt8),(2:UInt8),(3:UInt8),(2:UInt8),(3:UInt8),(3:UInt8),(4:UInt8),(2:UInt8),(3:UInt8),(3:UInt8),(4:UInt8),(3:UInt8),(4:UInt8),(4:UInt8),(5:UInt8),(1:UInt8),(2:UInt8),(2:UInt8),(3:UInt8),(2:UInt8),(3:UInt8),(3:UInt8),(4:UInt8),(2:UInt8),(3:UInt8),(3:UInt8),(4:UInt8),(3:UInt8),(4:UInt8),(4:UInt8),(5:UInt8),(2:UInt8),(3:UInt8),(3:UInt8),(4:UInt8),(3:UInt8),(4:UInt8),(4:UInt8),(5:UInt8),(3:UInt8),(4:UInt8),(4:UInt8),(5:UInt8),(4:UInt8),(5:UInt8),(5:UInt8),(6:UInt8)] [(1:UInt8),(2:UInt8),(2:UInt8),(3:UInt8),(2:UInt8),(3:UInt8),(3:UInt8),(4:UInt8),(2:UInt8),(3:UInt8),(3:UInt8),(4:UInt8),(3:UInt8),(4:UInt8),(4:UInt8),(5:UInt8),(2:UInt8),(3:UInt8),(3:UInt8),(4:UInt8),(3:UInt8),(4:UInt8),(4:UInt8),(5:UInt8),(3:UInt8),(4:UInt8),(4:UInt8),(5:UInt8),(4:UInt8),(5:UInt8),(5:UInt8),(6:UInt8),(2:UInt8),(3:UInt8),(3:UInt8),(4:UInt8),(3:UInt8),(4:UInt8),(4:UInt8),(5:UInt8),(3:UInt8),(4:UInt8),(4:UInt8),(5:UInt8),(4:UInt8),(5:UInt8),(5:UInt8),(6:UInt8),(3:UInt8),(4:UInt8),(4:UInt8),(5:UInt8),(4:UInt8),(5:UInt8),(5:UInt8),(6:UInt8),(4:UInt8),(5:UInt8),(5:UInt8),(6:UInt8),(5:UInt8),(6:UInt8),(6:UInt8),(7:UInt8)]) (List.append [(1:UInt8),(2:UInt8),(2:UInt8),(3:UInt8),(2:UInt8),(3:UInt8),(3:UInt8),(4:UInt8),(2:UInt8),(3:UInt8),(3:UInt8),(4:UInt8),(3:UInt8),(4:UInt8),(4:UInt8),(5:UInt8),(2:UInt8),(3:UInt8),(3:UInt8),(4:UInt8),(3:UInt8),(4:UInt8),(4:UInt8),(5:UInt8),(3:UInt8),(4:UInt8),(4:UInt8),(5:UInt8),(4:UInt8),(5:UInt8),(5:UInt8),(6:UInt8),(2:UInt8),(3:UInt8),(3:UInt8),(4:UInt8),(3:UInt8),(4:UInt8),(4:UInt8),(5:UInt8),(3:UInt8),(4:UInt8),(4:UInt8),(5:UInt8),(4:UInt8),(5:UInt8),(5:UInt8),(6:UInt8),(3:UInt8),(4:UInt8),(4:UInt8),(5:UInt8),(4:UInt8),(5:UInt8),(5:UInt8),(6:UInt8),(4:UInt8),(5:UInt8),(5:UInt8),(6:UInt8),(5:UInt8),(6:UInt8),(6:UInt8),(7:UInt8)] [(2:UInt8),(3:UInt8),(3:UInt8),(4:UInt8),(3:UInt8),(4:UInt8),(4:UInt8),(5:UInt8),(3:UInt8),(4:UInt8),(4:UInt8),(5:UInt8),(4:UInt8),(5:UInt8),(5:UInt8),(6:UInt8),(3:UInt8),(4:UInt8),(4:UInt8),(5:UInt8),(4:UInt8),(5:UInt8),(5:UInt8),(6:UInt8),(4:UInt8),(5:UInt8),(5:UInt8),(6:UInt8),(5:UInt8),(6:UInt8),(6:UInt8),(7:UInt8),(3:UInt8),(4:UInt8),(4:UInt8),(5:UInt8),(4:UInt8),(5:UInt8),(5:UInt8),(6:UInt8),(4:UInt8),(5:UInt8),(5:UInt8),(6:UInt8),(5:UInt8),(6:UInt8),(6:UInt8),(7:UInt8),(4:UInt8),(5:UInt8),(5:UInt8),(6:UInt8),(5:UInt8),(6:UInt8),(6:UInt8),(7:UInt8),(5:UInt8),(6:UInt8),(6:UInt8),(7:UInt8),(6:UInt8),(7:UInt8),(7:UInt8),(8:UInt8)])))))) (Int.fdiv x ((2:Int) ^ (24:Nat)))) fun y =>
 bnd (idx (Array.toList (ByteArray.data (ByteArray.mk (List.toArray (List.append (List.append [(0:UInt8),(1:UInt8),(1:UInt8),(2:UInt8),(1:UInt8),(2:UInt8),(2:UInt8),(3:UInt8),(1:UInt8),(2:UInt8),(2:UInt8),(3:UInt8),(2:UInt8),(3:UInt8),(3:UInt8),(4:UInt8),(1:UInt8),(2:UInt8),(2:UInt8),(3:UInt8),(2:UInt8),(3:UInt8),(3:UInt8),(4:UInt8),(2:UInt8),(3:UInt8),(3:UInt8),(4:UInt8),(3:UInt8),(4:UInt8),(4:UInt8),(5:UInt8),(1:UInt8),(2:UInt8),(2:UInt8),(3:UInt8),(2:UInt8),(3:UInt8),(3:UInt8),(4:UInt8),(2:UInt8),(3:UInt8),(3:UInt8),(4:UInt8),(3:UInt8),(4:UInt8),(4:UInt8),(5:UInt8),(2:UInt8),(3:UInt8),(3:UInt8),(4:UInt8),(3:UInt8),(4:UInt8),(4:UInt8),(5:UInt8),(3:UInt8),(4:UInt8),(4:UInt8),(5:UInt8),(4:UInt8),(5:UInt8),(5:UInt8),(6:UInt8)] [(1:UInt8),(2:UInt8),(2:UInt8),(3:UInt8),(2:UInt8),(3:UInt8),(3:UInt8),(4:UInt8),(2:UInt8),(3:UInt8),(3:UInt8),(4:UInt8),(3:UInt8),(4:UInt8),(4:UInt8),(5:UInt8),(2:UInt8),(3:UInt8),(3:UInt8),(4:UInt8),(3:UInt8),(4:UInt8),(4:UInt8),(5:UInt8),(3:UInt8),(4:UInt8),(4:UInt8),(5:UInt8),(4:UInt8),(5:UInt8),(5:UInt8),(6:UInt8),(2:UInt8),(3:UInt8),(3:UInt8),(4:UInt8),(3:UInt8),(4:UInt8),(4:UInt8),(5:UInt8),(3:UInt8),(4:UInt8),(4:UInt8),(5:UInt8),(4:UInt8),(5:UInt8),(5:UInt8),(6:UInt8),(3:UInt8),(4:UInt8),(4:UInt8),(5:UInt8),(4:UInt8),(5:UInt8),(5:UInt8),(6:UInt8),(4:UInt8),(5:UInt8),(5:UInt8),(6:UInt8),(5:UInt8),(6:UInt8),(6:UInt8),(7:UInt8)]) (List.append [(1:UInt8),(2:UInt8),(2:UInt8),(3:UInt8),(2:UInt8),(3:UInt8),(3:UInt8),(4:UInt8),(2:UInt8),(3:UInt8),(3:UInt8),(4:UInt8),(3:UInt8),(4:UInt8),(4:UInt8),(5:UInt8),(2:UInt8),(3:UInt8),(3:UInt8),(4:UInt8),(3:UInt8),(4:UInt8),(4:UInt8),(5:UInt8),(3:UInt8),(4:UInt8),(4:UInt8),(5:UInt8),(4:UInt8),(5:UInt8),(5:UInt8),(6:UInt8),(2:UInt8),(3:UInt8),(3:UInt8),(4:UInt8),(3:UInt8),(4:UInt8),(4:UInt8),(5:UInt8),(3:UInt8),(4:UInt8),(4:UInt8),(5:UInt8),(4:UInt8),(5:UInt8),(5:UInt8),(6:UInt8),(3:UInt8),(4:UInt8),(4:UInt8),(5:UInt8),(4:UInt8),(5:UInt8),(5:UInt8),(6:UInt8),(4:UInt8),(5:UInt8),(5:UInt8),(6:UInt8),(5:UInt8),(6:UInt8),(6:UInt8),(7:UInt8)] [(2:UInt8),(3:UInt8),(3:UInt8),(4:UInt8),(3:UInt8),(4:UInt8),(4:UInt8),(5:UInt8),(3:UInt8),(4:UInt8),(4:UInt8),(5:UInt8),(4:UInt8),(5:UInt8),(5:UInt8),(6:UInt8),(3:UInt8),(4:UInt8),(4:UInt8),(5:UInt8),(4:UInt8),(5:UInt8),(5:UInt8),(6:UInt8),(4:UInt8),(5:UInt8),(5:UInt8),(6:UInt8),(5:UInt8),(6:UInt8),(6:UInt8),(7:UInt8),(3:UInt8),(4:UInt8),(4:UInt8),(5:UInt8),(4:UInt8),(5:UInt8),(5:UInt8),(6:UInt8),(4:UInt8),(5:UInt8),(5:UInt8),(6:UInt8),(5:UInt8),(6:UInt8),(6:UInt8),(7:UInt8),(4:UInt8),(5:UInt8),(5:UInt8),(6:UInt8),(5:UInt8),(6:UInt8),(6:UInt8),(7:UInt8),(5:UInt8),(6:UInt8),(6:UInt8),(7:UInt8),(6:UInt8),(7:UInt8),(7:UInt8),(8:UInt8)])))))) (ibits BinOp.and IntKind.u32 (Int.fdiv x ((2:Int) ^ (16:Nat))) (255:Int))) fun y_1 =>
 bnd (idx (Array.toList (ByteArray.data (ByteArray.mk (List.toArray (List.append (List.append [(0:UInt8),(1:UInt8),(1:UInt8),(2:UInt8),(1:UInt8),(2:UInt8),(2:UInt8),(3:UInt8),(1:UInt8),(2:UInt8),(2:UInt8),(3:UInt8),(2:UInt8),(3:UInt8),(3:UInt8),(4:UInt8),(1:UInt8),(2:UInt8),(2:UInt8),(3:UInt8),(2:UInt8),(3:UInt8),(3:UInt8),(4:UInt8),(2:UInt8),(3:UInt8),(3:UInt8),(4:UInt8),(3:UInt8),(4:UInt8),(4:UInt8),(5:UInt8),(1:UInt8),(2:UInt8),(2:UInt8),(3:UInt8),(2:UInt8),(3:UInt8),(3:UInt8),(4:UInt8),(2:UInt8),(3:UInt8),(3:UInt8),(4:UInt8),(3:UInt8),(4:UInt8),(4:UInt8),(5:UInt8),(2:UInt8),(3:UInt8),(3:UInt8),(4:UInt8),(3:UInt8),(4:UInt8),(4:UInt8),(5:UInt8),(3:UInt8),(4:UInt8),(4:UInt8),(5:UInt8),(4:UInt8),(5:UInt8),(5:UInt8),(6:UInt8)] [(1:UInt8),(2:UInt8),(2:UInt8),(3:UInt8),(2:UInt8),(3:UInt8),(3:UInt8),(4:UInt8),(2:UInt8),(3:UInt8),(3:UInt8),(4:UInt8),(3:UInt8),(4:UInt8),(4:UInt8),(5:UInt8),(2:UInt8),(3:UInt8),(3:UInt8),(4:UInt8),(3:UInt8),(4:UInt8),(4:UInt8),(5:UInt8),(3:UInt8),(4:UInt8),(4:UInt8),(5:UInt8),(4:UInt8),(5:UInt8),(5:UInt8),(6:UInt8),(2:UInt8),(3:UInt8),(3:UInt8),(4:UInt8),(3:UInt8),(4:UInt8),(4:UInt8),(5:UInt8),(3:UInt8),(4:UInt8),(4:UInt8),(5:UInt8),(4:UInt8),(5:UInt8),(5:UInt8),(6:UInt8),(3:UInt8),(4:UInt8),(4:UInt8),(5:UInt8),(4:UInt8),(5:UInt8),(5:UInt8),(6:UInt8),(4:UInt8),(5:UInt8),(5:UInt8),(6:UInt8),(5:UInt8),(6:UInt8),(6:UInt8),(7:UInt8)]) (List.append [(1:UInt8),(2:UInt8),(2:UInt8),(3:UInt8),(2:UInt8),(3:UInt8),(3:UInt8),(4:UInt8),(2:UInt8),(3:UInt8),(3:UInt8),(4:UInt8),(3:UInt8),(4:UInt8),(4:UInt8),(5:UInt8),(2:UInt8),(3:UInt8),(3:UInt8),(4:UInt8),(3:UInt8),(4:UInt8),(4:UInt8),(5:UInt8),(3:UInt8),(4:UInt8),(4:UInt8),(5:UInt8),(4:UInt8),(5:UInt8),(5:UInt8),(6:UInt8),(2:UInt8),(3:UInt8),(3:UInt8),(4:UInt8),(3:UInt8),(4:UInt8),(4:UInt8),(5:UInt8),(3:UInt8),(4:UInt8),(4:UInt8),(5:UInt8),(4:UInt8),(5:UInt8),(5:UInt8),(6:UInt8),(3:UInt8),(4:UInt8),(4:UInt8),(5:UInt8),(4:UInt8),(5:UInt8),(5:UInt8),(6:UInt8),(4:UInt8),(5:UInt8),(5:UInt8),(6:UInt8),(5:UInt8),(6:UInt8),(6:UInt8),(7:UInt8)] [(2:UInt8),(3:UInt8),(3:UInt8),(4:UInt8),(3:UInt8),(4:UInt8),(4:UInt8),(5:UInt8),(3:UInt8),(4:UInt8),(4:UInt8),(5:UInt8),(4:UInt8),(5:UInt8),(5:UInt8),(6:UInt8),(3:UInt8),(4:UInt8),(4:UInt8),(5:UInt8),(4:UInt8),(5:UInt8),(5:UInt8),(6:UInt8),(4:UInt8),(5:UInt8),(5:UInt8),(6:UInt8),(5:UInt8),(6:UInt8),(6:UInt8),(7:UInt8),(3:UInt8),(4:UInt8),(4:UInt8),(5:UInt8),(4:UInt8),(5:UInt8),(5:UInt8),(6:UInt8),(4:UInt8),(5:UInt8),(5:UInt8),(6:UInt8),(5:UInt8),(6:UInt8),(6:UInt8),(7:UInt8),(4:UInt8),(5:UInt8),(5:UInt8),(6:UInt8),(5:UInt8),(6:UInt8),(6:UInt8),(7:UInt8),(5:UInt8),(6:UInt8),(6:UInt8),(7:UInt8),(6:UInt8),(7:UInt8),(7:UInt8),(8:UInt8)])))))) (ibits BinOp.and IntKind.u32 (Int.fdiv x ((2:Int) ^ (8:Nat))) (255:Int))) fun y_2 =>
 bnd (idx (Array.toList (ByteArray.data (ByteArray.mk (List.toArray (List.append (List.append [(0:UInt8),(1:UInt8),(1:UInt8),(2:UInt8),(1:UInt8),(2:UInt8),(2:UInt8),(3:UInt8),(1:UInt8),(2:UInt8),(2:UInt8),(3:UInt8),(2:UInt8),(3:UInt8),(3:UInt8),(4:UInt8),(1:UInt8),(2:UInt8),(2:UInt8),(3:UInt8),(2:UInt8),(3:UInt8),(3:UInt8),(4:UInt8),(2:UInt8),(3:UInt8),(3:UInt8),(4:UInt8),(3:UInt8),(4:UInt8),(4:UInt8),(5:UInt8),(1:UInt8),(2:UInt8),(2:UInt8),(3:UInt8),(2:UInt8),(3:UInt8),(3:UInt8),(4:UInt8),(2:UInt8),(3:UInt8),(3:UInt8),(4:UInt8),(3:UInt8),(4:UInt8),(4:UInt8),(5:UInt8),(2:UInt8),(3:UInt8),(3:UInt8),(4:UInt8),(3:UInt8),(4:UInt8),(4:UInt8),(5:UInt8),(3:UInt8),(4:UInt8),(4:UInt8),(5:UInt8),(4:UInt8),(5:UInt8),(5:UInt8),(6:UInt8)] [(1:UInt8),(2:UInt8),(2:UInt8),(3:UInt8),(2:UInt8),(3:UInt8),(3:UInt8),(4:UInt8),(2:UInt8),(3:UInt8),(3:UInt8),(4:UInt8),(3:UInt8),(4:UInt8),(4:UInt8),(5:UInt8),(2:UInt8),(3:UInt8),(3:UInt8),(4:UInt8),(3:UInt8),(4:UInt8),(4:UInt8),(5:UInt8),(3:UInt8),(4:UInt8),(4:UInt8),(5:UInt8),(4:UInt8),(5:UInt8),(5:UInt8),(6:UInt8),(2:UInt8),(3:UInt8),(3:UInt8),(4:UInt8),(3:UInt8),(4:UInt8),(4:UInt8),(5:UInt8),(3:UInt8),(4:UInt8),(4:UInt8),(5:UInt8),(4:UInt8),(5:UInt8),(5:UInt8),(6:UInt8),(3:UInt8),(4:UInt8),(4:UInt8),(5:UInt8),(4:UInt8),(5:UInt8),(5:UInt8),(6:UInt8),(4:UInt8),(5:UInt8),(5:UInt8),(6:UInt8),(5:UInt8),(6:UInt8),(6:UInt8),(7:UInt8)]) (List.append [(1:UInt8),(2:UInt8),(2:UInt8),(3:UInt8),(2:UInt8),(3:UInt8),(3:UInt8),(4:UInt8),(2:UInt8),(3:UInt8),(3:UInt8),(4:UInt8),(3:UInt8),(4:UInt8),(4:UInt8),(5:UInt8),(2:UInt8),(3:UInt8),(3:UInt8),(4:UInt8),(3:UInt8),(4:UInt8),(4:UInt8),(5:UInt8),(3:UInt8),(4:UInt8),(4:UInt8),(5:UInt8),(4:UInt8),(5:UInt8),(5:UInt8),(6:UInt8),(2:UInt8),(3:UInt8),(3:UInt8),(4:UInt8),(3:UInt8),(4:UInt8),(4:UInt8),(5:UInt8),(3:UInt8),(4:UInt8),(4:UInt8),(5:UInt8),(4:UInt8),(5:UInt8),(5:UInt8),(6:UInt8),(3:UInt8),(4:UInt8),(4:UInt8),(5:UInt8),(4:UInt8),(5:UInt8),(5:UInt8),(6:UInt8),(4:UInt8),(5:UInt8),(5:UInt8),(6:UInt8),(5:UInt8),(6:UInt8),(6:UInt8),(7:UInt8)] [(2:UInt8),(3:UInt8),(3:UInt8),(4:UInt8),(3:UInt8),(4:UInt8),(4:UInt8),(5:UInt8),(3:UInt8),(4:UInt8),(4:UInt8),(5:UInt8),(4:UInt8),(5:UInt8),(5:UInt8),(6:UInt8),(3:UInt8),(4:UInt8),(4:UInt8),(5:UInt8),(4:UInt8),(5:UInt8),(5:UInt8),(6:UInt8),(4:UInt8),(5:UInt8),(5:UInt8),(6:UInt8),(5:UInt8),(6:UInt8),(6:UInt8),(7:UInt8),(3:UInt8),(4:UInt8),(4:UInt8),(5:UInt8),(4:UInt8),(5:UInt8),(5:UInt8),(6:UInt8),(4:UInt8),(5:UInt8),(5:UInt8),(6:UInt8),(5:UInt8),(6:UInt8),(6:UInt8),(7:UInt8),(4:UInt8),(5:UInt8),(5:UInt8),(6:UInt8),(5:UInt8),(6:UInt8),(6:UInt8),(7:UInt8),(5:UInt8),(6:UInt8),(6:UInt8),(7:UInt8),(6:UInt8),(7:UInt8),(7:UInt8),(8:UInt8)])))))) (ibits BinOp.and IntKind.u32 x (255:Int))) fun y_3 =>
 k_ (IntKind.wrap IntKind.i64 (IntKind.wrap IntKind.u8 (IntKind.wrap IntKind.u8 (IntKind.wrap IntKind.u8 ((↑(UInt8.toNat y):Int) + (↑(UInt8.toNat y_1):Int)) + (↑(UInt8.toNat y_2):Int)) + (↑(UInt8.toNat y_3):Int))))
def bits_OnesCount32.c1s:Shape:=⟨[(0,tb10),(2,tb5)],[]⟩
def bits_OnesCount32.c1x0:Shape:=bits_OnesCount32.c1s
def bits_OnesCount32.c1r:Ck:=Ck.of (T:=Int) bits_OnesCount32.c1s (fun ρ x_ k_=>bits_OnesCount32.c1 x_.1 k_) (fun ρ x_ r_ k_=>k_ 0 (Shape.inj bits_OnesCount32.c1x0 (x_.1,r_,())))
def bits_OnesCount32 (x:Int):Option Int :=
 bnd (W.bits_OnesCount32.c1 x some) fun y =>
 some y
def bits_OnesCount32.ce:Go.Ql.Callee:=⟨[(.int .u32)],[(.int .i64)],fun x_=>bits_OnesCount32 x_⟩
def bits_OnesCount32.G:Env:=⟨21,tab,[],[0,2],[],[(1,[⟨[],[],[6,7,8,9,11,12,13,14,16,17,18],[]⟩,⟨[0],[],[6,7,8,9,11,12,13,14,16,17,18],[]⟩,⟨[1,0],[],[6,7,8,9,11,12,13,14,16,17,18],[]⟩,⟨[],[],[3,4,5,11,12,13,14,16,17,18],[]⟩,⟨[3],[],[3,4,5,11,12,13,14,16,17,18],[]⟩,⟨[4,3],[],[3,4,5,11,12,13,14,16,17,18],[]⟩,⟨[5,4,3],[],[3,4,5,11,12,13,14,16,17,18],[]⟩,⟨[2,1,0,6,5,4,3],[],[11,12,13,14,16,17,18],[]⟩,⟨[],[],[3,4,5,6,7,8,9,10,16,17,18],[]⟩,⟨[8],[],[3,4,5,6,7,8,9,10,16,17,18],[]⟩,⟨[9,8],[],[3,4,5,6,7,8,9,10,16,17,18],[]⟩,⟨[10,9,8],[],[3,4,5,6,7,8,9,10,16,17,18],[]⟩,⟨[7,2,1,0,6,5,4,3,11,10,9,8],[],[16,17,18],[]⟩,⟨[],[],[3,4,5,6,7,8,9,10,11,12,13,14,15],[]⟩,⟨[13],[],[3,4,5,6,7,8,9,10,11,12,13,14,15],[]⟩,⟨[14,13],[],[3,4,5,6,7,8,9,10,11,12,13,14,15],[]⟩,⟨[12,7,2,1,0,6,5,4,3,11,10,9,8,15,14,13],[],[],[]⟩,⟨[16,12,7,2,1,0,6,5,4,3,11,10,9,8,15,14,13],[],[],[]⟩,⟨[17,16,12,7,2,1,0,6,5,4,3,11,10,9,8,15,14,13],[],[],[]⟩])],[(1,bits_OnesCount32.c1r)],[],tab_eqs⟩
theorem bits_OnesCount32.eq (x_:dens bits_OnesCount32.ce.params):den bits_OnesCount32.G Try.f135 bits_OnesCount32.ce.params bits_OnesCount32.ce.res x_ = bits_OnesCount32.ce.F x_:=by kernel_rfl
theorem bits_OnesCount32.p0:PcA bits_OnesCount32.G Try.f135 0 :=
 region_ok (s:=bits_OnesCount32.c1r) (by kernel_rfl) (by kernel_rfl) (sums_of (sh:=bits_OnesCount32.c1s) (fun ρ x_ k_=>(nat_bnd fun _=>(nat_bnd fun _=>(nat_bnd fun _=>(nat_bnd fun _=>nat_leaf))))) (fun ρ x_ t k=>(by kernel_rfl)) (fun x_=>by kernel_rfl))
theorem bits_OnesCount32.ok:CalleeOk Try.prog 135 bits_OnesCount32.ce:=fn_ok (G:=bits_OnesCount32.G) tab_ok mixed Try.func135 ⟨fns_nil,mfns_nil,tab_eqs_ok⟩ (m:=1) (by kernel_rfl) ⟨trivial,bits_OnesCount32.p0⟩ (by kernel_rfl) bits_OnesCount32.eq
def bits_OnesCount64 (x:Int):Option Int :=
 some (ibits BinOp.and IntKind.i64 (IntKind.wrap IntKind.i64 (IntKind.wrap IntKind.u64 (IntKind.wrap IntKind.u64 (IntKind.wrap IntKind.u64 (ibits BinOp.and IntKind.u64 (IntKind.wrap IntKind.u64 (Int.fdiv (IntKind.wrap IntKind.u64 (ibits BinOp.and IntKind.u64 (Int.fdiv (IntKind.wrap IntKind.u64 (ibits BinOp.and IntKind.u64 (Int.fdiv x ((2:Int) ^ (1:Nat))) (6148914691236517205:Int) + ibits BinOp.and IntKind.u64 x (6148914691236517205:Int))) ((2:Int) ^ (2:Nat))) (3689348814741910323:Int) + ibits BinOp.and IntKind.u64 (IntKind.wrap IntKind.u64 (ibits BinOp.and IntKind.u64 (Int.fdiv x ((2:Int) ^ (1:Nat))) (6148914691236517205:Int) + ibits BinOp.and IntKind.u64 x (6148914691236517205:Int))) (3689348814741910323:Int))) ((2:Int) ^ (4:Nat)) + IntKind.wrap IntKind.u64 (ibits BinOp.and IntKind.u64 (Int.fdiv (IntKind.wrap IntKind.u64 (ibits BinOp.and IntKind.u64 (Int.fdiv x ((2:Int) ^ (1:Nat))) (6148914691236517205:Int) + ibits BinOp.and IntKind.u64 x (6148914691236517205:Int))) ((2:Int) ^ (2:Nat))) (3689348814741910323:Int) + ibits BinOp.and IntKind.u64 (IntKind.wrap IntKind.u64 (ibits BinOp.and IntKind.u64 (Int.fdiv x ((2:Int) ^ (1:Nat))) (6148914691236517205:Int) + ibits BinOp.and IntKind.u64 x (6148914691236517205:Int))) (3689348814741910323:Int)))) (1085102592571150095:Int) + Int.fdiv (ibits BinOp.and IntKind.u64 (IntKind.wrap IntKind.u64 (Int.fdiv (IntKind.wrap IntKind.u64 (ibits BinOp.and IntKind.u64 (Int.fdiv (IntKind.wrap IntKind.u64 (ibits BinOp.and IntKind.u64 (Int.fdiv x ((2:Int) ^ (1:Nat))) (6148914691236517205:Int) + ibits BinOp.and IntKind.u64 x (6148914691236517205:Int))) ((2:Int) ^ (2:Nat))) (3689348814741910323:Int) + ibits BinOp.and IntKind.u64 (IntKind.wrap IntKind.u64 (ibits BinOp.and IntKind.u64 (Int.fdiv x ((2:Int) ^ (1:Nat))) (6148914691236517205:Int) + ibits BinOp.and IntKind.u64 x (6148914691236517205:Int))) (3689348814741910323:Int))) ((2:Int) ^ (4:Nat)) + IntKind.wrap IntKind.u64 (ibits BinOp.and IntKind.u64 (Int.fdiv (IntKind.wrap IntKind.u64 (ibits BinOp.and IntKind.u64 (Int.fdiv x ((2:Int) ^ (1:Nat))) (6148914691236517205:Int) + ibits BinOp.and IntKind.u64 x (6148914691236517205:Int))) ((2:Int) ^ (2:Nat))) (3689348814741910323:Int) + ibits BinOp.and IntKind.u64 (IntKind.wrap IntKind.u64 (ibits BinOp.and IntKind.u64 (Int.fdiv x ((2:Int) ^ (1:Nat))) (6148914691236517205:Int) + ibits BinOp.and IntKind.u64 x (6148914691236517205:Int))) (3689348814741910323:Int)))) (1085102592571150095:Int)) ((2:Int) ^ (8:Nat))) + Int.fdiv (IntKind.wrap IntKind.u64 (ibits BinOp.and IntKind.u64 (IntKind.wrap IntKind.u64 (Int.fdiv (IntKind.wrap IntKind.u64 (ibits BinOp.and IntKind.u64 (Int.fdiv (IntKind.wrap IntKind.u64 (ibits BinOp.and IntKind.u64 (Int.fdiv x ((2:Int) ^ (1:Nat))) (6148914691236517205:Int) + ibits BinOp.and IntKind.u64 x (6148914691236517205:Int))) ((2:Int) ^ (2:Nat))) (3689348814741910323:Int) + ibits BinOp.and IntKind.u64 (IntKind.wrap IntKind.u64 (ibits BinOp.and IntKind.u64 (Int.fdiv x ((2:Int) ^ (1:Nat))) (6148914691236517205:Int) + ibits BinOp.and IntKind.u64 x (6148914691236517205:Int))) (3689348814741910323:Int))) ((2:Int) ^ (4:Nat)) + IntKind.wrap IntKind.u64 (ibits BinOp.and IntKind.u64 (Int.fdiv (IntKind.wrap IntKind.u64 (ibits BinOp.and IntKind.u64 (Int.fdiv x ((2:Int) ^ (1:Nat))) (6148914691236517205:Int) + ibits BinOp.and IntKind.u64 x (6148914691236517205:Int))) ((2:Int) ^ (2:Nat))) (3689348814741910323:Int) + ibits BinOp.and IntKind.u64 (IntKind.wrap IntKind.u64 (ibits BinOp.and IntKind.u64 (Int.fdiv x ((2:Int) ^ (1:Nat))) (6148914691236517205:Int) + ibits BinOp.and IntKind.u64 x (6148914691236517205:Int))) (3689348814741910323:Int)))) (1085102592571150095:Int) + Int.fdiv (ibits BinOp.and IntKind.u64 (IntKind.wrap IntKind.u64 (Int.fdiv (IntKind.wrap IntKind.u64 (ibits BinOp.and IntKind.u64 (Int.fdiv (IntKind.wrap IntKind.u64 (ibits BinOp.and IntKind.u64 (Int.fdiv x ((2:Int) ^ (1:Nat))) (6148914691236517205:Int) + ibits BinOp.and IntKind.u64 x (6148914691236517205:Int))) ((2:Int) ^ (2:Nat))) (3689348814741910323:Int) + ibits BinOp.and IntKind.u64 (IntKind.wrap IntKind.u64 (ibits BinOp.and IntKind.u64 (Int.fdiv x ((2:Int) ^ (1:Nat))) (6148914691236517205:Int) + ibits BinOp.and IntKind.u64 x (6148914691236517205:Int))) (3689348814741910323:Int))) ((2:Int) ^ (4:Nat)) + IntKind.wrap IntKind.u64 (ibits BinOp.and IntKind.u64 (Int.fdiv (IntKind.wrap IntKind.u64 (ibits BinOp.and IntKind.u64 (Int.fdiv x ((2:Int) ^ (1:Nat))) (6148914691236517205:Int) + ibits BinOp.and IntKind.u64 x (6148914691236517205:Int))) ((2:Int) ^ (2:Nat))) (3689348814741910323:Int) + ibits BinOp.and IntKind.u64 (IntKind.wrap IntKind.u64 (ibits BinOp.and IntKind.u64 (Int.fdiv x ((2:Int) ^ (1:Nat))) (6148914691236517205:Int) + ibits BinOp.and IntKind.u64 x (6148914691236517205:Int))) (3689348814741910323:Int)))) (1085102592571150095:Int)) ((2:Int) ^ (8:Nat)))) ((2:Int) ^ (16:Nat))) + Int.fdiv (IntKind.wrap IntKind.u64 (IntKind.wrap IntKind.u64 (ibits BinOp.and IntKind.u64 (IntKind.wrap IntKind.u64 (Int.fdiv (IntKind.wrap IntKind.u64 (ibits BinOp.and IntKind.u64 (Int.fdiv (IntKind.wrap IntKind.u64 (ibits BinOp.and IntKind.u64 (Int.fdiv x ((2:Int) ^ (1:Nat))) (6148914691236517205:Int) + ibits BinOp.and IntKind.u64 x (6148914691236517205:Int))) ((2:Int) ^ (2:Nat))) (3689348814741910323:Int) + ibits BinOp.and IntKind.u64 (IntKind.wrap IntKind.u64 (ibits BinOp.and IntKind.u64 (Int.fdiv x ((2:Int) ^ (1:Nat))) (6148914691236517205:Int) + ibits BinOp.and IntKind.u64 x (6148914691236517205:Int))) (3689348814741910323:Int))) ((2:Int) ^ (4:Nat)) + IntKind.wrap IntKind.u64 (ibits BinOp.and IntKind.u64 (Int.fdiv (IntKind.wrap IntKind.u64 (ibits BinOp.and IntKind.u64 (Int.fdiv x ((2:Int) ^ (1:Nat))) (6148914691236517205:Int) + ibits BinOp.and IntKind.u64 x (6148914691236517205:Int))) ((2:Int) ^ (2:Nat))) (3689348814741910323:Int) + ibits BinOp.and IntKind.u64 (IntKind.wrap IntKind.u64 (ibits BinOp.and IntKind.u64 (Int.fdiv x ((2:Int) ^ (1:Nat))) (6148914691236517205:Int) + ibits BinOp.and IntKind.u64 x (6148914691236517205:Int))) (3689348814741910323:Int)))) (1085102592571150095:Int) + Int.fdiv (ibits BinOp.and IntKind.u64 (IntKind.wrap IntKind.u64 (Int.fdiv (IntKind.wrap IntKind.u64 (ibits BinOp.and IntKind.u64 (Int.fdiv (IntKind.wrap IntKind.u64 (ibits BinOp.and IntKind.u64 (Int.fdiv x ((2:Int) ^ (1:Nat))) (6148914691236517205:Int) + ibits BinOp.and IntKind.u64 x (6148914691236517205:Int))) ((2:Int) ^ (2:Nat))) (3689348814741910323:Int) + ibits BinOp.and IntKind.u64 (IntKind.wrap IntKind.u64 (ibits BinOp.and IntKind.u64 (Int.fdiv x ((2:Int) ^ (1:Nat))) (6148914691236517205:Int) + ibits BinOp.and IntKind.u64 x (6148914691236517205:Int))) (3689348814741910323:Int))) ((2:Int) ^ (4:Nat)) + IntKind.wrap IntKind.u64 (ibits BinOp.and IntKind.u64 (Int.fdiv (IntKind.wrap IntKind.u64 (ibits BinOp.and IntKind.u64 (Int.fdiv x ((2:Int) ^ (1:Nat))) (6148914691236517205:Int) + ibits BinOp.and IntKind.u64 x (6148914691236517205:Int))) ((2:Int) ^ (2:Nat))) (3689348814741910323:Int) + ibits BinOp.and IntKind.u64 (IntKind.wrap IntKind.u64 (ibits BinOp.and IntKind.u64 (Int.fdiv x ((2:Int) ^ (1:Nat))) (6148914691236517205:Int) + ibits BinOp.and IntKind.u64 x (6148914691236517205:Int))) (3689348814741910323:Int)))) (1085102592571150095:Int)) ((2:Int) ^ (8:Nat))) + Int.fdiv (IntKind.wrap IntKind.u64 (ibits BinOp.and IntKind.u64 (IntKind.wrap IntKind.u64 (Int.fdiv (IntKind.wrap IntKind.u64 (ibits BinOp.and IntKind.u64 (Int.fdiv (IntKind.wrap IntKind.u64 (ibits BinOp.and IntKind.u64 (Int.fdiv x ((2:Int) ^ (1:Nat))) (6148914691236517205:Int) + ibits BinOp.and IntKind.u64 x (6148914691236517205:Int))) ((2:Int) ^ (2:Nat))) (3689348814741910323:Int) + ibits BinOp.and IntKind.u64 (IntKind.wrap IntKind.u64 (ibits BinOp.and IntKind.u64 (Int.fdiv x ((2:Int) ^ (1:Nat))) (6148914691236517205:Int) + ibits BinOp.and IntKind.u64 x (6148914691236517205:Int))) (3689348814741910323:Int))) ((2:Int) ^ (4:Nat)) + IntKind.wrap IntKind.u64 (ibits BinOp.and IntKind.u64 (Int.fdiv (IntKind.wrap IntKind.u64 (ibits BinOp.and IntKind.u64 (Int.fdiv x ((2:Int) ^ (1:Nat))) (6148914691236517205:Int) + ibits BinOp.and IntKind.u64 x (6148914691236517205:Int))) ((2:Int) ^ (2:Nat))) (3689348814741910323:Int) + ibits BinOp.and IntKind.u64 (IntKind.wrap IntKind.u64 (ibits BinOp.and IntKind.u64 (Int.fdiv x ((2:Int) ^ (1:Nat))) (6148914691236517205:Int) + ibits BinOp.and IntKind.u64 x (6148914691236517205:Int))) (3689348814741910323:Int)))) (1085102592571150095:Int) + Int.fdiv (ibits BinOp.and IntKind.u64 (IntKind.wrap IntKind.u64 (Int.fdiv (IntKind.wrap IntKind.u64 (ibits BinOp.and IntKind.u64 (Int.fdiv (IntKind.wrap IntKind.u64 (ibits BinOp.and IntKind.u64 (Int.fdiv x ((2:Int) ^ (1:Nat))) (6148914691236517205:Int) + ibits BinOp.and IntKind.u64 x (6148914691236517205:Int))) ((2:Int) ^ (2:Nat))) (3689348814741910323:Int) + ibits BinOp.and IntKind.u64 (IntKind.wrap IntKind.u64 (ibits BinOp.and IntKind.u64 (Int.fdiv x ((2:Int) ^ (1:Nat))) (6148914691236517205:Int) + ibits BinOp.and IntKind.u64 x (6148914691236517205:Int))) (3689348814741910323:Int))) ((2:Int) ^ (4:Nat)) + IntKind.wrap IntKind.u64 (ibits BinOp.and IntKind.u64 (Int.fdiv (IntKind.wrap IntKind.u64 (ibits BinOp.and IntKind.u64 (Int.fdiv x ((2:Int) ^ (1:Nat))) (6148914691236517205:Int) + ibits BinOp.and IntKind.u64 x (6148914691236517205:Int))) ((2:Int) ^ (2:Nat))) (3689348814741910323:Int) + ibits BinOp.and IntKind.u64 (IntKind.wrap IntKind.u64 (ibits BinOp.and IntKind.u64 (Int.fdiv x ((2:Int) ^ (1:Nat))) (6148914691236517205:Int) + ibits BinOp.and IntKind.u64 x (6148914691236517205:Int))) (3689348814741910323:Int)))) (1085102592571150095:Int)) ((2:Int) ^ (8:Nat)))) ((2:Int) ^ (16:Nat)))) ((2:Int) ^ (32:Nat))))) (127:Int))
def bits_OnesCount64.ce:Go.Ql.Callee:=⟨[(.int .u64)],[(.int .i64)],fun x_=>bits_OnesCount64 x_⟩
def bits_OnesCount64.G:Env:=⟨35,tab,[],[0,2],[],[],[],[],tab_eqs⟩
theorem bits_OnesCount64.eq (x_:dens bits_OnesCount64.ce.params):den bits_OnesCount64.G Try.f136 bits_OnesCount64.ce.params bits_OnesCount64.ce.res x_ = bits_OnesCount64.ce.F x_:=by kernel_rfl
theorem bits_OnesCount64.ok:CalleeOk Try.prog 136 bits_OnesCount64.ce:=fn_ok (G:=bits_OnesCount64.G) tab_ok mixed Try.func136 ⟨fns_nil,mfns_nil,tab_eqs_ok⟩ (m:=0) (by kernel_rfl) trivial (by kernel_rfl) bits_OnesCount64.eq
def bits_OnesCount (x:Int):Option Int :=
 bnd (W.bits_OnesCount64 x) fun y =>
 some y
def bits_OnesCount.ce:Go.Ql.Callee:=⟨[(.int .u64)],[(.int .i64)],fun x_=>bits_OnesCount x_⟩
def bits_OnesCount.G:Env:=⟨8,tab,[(135,bits_OnesCount32.ce),(136,bits_OnesCount64.ce)],[0,2],[],[],[],[],tab_eqs⟩
theorem bits_OnesCount.eq (x_:dens bits_OnesCount.ce.params):den bits_OnesCount.G Try.f118 bits_OnesCount.ce.params bits_OnesCount.ce.res x_ = bits_OnesCount.ce.F x_:=by kernel_rfl
theorem bits_OnesCount.ok:CalleeOk Try.prog 118 bits_OnesCount.ce:=fn_ok (G:=bits_OnesCount.G) tab_ok mixed Try.func118 ⟨(fns_cons bits_OnesCount32.ok (fns_cons bits_OnesCount64.ok fns_nil)),mfns_nil,tab_eqs_ok⟩ (m:=0) (by kernel_rfl) trivial (by kernel_rfl) bits_OnesCount.eq
abbrev tb11:SD:=.one (.val (.st (.pair (.int .u64) (.pair (.int .u64) .bool))))
abbrev tb12:SD:=.one (.ref 3 0)
def tableau_pauli_meets.c1 {ρ:Type} (p0:Int) (p1:Int) (o0:Int) (o1:Int) (k_:Bool → Option ρ):Option ρ :=
 bnd (W.bits_OnesCount (ibits BinOp.and IntKind.u64 p0 o1)) fun y =>
 bnd (W.bits_OnesCount (ibits BinOp.and IntKind.u64 p1 o0)) fun y_1 =>
 k_ (ibits BinOp.and IntKind.i64 y (1:Int) != ibits BinOp.and IntKind.i64 y_1 (1:Int))
def tableau_pauli_meets.c1s:Shape:=⟨[(0,tb11),(1,tb11),(2,tb2),(3,tb12),(4,tb7)],[(2,tb9),(3,tb9)]⟩
def tableau_pauli_meets.c1x0:Shape:=tableau_pauli_meets.c1s
def tableau_pauli_meets.c1r:Ck:=Ck.of (T:=Bool) tableau_pauli_meets.c1s (fun ρ x_ k_=>tableau_pauli_meets.c1 x_.2.2.2.1 x_.2.2.2.2.1 x_.2.2.2.2.2.2.1 x_.2.2.2.2.2.2.2.1 k_) (fun ρ x_ r_ k_=>k_ 0 (Shape.inj tableau_pauli_meets.c1x0 (x_.1,x_.2.1,r_,x_.2.2.2)))
def tableau_pauli_meets (p:Int×(Int×(Bool))) (o:Int×(Int×(Bool))):Option (Bool) :=
 bnd (W.tableau_pauli_meets.c1 (Prod.fst p) (Prod.fst (Prod.snd p)) (Prod.fst o) (Prod.fst (Prod.snd o)) some) fun y =>
 some y
def tableau_pauli_meets.ce:Go.Ql.Callee:=⟨[(.st (.pair (.int .u64) (.pair (.int .u64) .bool))),(.st (.pair (.int .u64) (.pair (.int .u64) .bool)))],[.bool],fun x_=>tableau_pauli_meets x_.1 x_.2⟩
def tableau_pauli_meets.G:Env:=⟨20,tab,[(118,bits_OnesCount.ce)],[0,1,2,3,4],[],[(1,[⟨[],[],[7,8,12,13,14,15,16],[]⟩,⟨[0],[],[7,8,12,13,14,15,16],[]⟩,⟨[],[],[5,6,12,13,14,15,16],[]⟩,⟨[2],[],[5,6,12,13,14,15,16],[]⟩,⟨[1,0,3,2],[],[12,13,14,15,16],[]⟩,⟨[4,1,0,3,2],[],[12,13,14,15,16],[]⟩,⟨[5,4,1,0,3,2],[],[12,13,14,15,16,17,18],[]⟩,⟨[],[],[5,6,7,8,9,10,11,14,15],[]⟩,⟨[7],[],[5,6,7,8,9,10,11,14,15],[]⟩,⟨[],[],[5,6,7,8,9,10,11,12,13],[]⟩,⟨[9],[],[5,6,7,8,9,10,11,12,13],[]⟩,⟨[8,7,10,9],[],[5,6,7,8,9,10,11],[]⟩,⟨[11,8,7,10,9,5,4,1,0,3,2],[],[11],[]⟩,⟨[12,11,8,7,10,9,5,4,1,0,3,2],[],[11],[]⟩,⟨[6,5,4,1,0,3,2,13,12,11,8,7,10,9],[],[],[]⟩,⟨[14,6,5,4,1,0,3,2,13,12,11,8,7,10,9],[],[],[]⟩])],[(1,tableau_pauli_meets.c1r)],[],tab_eqs⟩
theorem tableau_pauli_meets.eq (x_:dens tableau_pauli_meets.ce.params):den tableau_pauli_meets.G Try.f85 tableau_pauli_meets.ce.params tableau_pauli_meets.ce.res x_ = tableau_pauli_meets.ce.F x_:=by kernel_rfl
theorem tableau_pauli_meets.p0:PcA tableau_pauli_meets.G Try.f85 0 :=
 region_ok (s:=tableau_pauli_meets.c1r) (by kernel_rfl) (by kernel_rfl) (sums_of (sh:=tableau_pauli_meets.c1s) (fun ρ x_ k_=>(nat_bnd fun _=>(nat_bnd fun _=>nat_leaf))) (fun ρ x_ t k=>(by kernel_rfl)) (fun x_=>by kernel_rfl))
theorem tableau_pauli_meets.ok:CalleeOk Try.prog 85 tableau_pauli_meets.ce:=fn_ok (G:=tableau_pauli_meets.G) tab_ok mixed Try.func85 ⟨(fns_cons bits_OnesCount.ok fns_nil),mfns_nil,tab_eqs_ok⟩ (m:=1) (by kernel_rfl) ⟨trivial,tableau_pauli_meets.p0⟩ (by kernel_rfl) tableau_pauli_meets.eq
abbrev tb13:SD:=.one (.val (.int .u64))
abbrev tb17:SD:=.one (.val (.sl (.st (.pair (.int .u64) (.pair (.int .u64) .bool)))))
abbrev tb19:SO:=.box [.val (.int .i64),.val (.int .i64)]
abbrev tb20:SD:=.one (.own 5 0)
abbrev tb21:SD:=.one (.val (.sl .str))
abbrev tb22:SO:=.arr 0 false 80 (.st (.pair (.int .u64) (.pair (.int .u64) .bool)))
abbrev tb23:SD:=.one (.ref 11 0)
abbrev tb25:SD:=.one (.val (.st (.pair (.int .i64) (.pair (.int .i64) (.pair (.sl (.int .i64)) (.pair (.int .i64) (.pair (.int .i64) (.sl (.int .i64)))))))))
abbrev tb26:SO:=.box [.val (.int .i64),.val (.int .i64),.val (.sl (.int .i64)),.val (.int .i64),.val (.int .i64),.val (.sl (.int .i64))]
abbrev tb27:SD:=.one (.ref 8 0)
def tableau_pauli_gate_b.self.pre:Shape:=⟨[(0,tb11),(1,tb25)],[]⟩
def tableau_pauli_gate_b.self.post:Shape:=⟨[(0,tb11)],[]⟩
class tableau_pauli_gate_b.Self where
 F:densU tableau_pauli_gate_b.self.pre.tys → Option (densU tableau_pauli_gate_b.self.post.tys)
 ok:MOk Try.prog 57 ⟨57,tableau_pauli_gate_b.self.pre,tableau_pauli_gate_b.self.post,F⟩
section
variable [tableau_pauli_gate_b.Self]
def tableau_pauli_gate_b.self (x_:densU tableau_pauli_gate_b.self.pre.tys):Option (densU tableau_pauli_gate_b.self.post.tys):=tableau_pauli_gate_b.Self.F x_
def tableau_pauli_gate_b.self.mc:MCallee:=⟨57,tableau_pauli_gate_b.self.pre,tableau_pauli_gate_b.self.post,fun x_=>tableau_pauli_gate_b.self x_⟩
theorem tableau_pauli_gate_b.self.ok:MOk Try.prog 57 tableau_pauli_gate_b.self.mc:=tableau_pauli_gate_b.Self.ok
def tableau_pauli_gate_b.pre:Shape:=⟨[(0,tb11),(1,tb25)],[]⟩
def tableau_pauli_gate_b.post:Shape:=⟨[(0,tb11)],[]⟩
def tableau_pauli_gate_b.c2 {ρ:Type} (q:Int) (k_:Unit → Option ρ):Option ρ :=
 bnd (okIf (decide ((0:Int) ≤ q))) fun y =>
 bnd (okIf (decide ((0:Int) ≤ q))) fun y_1 =>
 k_ ()
def tableau_pauli_gate_b.c2s:Shape:=⟨[(0,tb11),(1,tb25),(2,tb2),(3,tb12),(4,tb6),(5,tb13)],[(2,tb9),(3,tb26),(4,tb9)]⟩
def tableau_pauli_gate_b.c2x0:Shape:=⟨[(0,tb11),(1,tb25),(2,tb2),(3,tb12),(4,tb6),(5,tb13),(6,tb13),(7,tb13)],[(2,tb9),(3,tb26),(4,tb9)]⟩
def tableau_pauli_gate_b.c2r:Ck:=Ck.of (T:=Unit) tableau_pauli_gate_b.c2s (fun ρ x_ k_=>tableau_pauli_gate_b.c2 x_.2.2.1 k_) (fun ρ x_ r_ k_=>k_ 0 (Shape.inj tableau_pauli_gate_b.c2x0 (x_.1,x_.2.1,x_.2.2.1,(ibits BinOp.and IntKind.u64 (Int.fdiv x_.2.2.2.1 ((2:Int) ^ Min.min (Int.toNat x_.2.2.1) (64:Nat))) (1:Int)),(ibits BinOp.and IntKind.u64 (Int.fdiv x_.2.2.2.2.1 ((2:Int) ^ Min.min (Int.toNat x_.2.2.1) (64:Nat))) (1:Int)),x_.2.2.2)))
def tableau_pauli_gate_b.c216391 {ρ:Type} (q:Int) (x:Int) (z:Int) (p0:Int) (p1:Int) (k_:Int×Int → Option ρ):Option ρ :=
 br (x != z)
 (bnd (okIf (decide ((0:Int) ≤ q))) fun y =>
 bnd (okIf (decide ((0:Int) ≤ q))) fun y_1 =>
 k_ ((ibits BinOp.xor IntKind.u64 p0 (IntKind.wrap IntKind.u64 ((1:Int) * (2:Int) ^ Min.min (Int.toNat q) (64:Nat)))),(ibits BinOp.xor IntKind.u64 p1 (IntKind.wrap IntKind.u64 ((1:Int) * (2:Int) ^ Min.min (Int.toNat q) (64:Nat))))))
 (k_ (p0,p1))
def tableau_pauli_gate_b.c216391s:Shape:=tableau_pauli_gate_b.c2x0
def tableau_pauli_gate_b.c216391x0:Shape:=tableau_pauli_gate_b.c2x0
def tableau_pauli_gate_b.c216391r:Ck:=Ck.of (T:=Int×Int) tableau_pauli_gate_b.c216391s (fun ρ x_ k_=>tableau_pauli_gate_b.c216391 x_.2.2.1 x_.2.2.2.1 x_.2.2.2.2.1 x_.2.2.2.2.2.1 x_.2.2.2.2.2.2.1 k_) (fun ρ x_ r_ k_=>k_ 0 (Shape.inj tableau_pauli_gate_b.c216391x0 (x_.1,x_.2.1,x_.2.2.1,x_.2.2.2.1,x_.2.2.2.2.1,r_.1,r_.2,x_.2.2.2.2.2.2.2)))
def tableau_pauli_gate_b.c8 {ρ:Type} (o0:Int) (o2:List Int) (k_:Bool → Option ρ):Option ρ :=
 br (o0 == (4:Int))
 (k_ ((↑(List.length o2):Int) == (0:Int)))
 (k_ false)
def tableau_pauli_gate_b.c8s:Shape:=tableau_pauli_gate_b.c2x0
def tableau_pauli_gate_b.c8x0:Shape:=⟨[(0,tb11),(1,tb25),(2,tb2),(3,tb12),(4,tb6),(5,tb13),(6,tb13),(7,tb13),(52,tb7)],[(2,tb9),(3,tb26),(4,tb9)]⟩
def tableau_pauli_gate_b.c8r:Ck:=Ck.of (T:=Bool) tableau_pauli_gate_b.c8s (fun ρ x_ k_=>tableau_pauli_gate_b.c8 x_.2.2.2.2.2.2.2.2.1 x_.2.2.2.2.2.2.2.2.2.2.1 k_) (fun ρ x_ r_ k_=>k_ 0 (Shape.inj tableau_pauli_gate_b.c8x0 (x_.1,x_.2.1,x_.2.2.1,x_.2.2.2.1,x_.2.2.2.2.1,r_,x_.2.2.2.2.2)))
def tableau_pauli_gate_b.c11 {ρ:Type} (q:Int) (k_:Unit → Option ρ):Option ρ :=
 bnd (okIf (decide ((0:Int) ≤ q))) fun y =>
 bnd (okIf (decide ((0:Int) ≤ q))) fun y_1 =>
 k_ ()
def tableau_pauli_gate_b.c11s:Shape:=⟨[(0,tb11),(1,tb25),(2,tb2),(3,tb12),(4,tb6),(5,tb13),(6,tb13),(7,tb13),(64,tb5),(65,tb5)],[(2,tb9),(3,tb26),(4,tb9)]⟩
def tableau_pauli_gate_b.c11x0:Shape:=tableau_pauli_gate_b.c11s
def tableau_pauli_gate_b.c11r:Ck:=Ck.of (T:=Unit) tableau_pauli_gate_b.c11s (fun ρ x_ k_=>tableau_pauli_gate_b.c11 x_.2.2.1 k_) (fun ρ x_ r_ k_=>k_ 0 (Shape.inj tableau_pauli_gate_b.c11x0 (x_.1,x_.2.1,x_.2.2.1,(ibits BinOp.and IntKind.u64 (Int.fdiv x_.2.2.2.2.2.2.2.1 ((2:Int) ^ Min.min (Int.toNat x_.2.2.1) (64:Nat))) (1:Int)),(ibits BinOp.and IntKind.u64 (Int.fdiv x_.2.2.2.2.2.2.2.2.1 ((2:Int) ^ Min.min (Int.toNat x_.2.2.1) (64:Nat))) (1:Int)),x_.2.2.2.2.2)))
def tableau_pauli_gate_b.c100010 {ρ:Type} (q:Int) (x:Int) (z:Int) (t64:Int) (t65:Int) (p0:Int) (p1:Int) (p2:Bool) (k_:(Int×Int×Int×Int×(Bool)) ⊕ (Int×Int×Int×Int×(Bool)) → Option ρ):Option ρ :=
 br (decide (t65 < t64))
 (bnd (W.tableau_pauli_gate_b.c11 q some) fun y =>
 bnd (okIf (decide ((0:Int) ≤ q))) fun y_1 =>
 k_ (.inl ((ibits BinOp.and IntKind.u64 (Int.fdiv p0 ((2:Int) ^ Min.min (Int.toNat q) (64:Nat))) (1:Int)),(ibits BinOp.and IntKind.u64 (Int.fdiv p1 ((2:Int) ^ Min.min (Int.toNat q) (64:Nat))) (1:Int)),(IntKind.wrap IntKind.i64 (t65 + (1:Int))),(ibits BinOp.xor IntKind.u64 p1 (IntKind.wrap IntKind.u64 (ibits BinOp.and IntKind.u64 (Int.fdiv p0 ((2:Int) ^ Min.min (Int.toNat q) (64:Nat))) (1:Int) * (2:Int) ^ Min.min (Int.toNat q) (64:Nat)))),(!p2 == (ibits BinOp.and IntKind.u64 (ibits BinOp.and IntKind.u64 (Int.fdiv p0 ((2:Int) ^ Min.min (Int.toNat q) (64:Nat))) (1:Int)) (ibits BinOp.and IntKind.u64 (Int.fdiv p1 ((2:Int) ^ Min.min (Int.toNat q) (64:Nat))) (1:Int)) == (1:Int))))))
 (k_ (.inr (x,z,t65,p1,p2)))
def tableau_pauli_gate_b.c100010s:Shape:=tableau_pauli_gate_b.c11s
def tableau_pauli_gate_b.c100010x0:Shape:=tableau_pauli_gate_b.c11s
def tableau_pauli_gate_b.c100010r:Ck:=Ck.ofLoop (S:=Int×Int×Int×Int×(Bool)) (T:=Int×Int×Int×Int×(Bool)) tableau_pauli_gate_b.c100010s (fun x_=>(x_.2.2.2.1,x_.2.2.2.2.1,x_.2.2.2.2.2.2.1,x_.2.2.2.2.2.2.2.2.1,x_.2.2.2.2.2.2.2.2.2.1)) (fun ρ x_ s_ k_=>tableau_pauli_gate_b.c100010 x_.2.2.1 s_.1 s_.2.1 x_.2.2.2.2.2.1 s_.2.2.1 x_.2.2.2.2.2.2.2.1 s_.2.2.2.1 s_.2.2.2.2 k_) (fun ρ x_ r_ k_=>k_ 3 (Shape.inj tableau_pauli_gate_b.c100010x0 (x_.1,x_.2.1,x_.2.2.1,r_.1,r_.2.1,x_.2.2.2.2.2.1,r_.2.2.1,x_.2.2.2.2.2.2.2.1,r_.2.2.2.1,r_.2.2.2.2,x_.2.2.2.2.2.2.2.2.2.2)))
def tableau_pauli_gate_b.c15 {ρ:Type} (o0:Int) (o1:Int) (k_:Bool → Option ρ):Option ρ :=
 br (o0 == (4:Int))
 (k_ (o1 == (8:Int)))
 (k_ false)
def tableau_pauli_gate_b.c15s:Shape:=tableau_pauli_gate_b.c2x0
def tableau_pauli_gate_b.c15x0:Shape:=⟨[(0,tb11),(1,tb25),(2,tb2),(3,tb12),(4,tb6),(5,tb13),(6,tb13),(7,tb13),(93,tb7)],[(2,tb9),(3,tb26),(4,tb9)]⟩
def tableau_pauli_gate_b.c15r:Ck:=Ck.of (T:=Bool) tableau_pauli_gate_b.c15s (fun ρ x_ k_=>tableau_pauli_gate_b.c15 x_.2.2.2.2.2.2.2.2.1 x_.2.2.2.2.2.2.2.2.2.1 k_) (fun ρ x_ r_ k_=>k_ 0 (Shape.inj tableau_pauli_gate_b.c15x0 (x_.1,x_.2.1,x_.2.2.1,x_.2.2.2.1,x_.2.2.2.2.1,r_,x_.2.2.2.2.2)))
def tableau_pauli_gate_b.c17 {ρ:Type} (p0:Int) (p1:Int) (p2:Bool) (o2:List Int) (o3:Int) (h0:Int) (h1:Int) (h2:List Int) (h3:Int) (h4:Int) (h5:List Int) (k_:Int×Int×(Bool) → Option ρ):Option ρ :=
 bnd (W.tableau_pauli_gate_b.self ((p0,p1,p2),(h0,h1,h2,h3,h4,h5),())) fun y =>
 bnd (W.tableau_pauli_gate_b.self (Prod.fst y,((2:Int),(0:Int),o2,o3,(0:Int),[]),())) fun y_1 =>
 bnd (W.tableau_pauli_gate_b.self (Prod.fst y_1,(h0,h1,h2,h3,h4,h5),())) fun y_2 =>
 k_ ((Prod.fst (Prod.fst y_2)),(Prod.fst (Prod.snd (Prod.fst y_2))),(Prod.snd (Prod.snd (Prod.fst y_2))))
def tableau_pauli_gate_b.c17s:Shape:=⟨[(0,tb11),(1,tb25),(2,tb2),(3,tb12),(4,tb6),(5,tb13),(6,tb13),(7,tb13),(8,tb27)],[(2,tb9),(3,tb26),(4,tb9),(8,tb26)]⟩
def tableau_pauli_gate_b.c17x0:Shape:=tableau_pauli_gate_b.c17s
def tableau_pauli_gate_b.c17r:Ck:=Ck.of (T:=Int×Int×(Bool)) tableau_pauli_gate_b.c17s (fun ρ x_ k_=>tableau_pauli_gate_b.c17 x_.2.2.2.2.2.1 x_.2.2.2.2.2.2.1 x_.2.2.2.2.2.2.2.1 x_.2.2.2.2.2.2.2.2.2.2.1 x_.2.2.2.2.2.2.2.2.2.2.2.1 x_.2.2.2.2.2.2.2.2.2.2.2.2.2.2.2.2.2.1 x_.2.2.2.2.2.2.2.2.2.2.2.2.2.2.2.2.2.2.1 x_.2.2.2.2.2.2.2.2.2.2.2.2.2.2.2.2.2.2.2.1 x_.2.2.2.2.2.2.2.2.2.2.2.2.2.2.2.2.2.2.2.2.1 x_.2.2.2.2.2.2.2.2.2.2.2.2.2.2.2.2.2.2.2.2.2.1 x_.2.2.2.2.2.2.2.2.2.2.2.2.2.2.2.2.2.2.2.2.2.2.1 k_) (fun ρ x_ r_ k_=>k_ 0 (Shape.inj tableau_pauli_gate_b.c17x0 (x_.1,x_.2.1,x_.2.2.1,x_.2.2.2.1,x_.2.2.2.2.1,r_.1,r_.2.1,r_.2.2,x_.2.2.2.2.2.2.2.2)))
def tableau_pauli_gate_b.c18 {ρ:Type} (o0:Int) (o2:List Int) (k_:Bool → Option ρ):Option ρ :=
 br (o0 == (2:Int))
 (k_ ((↑(List.length o2):Int) == (0:Int)))
 (k_ false)
def tableau_pauli_gate_b.c18s:Shape:=tableau_pauli_gate_b.c2x0
def tableau_pauli_gate_b.c18x0:Shape:=⟨[(0,tb11),(1,tb25),(2,tb2),(3,tb12),(4,tb6),(5,tb13),(6,tb13),(7,tb13),(116,tb7)],[(2,tb9),(3,tb26),(4,tb9)]⟩
def tableau_pauli_gate_b.c18r:Ck:=Ck.of (T:=Bool) tableau_pauli_gate_b.c18s (fun ρ x_ k_=>tableau_pauli_gate_b.c18 x_.2.2.2.2.2.2.2.2.1 x_.2.2.2.2.2.2.2.2.2.2.1 k_) (fun ρ x_ r_ k_=>k_ 0 (Shape.inj tableau_pauli_gate_b.c18x0 (x_.1,x_.2.1,x_.2.2.1,x_.2.2.2.1,x_.2.2.2.2.1,r_,x_.2.2.2.2.2)))
def tableau_pauli_gate_b.c22 {ρ:Type} (c:Int) (k_:Unit → Option ρ):Option ρ :=
 bnd (okIf (decide ((0:Int) ≤ c))) fun y =>
 bnd (okIf (decide ((0:Int) ≤ c))) fun y_1 =>
 k_ ()
def tableau_pauli_gate_b.c22s:Shape:=⟨[(0,tb11),(1,tb25),(2,tb2),(3,tb12),(4,tb6),(5,tb13),(6,tb13),(7,tb13),(9,tb13)],[(2,tb9),(3,tb26),(4,tb9)]⟩
def tableau_pauli_gate_b.c22x0:Shape:=⟨[(0,tb11),(1,tb25),(2,tb2),(3,tb12),(4,tb6),(5,tb13),(6,tb13),(7,tb13),(9,tb13),(10,tb13),(11,tb13)],[(2,tb9),(3,tb26),(4,tb9)]⟩
def tableau_pauli_gate_b.c22r:Ck:=Ck.of (T:=Unit) tableau_pauli_gate_b.c22s (fun ρ x_ k_=>tableau_pauli_gate_b.c22 x_.2.2.2.2.2.1 k_) (fun ρ x_ r_ k_=>k_ 0 (Shape.inj tableau_pauli_gate_b.c22x0 (x_.1,x_.2.1,x_.2.2.1,x_.2.2.2.1,x_.2.2.2.2.1,x_.2.2.2.2.2.1,(ibits BinOp.and IntKind.u64 (Int.fdiv x_.2.2.2.2.2.2.1 ((2:Int) ^ Min.min (Int.toNat x_.2.2.2.2.2.1) (64:Nat))) (1:Int)),(ibits BinOp.and IntKind.u64 (Int.fdiv x_.2.2.2.2.2.2.2.1 ((2:Int) ^ Min.min (Int.toNat x_.2.2.2.2.2.1) (64:Nat))) (1:Int)),x_.2.2.2.2.2.2)))
def tableau_pauli_gate_b.c23 {ρ:Type} (x:Int) (z:Int) (cx:Int) (cz:Int) (p2:Bool) (k_:Bool → Option ρ):Option ρ :=
 br (ibits BinOp.and IntKind.u64 cx z == (1:Int))
 (k_ (!p2 == (x == cz)))
 (k_ (!p2 == false))
def tableau_pauli_gate_b.c23s:Shape:=tableau_pauli_gate_b.c22x0
def tableau_pauli_gate_b.c23x0:Shape:=tableau_pauli_gate_b.c22x0
def tableau_pauli_gate_b.c23r:Ck:=Ck.of (T:=Bool) tableau_pauli_gate_b.c23s (fun ρ x_ k_=>tableau_pauli_gate_b.c23 x_.2.2.2.1 x_.2.2.2.2.1 x_.2.2.2.2.2.2.1 x_.2.2.2.2.2.2.2.1 x_.2.2.2.2.2.2.2.2.2.2.1 k_) (fun ρ x_ r_ k_=>k_ 0 (Shape.inj tableau_pauli_gate_b.c23x0 (x_.1,x_.2.1,x_.2.2.1,x_.2.2.2.1,x_.2.2.2.2.1,x_.2.2.2.2.2.1,x_.2.2.2.2.2.2.1,x_.2.2.2.2.2.2.2.1,x_.2.2.2.2.2.2.2.2.1,x_.2.2.2.2.2.2.2.2.2.1,r_,x_.2.2.2.2.2.2.2.2.2.2.2)))
def tableau_pauli_gate_b.c212345 {ρ:Type} (q:Int) (x:Int) (z:Int) (p0:Int) (p1:Int) (p2:Bool) (o0:Int) (o1:Int) (o2:List Int) (o3:Int) (k_:Int×Int×Int×Int×(Bool) → Option ρ):Option ρ :=
 br (o0 == (3:Int))
 (bnd (W.tableau_pauli_gate_b.c216391 q x z p0 p1 some) fun y =>
 k_ (x,z,(Prod.fst y),(Prod.snd y),(!p2 == (ibits BinOp.and IntKind.u64 x z == (1:Int)))))
 (bnd (W.tableau_pauli_gate_b.c8 o0 o2 some) fun y_1 =>
 br y_1
 (bnd (iter (fun s ↦ W.tableau_pauli_gate_b.c100010 q (Prod.fst s) (Prod.fst (Prod.snd s)) (IntKind.wrap IntKind.i64 (Int.tdiv o1 (4:Int))) (Prod.fst (Prod.snd (Prod.snd s))) p0 (Prod.fst (Prod.snd (Prod.snd (Prod.snd s)))) (Prod.snd (Prod.snd (Prod.snd (Prod.snd s)))) some) (x,z,(0:Int),p1,p2)) fun y_2 =>
 k_ ((Prod.fst y_2),(Prod.fst (Prod.snd y_2)),p0,(Prod.fst (Prod.snd (Prod.snd (Prod.snd y_2)))),(Prod.snd (Prod.snd (Prod.snd (Prod.snd y_2))))))
 (bnd (W.tableau_pauli_gate_b.c15 o0 o1 some) fun y_3 =>
 br y_3
 (bnd (W.tableau_pauli_gate_b.c17 p0 p1 p2 o2 o3 (3:Int) (0:Int) [] o3 (0:Int) [] some) fun y_4 =>
 k_ (x,z,(Prod.fst y_4),(Prod.fst (Prod.snd y_4)),(Prod.snd (Prod.snd y_4))))
 (bnd (W.tableau_pauli_gate_b.c18 o0 o2 some) fun y_5 =>
 br y_5
 (k_ (x,z,p0,p1,(!p2 == (z == (1:Int)))))
 (br (o0 == (2:Int))
 (bnd (idx o2 (0:Int)) fun y_6 =>
 bnd (W.tableau_pauli_gate_b.c22 (IntKind.wrap IntKind.u64 y_6) some) fun y_7 =>
 bnd (W.tableau_pauli_gate_b.c23 x z (ibits BinOp.and IntKind.u64 (Int.fdiv p0 ((2:Int) ^ Min.min (Int.toNat (IntKind.wrap IntKind.u64 y_6)) (64:Nat))) (1:Int)) (ibits BinOp.and IntKind.u64 (Int.fdiv p1 ((2:Int) ^ Min.min (Int.toNat (IntKind.wrap IntKind.u64 y_6)) (64:Nat))) (1:Int)) p2 some) fun y_8 =>
 bnd (okIf (decide ((0:Int) ≤ q))) fun y_9 =>
 bnd (okIf (decide ((0:Int) ≤ IntKind.wrap IntKind.u64 y_6))) fun y_10 =>
 k_ (x,z,(ibits BinOp.xor IntKind.u64 p0 (IntKind.wrap IntKind.u64 (ibits BinOp.and IntKind.u64 (Int.fdiv p0 ((2:Int) ^ Min.min (Int.toNat (IntKind.wrap IntKind.u64 y_6)) (64:Nat))) (1:Int) * (2:Int) ^ Min.min (Int.toNat q) (64:Nat)))),(ibits BinOp.xor IntKind.u64 p1 (IntKind.wrap IntKind.u64 (z * (2:Int) ^ Min.min (Int.toNat (IntKind.wrap IntKind.u64 y_6)) (64:Nat)))),y_8))
 (k_ (x,z,p0,p1,p2))))))
def tableau_pauli_gate_b.c212345s:Shape:=tableau_pauli_gate_b.c2x0
def tableau_pauli_gate_b.c212345x0:Shape:=tableau_pauli_gate_b.c2x0
def tableau_pauli_gate_b.c212345r:Ck:=Ck.of (T:=Int×Int×Int×Int×(Bool)) tableau_pauli_gate_b.c212345s (fun ρ x_ k_=>tableau_pauli_gate_b.c212345 x_.2.2.1 x_.2.2.2.1 x_.2.2.2.2.1 x_.2.2.2.2.2.1 x_.2.2.2.2.2.2.1 x_.2.2.2.2.2.2.2.1 x_.2.2.2.2.2.2.2.2.1 x_.2.2.2.2.2.2.2.2.2.1 x_.2.2.2.2.2.2.2.2.2.2.1 x_.2.2.2.2.2.2.2.2.2.2.2.1 k_) (fun ρ x_ r_ k_=>k_ 0 (Shape.inj tableau_pauli_gate_b.c212345x0 (x_.1,x_.2.1,x_.2.2.1,r_.1,r_.2.1,r_.2.2.1,r_.2.2.2.1,r_.2.2.2.2,x_.2.2.2.2.2.2.2.2)))
def tableau_pauli_gate_b (p:Int×(Int×(Bool))) (o:Int×(Int×((List Int)×(Int×(Int×(List Int)))))):Option ((Int×(Int×(Bool)))×Unit) :=
 bnd (W.tableau_pauli_gate_b.c2 (IntKind.wrap IntKind.u64 (Prod.fst (Prod.snd (Prod.snd (Prod.snd o))))) some) fun y =>
 bnd (W.tableau_pauli_gate_b.c212345 (IntKind.wrap IntKind.u64 (Prod.fst (Prod.snd (Prod.snd (Prod.snd o))))) (ibits BinOp.and IntKind.u64 (Int.fdiv (Prod.fst p) ((2:Int) ^ Min.min (Int.toNat (IntKind.wrap IntKind.u64 (Prod.fst (Prod.snd (Prod.snd (Prod.snd o)))))) (64:Nat))) (1:Int)) (ibits BinOp.and IntKind.u64 (Int.fdiv (Prod.fst (Prod.snd p)) ((2:Int) ^ Min.min (Int.toNat (IntKind.wrap IntKind.u64 (Prod.fst (Prod.snd (Prod.snd (Prod.snd o)))))) (64:Nat))) (1:Int)) (Prod.fst p) (Prod.fst (Prod.snd p)) (Prod.snd (Prod.snd p)) (Prod.fst o) (Prod.fst (Prod.snd o)) (Prod.fst (Prod.snd (Prod.snd o))) (Prod.fst (Prod.snd (Prod.snd (Prod.snd o)))) some) fun y_1 =>
 some ((Prod.fst (Prod.snd (Prod.snd y_1)),Prod.fst (Prod.snd (Prod.snd (Prod.snd y_1))),Prod.snd (Prod.snd (Prod.snd (Prod.snd y_1)))),())
def tableau_pauli_gate_b.mc:MCallee:=⟨57,tableau_pauli_gate_b.pre,tableau_pauli_gate_b.post,fun x_=>tableau_pauli_gate_b x_.1 x_.2.1⟩
def tableau_pauli_gate_b.G:Env:=⟨179,tab,[],[0,1,2,3,4,5,6,7,8,9,10,11,25,31,52,64,65,66,93,116,132],[],[(22,[⟨[],[],[143,146,147,148,149,150],[]⟩,⟨[0],[],[143,146,147,148,149,150],[]⟩,⟨[],[],[141,142,146,147,148,149,150],[]⟩,⟨[1,0,2],[],[146,147,148,149,150],[]⟩,⟨[3,1,0,2],[],[146,147,148,149,150],[]⟩,⟨[],[],[141,142,143,144,145,148,10],[]⟩,⟨[5],[],[141,142,143,144,145,148,10],[]⟩,⟨[],[],[141,142,143,144,145,146,147,10],[]⟩,⟨[6,5,7],[],[141,142,143,144,145,10],[]⟩,⟨[8,6,5,7],[],[141,142,143,144,145,10],[]⟩,⟨[4,3,1,0,2],[],[146,147,148,149,150],[]⟩,⟨[9,8,6,5,7,10,4,3,1,0,2],[],[],[]⟩]),
 (17,[⟨[],[],[106,108,109,110,111,112,114],[]⟩,⟨[],[],[105,108,109,110,111,112,114],[]⟩,⟨[0,1],[],[108,109,110,111,112,114],[]⟩,⟨[],[],[105,106,107,110,111,114],[]⟩,⟨[3],[],[105,106,107,110,111,114],[]⟩,⟨[],[],[105,106,107,108,109,114],[]⟩,⟨[5],[],[105,106,107,108,109,114],[]⟩,⟨[4,3,6,5],[],[105,106,107,114],[]⟩,⟨[2,0,1,7,4,3,6,5],[],[114],[]⟩,⟨[],[],[105,106,107,108,109,110,111,112,113],[]⟩,⟨[8,2,0,1,7,4,3,6,5,9],[],[],[]⟩,⟨[10,8,2,0,1,7,4,3,6,5,9],[2],[],[]⟩]),
 (11,[⟨[],[],[69,72,73,74,75,76],[]⟩,⟨[0],[],[69,72,73,74,75,76],[]⟩,⟨[],[],[67,68,72,73,74,75,76],[]⟩,⟨[1,0,2],[],[72,73,74,75,76],[]⟩,⟨[3,1,0,2],[],[72,73,74,75,76],[]⟩,⟨[],[],[67,68,69,70,71,74,6],[]⟩,⟨[5],[],[67,68,69,70,71,74,6],[]⟩,⟨[],[],[67,68,69,70,71,72,73,6],[]⟩,⟨[6,5,7],[],[67,68,69,70,71,6],[]⟩,⟨[8,6,5,7],[],[67,68,69,70,71,6],[]⟩,⟨[4,3,1,0,2],[],[72,73,74,75,76],[]⟩,⟨[9,8,6,5,7,10,4,3,1,0,2],[],[],[]⟩]),
 (2,[⟨[],[],[17,20,21,22,23,24],[]⟩,⟨[0],[],[17,20,21,22,23,24],[]⟩,⟨[],[],[15,16,20,21,22,23,24],[]⟩,⟨[1,0,2],[],[20,21,22,23,24],[]⟩,⟨[3,1,0,2],[],[20,21,22,23,24],[]⟩,⟨[],[],[15,16,17,18,19,22,6],[]⟩,⟨[5],[],[15,16,17,18,19,22,6],[]⟩,⟨[],[],[15,16,17,18,19,20,21,6],[]⟩,⟨[6,5,7],[],[15,16,17,18,19,6],[]⟩,⟨[8,6,5,7],[],[15,16,17,18,19,6],[]⟩,⟨[4,3,1,0,2],[],[20,21,22,23,24],[]⟩,⟨[9,8,6,5,7,10,4,3,1,0,2],[],[],[]⟩])],[(212345,tableau_pauli_gate_b.c212345r),(23,tableau_pauli_gate_b.c23r),(22,tableau_pauli_gate_b.c22r),(18,tableau_pauli_gate_b.c18r),(17,tableau_pauli_gate_b.c17r),(15,tableau_pauli_gate_b.c15r),(100010,tableau_pauli_gate_b.c100010r),(11,tableau_pauli_gate_b.c11r),(8,tableau_pauli_gate_b.c8r),(216391,tableau_pauli_gate_b.c216391r),(2,tableau_pauli_gate_b.c2r)],[(57,tableau_pauli_gate_b.self.mc)],tab_eqs⟩
theorem tableau_pauli_gate_b.eq (x_:densU tableau_pauli_gate_b.mc.pre.tys):denM tableau_pauli_gate_b.G Try.f57 tableau_pauli_gate_b.mc.pre tableau_pauli_gate_b.mc.post x_ = tableau_pauli_gate_b.mc.F x_:=by kernel_rfl
theorem tableau_pauli_gate_b.p0:PcA tableau_pauli_gate_b.G Try.f57 0 :=
 region_ok (s:=tableau_pauli_gate_b.c2r) (by kernel_rfl) (by kernel_rfl) (sums_of (sh:=tableau_pauli_gate_b.c2s) (fun ρ x_ k_=>(nat_bnd fun _=>(nat_bnd fun _=>nat_leaf))) (fun ρ x_ t k=>(by kernel_rfl)) (fun x_=>by kernel_rfl))
theorem tableau_pauli_gate_b.p1:PcA tableau_pauli_gate_b.G Try.f57 1 :=
 join_ok (s:=tableau_pauli_gate_b.c212345r) (by kernel_rfl) (by kernel_rfl) (sums_of (sh:=tableau_pauli_gate_b.c212345s) (fun ρ x_ k_=>(nat_br (nat_bnd fun _=>nat_leaf) (nat_bnd fun _=>(nat_br (nat_bnd fun _=>nat_leaf) (nat_bnd fun _=>(nat_br (nat_bnd fun _=>nat_leaf) (nat_bnd fun _=>(nat_br nat_leaf (nat_br (nat_bnd fun _=>(nat_bnd fun _=>(nat_bnd fun _=>(nat_bnd fun _=>(nat_bnd fun _=>nat_leaf))))) nat_leaf))))))))) (fun ρ x_ t k=>(by kernel_rfl)) (fun x_=>by kernel_rfl))
theorem tableau_pauli_gate_b.p2:PcA tableau_pauli_gate_b.G Try.f57 2 :=
 join_ok (s:=tableau_pauli_gate_b.c216391r) (by kernel_rfl) (by kernel_rfl) (sums_of (sh:=tableau_pauli_gate_b.c216391s) (fun ρ x_ k_=>(nat_br (nat_bnd fun _=>(nat_bnd fun _=>nat_leaf)) nat_leaf)) (fun ρ x_ t k=>(by kernel_rfl)) (fun x_=>by kernel_rfl))
theorem tableau_pauli_gate_b.p3:PcA tableau_pauli_gate_b.G Try.f57 3 :=
 region_ok (s:=tableau_pauli_gate_b.c8r) (by kernel_rfl) (by kernel_rfl) (sums_of (sh:=tableau_pauli_gate_b.c8s) (fun ρ x_ k_=>(nat_br nat_leaf nat_leaf)) (fun ρ x_ t k=>(by kernel_rfl)) (fun x_=>by kernel_rfl))
theorem tableau_pauli_gate_b.p4:PcA tableau_pauli_gate_b.G Try.f57 4 :=
 loop_ok (s:=tableau_pauli_gate_b.c100010r) (by kernel_rfl) (by kernel_rfl) (loops_of (sh:=tableau_pauli_gate_b.c100010s) (I:=fun x_ s_=>(x_.1,x_.2.1,x_.2.2.1,s_.1,s_.2.1,x_.2.2.2.2.2.1,s_.2.2.1,x_.2.2.2.2.2.2.2.1,s_.2.2.2.1,s_.2.2.2.2,x_.2.2.2.2.2.2.2.2.2.2)) (fun x_=>rfl) (fun ρ x_ s_ k_=>(nat_br (nat_bnd fun _=>(nat_bnd fun _=>nat_leaf)) nat_leaf)) (fun ρ x_ t k=>(by kernel_rfl)) (fun x_ s=>by kernel_rfl))
theorem tableau_pauli_gate_b.p5:PcA tableau_pauli_gate_b.G Try.f57 5 :=
 region_ok (s:=tableau_pauli_gate_b.c11r) (by kernel_rfl) (by kernel_rfl) (sums_of (sh:=tableau_pauli_gate_b.c11s) (fun ρ x_ k_=>(nat_bnd fun _=>(nat_bnd fun _=>nat_leaf))) (fun ρ x_ t k=>(by kernel_rfl)) (fun x_=>by kernel_rfl))
theorem tableau_pauli_gate_b.p6:PcA tableau_pauli_gate_b.G Try.f57 6 :=
 region_ok (s:=tableau_pauli_gate_b.c15r) (by kernel_rfl) (by kernel_rfl) (sums_of (sh:=tableau_pauli_gate_b.c15s) (fun ρ x_ k_=>(nat_br nat_leaf nat_leaf)) (fun ρ x_ t k=>(by kernel_rfl)) (fun x_=>by kernel_rfl))
theorem tableau_pauli_gate_b.p7:PcA tableau_pauli_gate_b.G Try.f57 7 :=
 region_ok (s:=tableau_pauli_gate_b.c17r) (by kernel_rfl) (by kernel_rfl) (sums_of (sh:=tableau_pauli_gate_b.c17s) (fun ρ x_ k_=>(nat_bnd fun _=>(nat_bnd fun _=>(nat_bnd fun _=>nat_leaf)))) (fun ρ x_ t k=>(by kernel_rfl)) (fun x_=>by kernel_rfl))
theorem tableau_pauli_gate_b.p8:PcA tableau_pauli_gate_b.G Try.f57 8 :=
 region_ok (s:=tableau_pauli_gate_b.c18r) (by kernel_rfl) (by kernel_rfl) (sums_of (sh:=tableau_pauli_gate_b.c18s) (fun ρ x_ k_=>(nat_br nat_leaf nat_leaf)) (fun ρ x_ t k=>(by kernel_rfl)) (fun x_=>by kernel_rfl))
theorem tableau_pauli_gate_b.p9:PcA tableau_pauli_gate_b.G Try.f57 9 :=
 region_ok (s:=tableau_pauli_gate_b.c22r) (by kernel_rfl) (by kernel_rfl) (sums_of (sh:=tableau_pauli_gate_b.c22s) (fun ρ x_ k_=>(nat_bnd fun _=>(nat_bnd fun _=>nat_leaf))) (fun ρ x_ t k=>(by kernel_rfl)) (fun x_=>by kernel_rfl))
theorem tableau_pauli_gate_b.p10:PcA tableau_pauli_gate_b.G Try.f57 10 :=
 region_ok (s:=tableau_pauli_gate_b.c23r) (by kernel_rfl) (by kernel_rfl) (sums_of (sh:=tableau_pauli_gate_b.c23s) (fun ρ x_ k_=>(nat_br nat_leaf nat_leaf)) (fun ρ x_ t k=>(by kernel_rfl)) (fun x_=>by kernel_rfl))
theorem tableau_pauli_gate_b.ok:MOk Try.prog 57 tableau_pauli_gate_b.mc:=fnm_ok (G:=tableau_pauli_gate_b.G) tab_ok mixed Try.func57 ⟨fns_nil,(mfns_cons tableau_pauli_gate_b.self.ok mfns_nil),tab_eqs_ok⟩ (m:=11) (by kernel_rfl) ⟨⟨⟨⟨⟨⟨⟨⟨⟨⟨⟨trivial,tableau_pauli_gate_b.p0⟩,tableau_pauli_gate_b.p1⟩,tableau_pauli_gate_b.p2⟩,tableau_pauli_gate_b.p3⟩,tableau_pauli_gate_b.p4⟩,tableau_pauli_gate_b.p5⟩,tableau_pauli_gate_b.p6⟩,tableau_pauli_gate_b.p7⟩,tableau_pauli_gate_b.p8⟩,tableau_pauli_gate_b.p9⟩,tableau_pauli_gate_b.p10⟩ (by kernel_rfl) tableau_pauli_gate_b.eq
end
@[reducible] def tableau_pauli_gate_b.fuel:Nat → tableau_pauli_gate_b.Self
 | 0=>⟨fun _=>none,⟨⟨Try.f57,Try.func57,by kernel_rfl,by kernel_rfl⟩,fun _ _ _ _ _ _ _ hy=>by cases hy⟩⟩
 | n + 1=>⟨fun x_=>(@tableau_pauli_gate_b.mc (tableau_pauli_gate_b.fuel n)).F x_,@tableau_pauli_gate_b.ok (tableau_pauli_gate_b.fuel n)⟩
def tableau_pauli_gate (x_:densU tableau_pauli_gate_b.self.pre.tys):Option (densU tableau_pauli_gate_b.self.post.tys):=(tableau_pauli_gate_b.fuel (3)).F x_
def tableau_pauli_gate.mc:MCallee:=⟨57,tableau_pauli_gate_b.self.pre,tableau_pauli_gate_b.self.post,fun x_=>tableau_pauli_gate x_⟩
theorem tableau_pauli_gate.ok:MOk Try.prog 57 tableau_pauli_gate.mc:=mok_diag (F:=fun n=>(tableau_pauli_gate_b.fuel n).F) (fun n=>(tableau_pauli_gate_b.fuel n).ok) (fun x_=>3)
abbrev tb28:SD:=.one (.ref 1000700 0)
abbrev tb30:SO:=.arr 0 false 53 (.st (.pair (.int .i64) (.pair (.int .i64) (.pair (.sl (.int .i64)) (.pair (.int .i64) (.pair (.int .i64) (.sl (.int .i64))))))))
abbrev tb31:SD:=.one (.val (.sl (.st (.pair (.int .i64) (.pair (.int .i64) (.pair (.sl (.int .i64)) (.pair (.int .i64) (.pair (.int .i64) (.sl (.int .i64))))))))))
def circ_fault (code:Int) (t1:Int):Option (Int×Int) :=
 some (code,t1)
def circ_fault.ce:Go.Ql.Callee:=⟨[(.int .i64),(.int .i64)],[(.st (.pair (.int .i64) (.int .i64)))],fun x_=>circ_fault x_.1 x_.2⟩
def circ_fault.G:Env:=⟨8,tab,[],[0,1,4],[],[],[],[],tab_eqs⟩
theorem circ_fault.eq (x_:dens circ_fault.ce.params):den circ_fault.G Try.f80 circ_fault.ce.params circ_fault.ce.res x_ = circ_fault.ce.F x_:=by kernel_rfl
theorem circ_fault.ok:CalleeOk Try.prog 80 circ_fault.ce:=fn_ok (G:=circ_fault.G) tab_ok mixed Try.func80 ⟨fns_nil,mfns_nil,tab_eqs_ok⟩ (m:=0) (by kernel_rfl) trivial (by kernel_rfl) circ_fault.eq
def circ_turns.c1 {ρ:Type} (kind:Int) (k_:Bool → Option ρ):Option ρ :=
 br (kind == (1:Int))
 (k_ true)
 (k_ (kind == (4:Int)))
def circ_turns.c1s:Shape:=⟨[(0,tb5),(2,tb7)],[]⟩
def circ_turns.c1x0:Shape:=circ_turns.c1s
def circ_turns.c1r:Ck:=Ck.of (T:=Bool) circ_turns.c1s (fun ρ x_ k_=>circ_turns.c1 x_.1 k_) (fun ρ x_ r_ k_=>k_ 0 (Shape.inj circ_turns.c1x0 (x_.1,r_,())))
def circ_turns (kind:Int):Option (Bool) :=
 bnd (W.circ_turns.c1 kind some) fun y =>
 some y
def circ_turns.ce:Go.Ql.Callee:=⟨[(.int .i64)],[.bool],fun x_=>circ_turns x_⟩
def circ_turns.G:Env:=⟨9,tab,[],[0,2],[],[],[(1,circ_turns.c1r)],[],tab_eqs⟩
theorem circ_turns.eq (x_:dens circ_turns.ce.params):den circ_turns.G Try.f116 circ_turns.ce.params circ_turns.ce.res x_ = circ_turns.ce.F x_:=by kernel_rfl
theorem circ_turns.p0:PcA circ_turns.G Try.f116 0 :=
 region_ok (s:=circ_turns.c1r) (by kernel_rfl) (by kernel_rfl) (sums_of (sh:=circ_turns.c1s) (fun ρ x_ k_=>(nat_br nat_leaf nat_leaf)) (fun ρ x_ t k=>(by kernel_rfl)) (fun x_=>by kernel_rfl))
theorem circ_turns.ok:CalleeOk Try.prog 116 circ_turns.ce:=fn_ok (G:=circ_turns.G) tab_ok mixed Try.func116 ⟨fns_nil,mfns_nil,tab_eqs_ok⟩ (m:=1) (by kernel_rfl) ⟨trivial,circ_turns.p0⟩ (by kernel_rfl) circ_turns.eq
def circ_gate.c1 {ρ:Type} (kind:Int) (k_:Bool → Option ρ):Option ρ :=
 br (kind == (2:Int))
 (k_ true)
 (br (kind == (3:Int))
 (k_ true)
 (k_ (kind == (4:Int))))
def circ_gate.c1s:Shape:=⟨[(0,tb5),(2,tb7)],[]⟩
def circ_gate.c1x0:Shape:=circ_gate.c1s
def circ_gate.c1r:Ck:=Ck.of (T:=Bool) circ_gate.c1s (fun ρ x_ k_=>circ_gate.c1 x_.1 k_) (fun ρ x_ r_ k_=>k_ 0 (Shape.inj circ_gate.c1x0 (x_.1,r_,())))
def circ_gate (kind:Int):Option (Bool) :=
 bnd (W.circ_gate.c1 kind some) fun y =>
 some y
def circ_gate.ce:Go.Ql.Callee:=⟨[(.int .i64)],[.bool],fun x_=>circ_gate x_⟩
def circ_gate.G:Env:=⟨13,tab,[],[0,2],[],[],[(1,circ_gate.c1r)],[],tab_eqs⟩
theorem circ_gate.eq (x_:dens circ_gate.ce.params):den circ_gate.G Try.f117 circ_gate.ce.params circ_gate.ce.res x_ = circ_gate.ce.F x_:=by kernel_rfl
theorem circ_gate.p0:PcA circ_gate.G Try.f117 0 :=
 region_ok (s:=circ_gate.c1r) (by kernel_rfl) (by kernel_rfl) (sums_of (sh:=circ_gate.c1s) (fun ρ x_ k_=>(nat_br nat_leaf (nat_br nat_leaf nat_leaf))) (fun ρ x_ t k=>(by kernel_rfl)) (fun x_=>by kernel_rfl))
theorem circ_gate.ok:CalleeOk Try.prog 117 circ_gate.ce:=fn_ok (G:=circ_gate.G) tab_ok mixed Try.func117 ⟨fns_nil,mfns_nil,tab_eqs_ok⟩ (m:=1) (by kernel_rfl) ⟨trivial,circ_gate.p0⟩ (by kernel_rfl) circ_gate.eq
abbrev tb33:SD:=.one (.ref 1000100 0)
abbrev tb34:SO:=.box [.val (.int .i64),.val (.int .i64),.val (.sl (.st (.pair (.int .i64) (.pair (.int .i64) (.pair (.sl (.int .i64)) (.pair (.int .i64) (.pair (.int .i64) (.sl (.int .i64)))))))))]
abbrev tb35:SD:=.one (.aptr 5 0)
abbrev tb36:SD:=.one (.val (.sl (.int .i64)))
abbrev tb37:SO:=.arr 0 false 152 .bool
def circ_one.pre:Shape:=⟨[(0,tb25),(1,tb33)],[(1000100,tb34)]⟩
def circ_one.post:Shape:=⟨[(0,tb5)],[(1000100,tb34)]⟩
def circ_one.c1 {ρ:Type} (o0:Int) (k_:Bool → Option ρ):Option ρ :=
 br (decide (o0 < (1:Int)))
 (k_ true)
 (k_ (decide (o0 > (6:Int))))
def circ_one.c1s:Shape:=⟨[(0,tb25),(1,tb33),(2,tb2),(4,tb5)],[(2,tb26),(1000100,tb34)]⟩
def circ_one.c1x0:Shape:=⟨[(0,tb25),(1,tb33),(2,tb2),(4,tb5),(17,tb7)],[(2,tb26),(1000100,tb34)]⟩
def circ_one.c1r:Ck:=Ck.of (T:=Bool) circ_one.c1s (fun ρ x_ k_=>circ_one.c1 x_.2.2.1 k_) (fun ρ x_ r_ k_=>k_ 0 (Shape.inj circ_one.c1x0 (x_.1,x_.2.1,r_,x_.2.2)))
def circ_one.c3 {ρ:Type} (o0:Int) (o1:Int) (k_:Bool → Option ρ):Option ρ :=
 br (decide (o1 < (0:Int)))
 (k_ true)
 (br (decide (o1 > (15:Int)))
 (k_ true)
 (bnd (W.circ_turns o0) fun y =>
 br (!y)
 (k_ (o1 != (0:Int)))
 (k_ false)))
def circ_one.c3s:Shape:=circ_one.c1s
def circ_one.c3x0:Shape:=⟨[(0,tb25),(1,tb33),(2,tb2),(4,tb5),(36,tb7)],[(2,tb26),(1000100,tb34)]⟩
def circ_one.c3r:Ck:=Ck.of (T:=Bool) circ_one.c3s (fun ρ x_ k_=>circ_one.c3 x_.2.2.1 x_.2.2.2.1 k_) (fun ρ x_ r_ k_=>k_ 0 (Shape.inj circ_one.c3x0 (x_.1,x_.2.1,r_,x_.2.2)))
def circ_one.c5 {ρ:Type} (o0:Int) (o3:Int) (t10001000:Int) (k_:Bool → Option ρ):Option ρ :=
 br (decide (o3 < (0:Int)))
 (k_ true)
 (br (decide (o3 ≥ t10001000))
 (k_ true)
 (br (o0 == (1:Int))
 (k_ (o3 != (0:Int)))
 (k_ false)))
def circ_one.c5s:Shape:=circ_one.c1s
def circ_one.c5x0:Shape:=⟨[(0,tb25),(1,tb33),(2,tb2),(4,tb5),(58,tb7)],[(2,tb26),(1000100,tb34)]⟩
def circ_one.c5r:Ck:=Ck.of (T:=Bool) circ_one.c5s (fun ρ x_ k_=>circ_one.c5 x_.2.2.1 x_.2.2.2.2.2.1 x_.2.2.2.2.2.2.2.2.1 k_) (fun ρ x_ r_ k_=>k_ 0 (Shape.inj circ_one.c5x0 (x_.1,x_.2.1,r_,x_.2.2)))
def circ_one.c7 {ρ:Type} (o0:Int) (o2:List Int) (k_:Bool → Option ρ):Option ρ :=
 br (decide ((↑(List.length o2):Int) > (0:Int)))
 (bnd (W.circ_gate o0) fun y =>
 k_ (!y))
 (k_ false)
def circ_one.c7s:Shape:=circ_one.c1s
def circ_one.c7x0:Shape:=⟨[(0,tb25),(1,tb33),(2,tb2),(4,tb5),(68,tb7)],[(2,tb26),(1000100,tb34)]⟩
def circ_one.c7r:Ck:=Ck.of (T:=Bool) circ_one.c7s (fun ρ x_ k_=>circ_one.c7 x_.2.2.1 x_.2.2.2.2.1 k_) (fun ρ x_ r_ k_=>k_ 0 (Shape.inj circ_one.c7x0 (x_.1,x_.2.1,r_,x_.2.2)))
def circ_one.c14 {ρ:Type} (q:Int) (t10001000:Int) (k_:Bool → Option ρ):Option ρ :=
 br (decide (q < (0:Int)))
 (k_ true)
 (k_ (decide (q ≥ t10001000)))
def circ_one.c14s:Shape:=⟨[(0,tb25),(1,tb33),(2,tb2),(4,tb5),(5,tb35),(7,tb5),(74,tb36),(75,tb5),(76,tb5)],[(2,tb26),(5,tb37),(1000100,tb34)]⟩
def circ_one.c14x0:Shape:=⟨[(0,tb25),(1,tb33),(2,tb2),(4,tb5),(5,tb35),(7,tb5),(74,tb36),(75,tb5),(76,tb5),(80,tb7)],[(2,tb26),(5,tb37),(1000100,tb34)]⟩
def circ_one.c14r:Ck:=Ck.of (T:=Bool) circ_one.c14s (fun ρ x_ k_=>circ_one.c14 x_.2.2.1 x_.2.2.2.2.2.2.2.2.2.2.2.2.2.1 k_) (fun ρ x_ r_ k_=>k_ 0 (Shape.inj circ_one.c14x0 (x_.1,x_.2.1,x_.2.2.1,x_.2.2.2.1,x_.2.2.2.2.1,x_.2.2.2.2.2.1,r_,x_.2.2.2.2.2.2)))
def circ_one.c100012 {ρ:Type} (t74:List Int) (t75:Int) (t76:Int) (seen:List (Bool)) (t10001000:Int) (k_:(Int×(List (Bool))) ⊕ ((Int×Int×(List (Bool))) ⊕ (Int×(List (Bool)))) → Option ρ):Option ρ :=
 br (decide (t76 < t75))
 (bnd (idx t74 t76) fun y =>
 bnd (W.circ_one.c14 y t10001000 some) fun y_1 =>
 br y_1
 (k_ (.inr (.inl ((10:Int),t76,seen))))
 (bnd (okIf (decide ((0:Ty.den (Ty.int IntKind.i64)) ≤ y) && decide (y < (↑(12:Nat):Int)))) fun y_2 =>
 bnd (inR (List.length seen) y) fun y_3 =>
 bnd (idx seen y) fun y_4 =>
 br y_4
 (k_ (.inr (.inl ((12:Int),t76,seen))))
 (bnd (okIf (decide ((0:Ty.den (Ty.int IntKind.i64)) ≤ y) && decide (y < (↑(12:Nat):Int)))) fun y_5 =>
 bnd (inR (List.length seen) y) fun y_6 =>
 bnd (idx seen y) fun y_7 =>
 k_ (.inl ((IntKind.wrap IntKind.i64 (t76 + (1:Int))),(List.set seen (Int.toNat y) true))))))
 (k_ (.inr (.inr (t76,seen))))
def circ_one.c100012s:Shape:=⟨[(0,tb25),(1,tb33),(2,tb2),(4,tb5),(5,tb35),(74,tb36),(75,tb5),(76,tb5)],[(2,tb26),(5,tb37),(1000100,tb34)]⟩
def circ_one.c100012x0:Shape:=circ_one.c100012s
def circ_one.c100012x1:Shape:=circ_one.c100012s
def circ_one.c100012r:Ck:=Ck.ofLoop (S:=Int×(List (Bool))) (T:=(Int×Int×(List (Bool))) ⊕ (Int×(List (Bool)))) circ_one.c100012s (fun x_=>(x_.2.2.2.2.1,x_.2.2.2.2.2.2.2.2.2.2.2.1)) (fun ρ x_ s_ k_=>circ_one.c100012 x_.2.2.1 x_.2.2.2.1 s_.1 s_.2 x_.2.2.2.2.2.2.2.2.2.2.2.2.1 k_) (fun ρ x_ r_ k_=>sel r_ (fun r_=>k_ 1 (Shape.inj circ_one.c100012x0 (x_.1,r_.1,x_.2.2.1,x_.2.2.2.1,r_.2.1,x_.2.2.2.2.2.1,x_.2.2.2.2.2.2.1,x_.2.2.2.2.2.2.2.1,x_.2.2.2.2.2.2.2.2.1,x_.2.2.2.2.2.2.2.2.2.1,x_.2.2.2.2.2.2.2.2.2.2.1,r_.2.2,x_.2.2.2.2.2.2.2.2.2.2.2.2))) (fun r_=>k_ 2 (Shape.inj circ_one.c100012x1 (x_.1,x_.2.1,x_.2.2.1,x_.2.2.2.1,r_.1,x_.2.2.2.2.2.1,x_.2.2.2.2.2.2.1,x_.2.2.2.2.2.2.2.1,x_.2.2.2.2.2.2.2.2.1,x_.2.2.2.2.2.2.2.2.2.1,x_.2.2.2.2.2.2.2.2.2.2.1,r_.2,x_.2.2.2.2.2.2.2.2.2.2.2.2))))
def circ_one.c20 {ρ:Type} (o0:Int) (o4:Int) (t10001001:Int) (k_:Bool → Option ρ):Option ρ :=
 br (o0 == (5:Int))
 (br (decide (o4 < (0:Int)))
 (k_ true)
 (br (decide (o4 ≥ t10001001))
 (k_ true)
 (br (o0 != (5:Int))
 (k_ (o4 != (0:Int)))
 (k_ false))))
 (br (o0 != (5:Int))
 (k_ (o4 != (0:Int)))
 (k_ false))
def circ_one.c20s:Shape:=circ_one.c100012s
def circ_one.c20x0:Shape:=⟨[(0,tb25),(1,tb33),(2,tb2),(4,tb5),(5,tb35),(74,tb36),(75,tb5),(76,tb5),(124,tb7)],[(2,tb26),(5,tb37),(1000100,tb34)]⟩
def circ_one.c20r:Ck:=Ck.of (T:=Bool) circ_one.c20s (fun ρ x_ k_=>circ_one.c20 x_.2.2.2.2.2.1 x_.2.2.2.2.2.2.2.2.2.1 x_.2.2.2.2.2.2.2.2.2.2.2.2.2.1 k_) (fun ρ x_ r_ k_=>k_ 0 (Shape.inj circ_one.c20x0 (x_.1,x_.2.1,x_.2.2.1,x_.2.2.2.1,x_.2.2.2.2.1,r_,x_.2.2.2.2.2)))
def circ_one.c27 {ρ:Type} (v:Int) (t10001001:Int) (k_:Bool → Option ρ):Option ρ :=
 br (v == (0:Int))
 (k_ true)
 (br (decide (v > t10001001))
 (k_ true)
 (k_ (decide (v < IntKind.wrap IntKind.i64 ((0:Int) - t10001001)))))
def circ_one.c27s:Shape:=⟨[(0,tb25),(1,tb33),(2,tb2),(4,tb5),(5,tb35),(9,tb5),(74,tb36),(75,tb5),(76,tb5),(130,tb36),(131,tb5),(132,tb5)],[(2,tb26),(5,tb37),(1000100,tb34)]⟩
def circ_one.c27x0:Shape:=⟨[(0,tb25),(1,tb33),(2,tb2),(4,tb5),(5,tb35),(9,tb5),(74,tb36),(75,tb5),(76,tb5),(130,tb36),(131,tb5),(132,tb5),(154,tb7)],[(2,tb26),(5,tb37),(1000100,tb34)]⟩
def circ_one.c27r:Ck:=Ck.of (T:=Bool) circ_one.c27s (fun ρ x_ k_=>circ_one.c27 x_.2.2.1 x_.2.2.2.2.2.2.2.2.2.2.2.2.2.2.2.2.2.1 k_) (fun ρ x_ r_ k_=>k_ 0 (Shape.inj circ_one.c27x0 (x_.1,x_.2.1,x_.2.2.1,x_.2.2.2.1,x_.2.2.2.2.1,x_.2.2.2.2.2.1,x_.2.2.2.2.2.2.1,x_.2.2.2.2.2.2.2.1,x_.2.2.2.2.2.2.2.2.1,r_,x_.2.2.2.2.2.2.2.2.2)))
def circ_one.c100025 {ρ:Type} (t130:List Int) (t131:Int) (t132:Int) (t10001001:Int) (k_:Int ⊕ (Int ⊕ Int) → Option ρ):Option ρ :=
 br (decide (t132 < t131))
 (bnd (idx t130 t132) fun y =>
 bnd (W.circ_one.c27 y t10001001 some) fun y_1 =>
 br y_1
 (k_ (.inr (.inl t132)))
 (k_ (.inl (IntKind.wrap IntKind.i64 (t132 + (1:Int))))))
 (k_ (.inr (.inr t132)))
def circ_one.c100025s:Shape:=⟨[(0,tb25),(1,tb33),(2,tb2),(4,tb5),(5,tb35),(74,tb36),(75,tb5),(76,tb5),(130,tb36),(131,tb5),(132,tb5)],[(2,tb26),(5,tb37),(1000100,tb34)]⟩
def circ_one.c100025x0:Shape:=circ_one.c100025s
def circ_one.c100025x1:Shape:=circ_one.c100025s
def circ_one.c100025r:Ck:=Ck.ofLoop (S:=Int) (T:=Int ⊕ Int) circ_one.c100025s (fun x_=>x_.2.2.2.2.2.2.2.1) (fun ρ x_ s_ k_=>circ_one.c100025 x_.2.2.2.2.2.1 x_.2.2.2.2.2.2.1 s_ x_.2.2.2.2.2.2.2.2.2.2.2.2.2.2.2.2.1 k_) (fun ρ x_ r_ k_=>sel r_ (fun r_=>k_ 1 (Shape.inj circ_one.c100025x0 (x_.1,(14:Int),x_.2.2.1,x_.2.2.2.1,x_.2.2.2.2.1,x_.2.2.2.2.2.1,x_.2.2.2.2.2.2.1,r_,x_.2.2.2.2.2.2.2.2))) (fun r_=>k_ 5 (Shape.inj circ_one.c100025x1 (x_.1,x_.2.1,x_.2.2.1,x_.2.2.2.1,x_.2.2.2.2.1,x_.2.2.2.2.2.1,x_.2.2.2.2.2.2.1,r_,x_.2.2.2.2.2.2.2.2))))
def circ_one (o:Int×(Int×((List Int)×(Int×(Int×(List Int)))))) (t10001000:Int) (t10001001:Int) (t10001002:List (Int×(Int×((List Int)×(Int×(Int×(List Int))))))):Option (Int×Int×Int×(List (Int×(Int×((List Int)×(Int×(Int×(List Int)))))))×Unit) :=
 bnd (W.circ_one.c1 (Prod.fst o) some) fun y =>
 br y
 (some ((8:Int),t10001000,t10001001,t10001002,()))
 (bnd (W.circ_one.c3 (Prod.fst o) (Prod.fst (Prod.snd o)) some) fun y_1 =>
 br y_1
 (some ((9:Int),t10001000,t10001001,t10001002,()))
 (bnd (W.circ_one.c5 (Prod.fst o) (Prod.fst (Prod.snd (Prod.snd (Prod.snd o)))) t10001000 some) fun y_2 =>
 br y_2
 (some ((10:Int),t10001000,t10001001,t10001002,()))
 (bnd (W.circ_one.c7 (Prod.fst o) (Prod.fst (Prod.snd (Prod.snd o))) some) fun y_3 =>
 br y_3
 (some ((11:Int),t10001000,t10001001,t10001002,()))
 (bnd (okIf (decide ((0:Ty.den (Ty.int IntKind.i64)) ≤ Prod.fst (Prod.snd (Prod.snd (Prod.snd o)))) && decide (Prod.fst (Prod.snd (Prod.snd (Prod.snd o))) < (↑(12:Nat):Int)))) fun y_4 =>
 bnd (inR (List.length (List.replicate (12:Nat) false)) (Prod.fst (Prod.snd (Prod.snd (Prod.snd o))))) fun y_5 =>
 bnd (idx (List.replicate (12:Nat) false) (Prod.fst (Prod.snd (Prod.snd (Prod.snd o))))) fun y_6 =>
 bnd (iter (fun s ↦ W.circ_one.c100012 (Prod.fst (Prod.snd (Prod.snd o))) (↑(List.length (Prod.fst (Prod.snd (Prod.snd o)))):Int) (Prod.fst s) (Prod.snd s) t10001000 some) ((0:Int),List.set (List.replicate (12:Nat) false) (Int.toNat (Prod.fst (Prod.snd (Prod.snd (Prod.snd o))))) true)) fun y_7 =>
 sel y_7
 (fun u=>some (Prod.fst u,t10001000,t10001001,t10001002,()))
 (fun v=>bnd (W.circ_one.c20 (Prod.fst o) (Prod.fst (Prod.snd (Prod.snd (Prod.snd (Prod.snd o))))) t10001001 some) fun y_8 =>
 br y_8
 (some ((13:Int),t10001000,t10001001,t10001002,()))
 (br (decide ((↑(List.length (Prod.snd (Prod.snd (Prod.snd (Prod.snd (Prod.snd o)))))):Int) > (24:Int)))
 (some ((14:Int),t10001000,t10001001,t10001002,()))
 (bnd (iter (fun s ↦ W.circ_one.c100025 (Prod.snd (Prod.snd (Prod.snd (Prod.snd (Prod.snd o))))) (↑(List.length (Prod.snd (Prod.snd (Prod.snd (Prod.snd (Prod.snd o)))))):Int) s t10001001 some) (0:Int)) fun y_9 =>
 sel y_9
 (fun u_1=>some ((14:Int),t10001000,t10001001,t10001002,()))
 (fun v_1=>some ((0:Int),t10001000,t10001001,t10001002,())))))))))
def circ_one.mc:MCallee:=⟨81,circ_one.pre,circ_one.post,fun x_=>circ_one x_.1 x_.2.1 x_.2.2.1 x_.2.2.2.1⟩
def circ_one.G:Env:=⟨156,tab,[(116,circ_turns.ce),(117,circ_gate.ce)],[0,1,2,4,5,7,9,17,36,58,68,74,75,76,77,80,91,124,128,130,131,132,133,154],[5,69],[(20,[⟨[],[],[],[]⟩,⟨[0],[],[],[]⟩,⟨[1,0],[],[],[]⟩,⟨[2,1,0],[],[],[]⟩,⟨[3,2,1,0],[],[],[]⟩,⟨[4,3,2,1,0],[],[],[]⟩,⟨[5,4,3,2,1,0],[],[],[]⟩,⟨[6,5,4,3,2,1,0],[],[],[]⟩,⟨[7,6,5,4,3,2,1,0],[],[108,109,110,111],[]⟩,⟨[8,7,6,5,4,3,2,1,0],[],[108,109,110,111],[]⟩,⟨[7,6,5,4,3,2,1,0],[],[106,107],[]⟩,⟨[10,7,6,5,4,3,2,1,0],[],[106,107],[]⟩,⟨[11,10,7,6,5,4,3,2,1,0],[],[106,107],[]⟩,⟨[12,11,10,7,6,5,4,3,2,1,0],[],[106,107],[]⟩,⟨[9,8,7,6,5,4,3,2,1,0,13,12,11,10],[],[],[]⟩,⟨[7,6,5,4,3,2,1,0,14,9,8,13,12,11,10],[],[],[]⟩,⟨[3,2,1,0,15,7,6,5,4,14,9,8,13,12,11,10],[],[],[]⟩,⟨[16,3,2,1,0,15,7,6,5,4,14,9,8,13,12,11,10],[],[],[]⟩,⟨[17,16,3,2,1,0,15,7,6,5,4,14,9,8,13,12,11,10],[],[],[]⟩,⟨[18,17,16,3,2,1,0,15,7,6,5,4,14,9,8,13,12,11,10],[],[],[]⟩,⟨[19,18,17,16,3,2,1,0,15,7,6,5,4,14,9,8,13,12,11,10],[],[],[]⟩,⟨[20,19,18,17,16,3,2,1,0,15,7,6,5,4,14,9,8,13,12,11,10],[],[],[]⟩,⟨[21,20,19,18,17,16,3,2,1,0,15,7,6,5,4,14,9,8,13,12,11,10],[],[],[]⟩,⟨[22,21,20,19,18,17,16,3,2,1,0,15,7,6,5,4,14,9,8,13,12,11,10],[],[],[]⟩,⟨[23,22,21,20,19,18,17,16,3,2,1,0,15,7,6,5,4,14,9,8,13,12,11,10],[],[],[]⟩,⟨[21,20,19,18,17,16,3,2,1,0,15,7,6,5,4,14,9,8,13,12,11,10,24,23,22],[],[],[]⟩,⟨[17,16,3,2,1,0,15,7,6,5,4,14,9,8,13,12,11,10,25,21,20,19,18,24,23,22],[],[],[]⟩]),
 (5,[⟨[],[],[],[]⟩,⟨[0],[],[],[]⟩,⟨[1,0],[],[],[]⟩,⟨[2,1,0],[],[],[]⟩,⟨[3,2,1,0],[],[43,44,45,46],[]⟩,⟨[4,3,2,1,0],[],[43,44,45,46],[]⟩,⟨[3,2,1,0],[],[41,42],[]⟩,⟨[6,3,2,1,0],[],[41,42],[]⟩,⟨[7,6,3,2,1,0],[],[41,42],[]⟩,⟨[8,7,6,3,2,1,0],[],[41,42],[]⟩,⟨[5,4,3,2,1,0,9,8,7,6],[],[],[]⟩,⟨[3,2,1,0,10,5,4,9,8,7,6],[],[],[]⟩,⟨[11,3,2,1,0,10,5,4,9,8,7,6],[],[],[]⟩,⟨[12,11,3,2,1,0,10,5,4,9,8,7,6],[],[],[]⟩,⟨[13,12,11,3,2,1,0,10,5,4,9,8,7,6],[],[],[]⟩,⟨[14,13,12,11,3,2,1,0,10,5,4,9,8,7,6],[],[],[]⟩,⟨[15,14,13,12,11,3,2,1,0,10,5,4,9,8,7,6],[],[],[]⟩,⟨[16,15,14,13,12,11,3,2,1,0,10,5,4,9,8,7,6],[],[],[]⟩,⟨[17,16,15,14,13,12,11,3,2,1,0,10,5,4,9,8,7,6],[],[],[]⟩,⟨[18,17,16,15,14,13,12,11,3,2,1,0,10,5,4,9,8,7,6],[],[],[]⟩,⟨[16,15,14,13,12,11,3,2,1,0,10,5,4,9,8,7,6,19,18,17],[],[],[]⟩,⟨[12,11,3,2,1,0,10,5,4,9,8,7,6,20,16,15,14,13,19,18,17],[],[],[]⟩])],[(100025,circ_one.c100025r),(27,circ_one.c27r),(20,circ_one.c20r),(100012,circ_one.c100012r),(14,circ_one.c14r),(7,circ_one.c7r),(5,circ_one.c5r),(3,circ_one.c3r),(1,circ_one.c1r)],[],tab_eqs⟩
theorem circ_one.eq (x_:densU circ_one.mc.pre.tys):denM circ_one.G Try.f81 circ_one.mc.pre circ_one.mc.post x_ = circ_one.mc.F x_:=by kernel_rfl
theorem circ_one.p0:PcA circ_one.G Try.f81 0 :=
 region_ok (s:=circ_one.c1r) (by kernel_rfl) (by kernel_rfl) (sums_of (sh:=circ_one.c1s) (fun ρ x_ k_=>(nat_br nat_leaf nat_leaf)) (fun ρ x_ t k=>(by kernel_rfl)) (fun x_=>by kernel_rfl))
theorem circ_one.p1:PcA circ_one.G Try.f81 1 :=
 region_ok (s:=circ_one.c3r) (by kernel_rfl) (by kernel_rfl) (sums_of (sh:=circ_one.c3s) (fun ρ x_ k_=>(nat_br nat_leaf (nat_br nat_leaf (nat_bnd fun _=>(nat_br nat_leaf nat_leaf))))) (fun ρ x_ t k=>(by kernel_rfl)) (fun x_=>by kernel_rfl))
theorem circ_one.p2:PcA circ_one.G Try.f81 2 :=
 region_ok (s:=circ_one.c5r) (by kernel_rfl) (by kernel_rfl) (sums_of (sh:=circ_one.c5s) (fun ρ x_ k_=>(nat_br nat_leaf (nat_br nat_leaf (nat_br nat_leaf nat_leaf)))) (fun ρ x_ t k=>(by kernel_rfl)) (fun x_=>by kernel_rfl))
theorem circ_one.p3:PcA circ_one.G Try.f81 3 :=
 region_ok (s:=circ_one.c7r) (by kernel_rfl) (by kernel_rfl) (sums_of (sh:=circ_one.c7s) (fun ρ x_ k_=>(nat_br (nat_bnd fun _=>nat_leaf) nat_leaf)) (fun ρ x_ t k=>(by kernel_rfl)) (fun x_=>by kernel_rfl))
theorem circ_one.p4:PcA circ_one.G Try.f81 4 :=
 loop_ok (s:=circ_one.c100012r) (by kernel_rfl) (by kernel_rfl) (loops_of (sh:=circ_one.c100012s) (I:=fun x_ s_=>(x_.1,x_.2.1,x_.2.2.1,x_.2.2.2.1,s_.1,x_.2.2.2.2.2.1,x_.2.2.2.2.2.2.1,x_.2.2.2.2.2.2.2.1,x_.2.2.2.2.2.2.2.2.1,x_.2.2.2.2.2.2.2.2.2.1,x_.2.2.2.2.2.2.2.2.2.2.1,s_.2,x_.2.2.2.2.2.2.2.2.2.2.2.2)) (fun x_=>rfl) (fun ρ x_ s_ k_=>(nat_br (nat_bnd fun _=>(nat_bnd fun _=>(nat_br nat_leaf (nat_bnd fun _=>(nat_bnd fun _=>(nat_bnd fun _=>(nat_br nat_leaf (nat_bnd fun _=>(nat_bnd fun _=>(nat_bnd fun _=>nat_leaf)))))))))) nat_leaf)) (fun ρ x_ t k=>(nat_sel (fun _=>(by kernel_rfl)) (fun _=>(by kernel_rfl)))) (fun x_ s=>by kernel_rfl))
theorem circ_one.p5:PcA circ_one.G Try.f81 5 :=
 region_ok (s:=circ_one.c14r) (by kernel_rfl) (by kernel_rfl) (sums_of (sh:=circ_one.c14s) (fun ρ x_ k_=>(nat_br nat_leaf nat_leaf)) (fun ρ x_ t k=>(by kernel_rfl)) (fun x_=>by kernel_rfl))
theorem circ_one.p6:PcA circ_one.G Try.f81 6 :=
 region_ok (s:=circ_one.c20r) (by kernel_rfl) (by kernel_rfl) (sums_of (sh:=circ_one.c20s) (fun ρ x_ k_=>(nat_br (nat_br nat_leaf (nat_br nat_leaf (nat_br nat_leaf nat_leaf))) (nat_br nat_leaf nat_leaf))) (fun ρ x_ t k=>(by kernel_rfl)) (fun x_=>by kernel_rfl))
theorem circ_one.p7:PcA circ_one.G Try.f81 7 :=
 loop_ok (s:=circ_one.c100025r) (by kernel_rfl) (by kernel_rfl) (loops_of (sh:=circ_one.c100025s) (I:=fun x_ s_=>(x_.1,x_.2.1,x_.2.2.1,x_.2.2.2.1,x_.2.2.2.2.1,x_.2.2.2.2.2.1,x_.2.2.2.2.2.2.1,s_,x_.2.2.2.2.2.2.2.2)) (fun x_=>rfl) (fun ρ x_ s_ k_=>(nat_br (nat_bnd fun _=>(nat_bnd fun _=>(nat_br nat_leaf nat_leaf))) nat_leaf)) (fun ρ x_ t k=>(nat_sel (fun _=>(by kernel_rfl)) (fun _=>(by kernel_rfl)))) (fun x_ s=>by kernel_rfl))
theorem circ_one.p8:PcA circ_one.G Try.f81 8 :=
 region_ok (s:=circ_one.c27r) (by kernel_rfl) (by kernel_rfl) (sums_of (sh:=circ_one.c27s) (fun ρ x_ k_=>(nat_br nat_leaf (nat_br nat_leaf nat_leaf))) (fun ρ x_ t k=>(by kernel_rfl)) (fun x_=>by kernel_rfl))
theorem circ_one.ok:MOk Try.prog 81 circ_one.mc:=fnm_ok (G:=circ_one.G) tab_ok mixed Try.func81 ⟨(fns_cons circ_turns.ok (fns_cons circ_gate.ok fns_nil)),mfns_nil,tab_eqs_ok⟩ (m:=9) (by kernel_rfl) ⟨⟨⟨⟨⟨⟨⟨⟨⟨trivial,circ_one.p0⟩,circ_one.p1⟩,circ_one.p2⟩,circ_one.p3⟩,circ_one.p4⟩,circ_one.p5⟩,circ_one.p6⟩,circ_one.p7⟩,circ_one.p8⟩ (by kernel_rfl) circ_one.eq
abbrev tb38:SD:=.one (.val (.st (.pair (.int .i64) (.pair (.int .i64) (.sl (.st (.pair (.int .i64) (.pair (.int .i64) (.pair (.sl (.int .i64)) (.pair (.int .i64) (.pair (.int .i64) (.sl (.int .i64)))))))))))))
def circ_Check.c1 {ρ:Type} (c0:Int) (k_:Bool → Option ρ):Option ρ :=
 br (decide (c0 < (1:Int)))
 (k_ true)
 (k_ (decide (c0 > (12:Int))))
def circ_Check.c1s:Shape:=⟨[(0,tb38),(1,tb1),(2,tb2)],[(1,tb34),(2,tb19)]⟩
def circ_Check.c1x0:Shape:=⟨[(0,tb38),(1,tb1),(2,tb2),(6,tb7)],[(1,tb34),(2,tb19)]⟩
def circ_Check.c1r:Ck:=Ck.of (T:=Bool) circ_Check.c1s (fun ρ x_ k_=>circ_Check.c1 x_.2.1 k_) (fun ρ x_ r_ k_=>k_ 0 (Shape.inj circ_Check.c1x0 (x_.1,r_,x_.2)))
def circ_Check.c3 {ρ:Type} (c1:Int) (k_:Bool → Option ρ):Option ρ :=
 br (decide (c1 < (0:Int)))
 (k_ true)
 (k_ (decide (c1 > (12:Int))))
def circ_Check.c3s:Shape:=circ_Check.c1s
def circ_Check.c3x0:Shape:=⟨[(0,tb38),(1,tb1),(2,tb2),(16,tb7)],[(1,tb34),(2,tb19)]⟩
def circ_Check.c3r:Ck:=Ck.of (T:=Bool) circ_Check.c3s (fun ρ x_ k_=>circ_Check.c3 x_.2.2.1 k_) (fun ρ x_ r_ k_=>k_ 0 (Shape.inj circ_Check.c3x0 (x_.1,r_,x_.2)))
def circ_Check.c100008 {ρ:Type} (t33:List (Int×(Int×((List Int)×(Int×(Int×(List Int))))))) (t34:Int) (t35:Int) (c0:Int) (c1:Int) (c2:List (Int×(Int×((List Int)×(Int×(Int×(List Int))))))) (k_:(Int×Int×Int×(List (Int×(Int×((List Int)×(Int×(Int×(List Int)))))))) ⊕ ((Int×Int×Int×(List (Int×(Int×((List Int)×(Int×(Int×(List Int)))))))×Int×Int) ⊕ (Int×Int×Int×(List (Int×(Int×((List Int)×(Int×(Int×(List Int))))))))) → Option ρ):Option ρ :=
 br (decide (t35 < t34))
 (bnd (idx t33 t35) fun y =>
 bnd (W.circ_one (Prod.fst y,Prod.fst (Prod.snd y),Prod.fst (Prod.snd (Prod.snd y)),Prod.fst (Prod.snd (Prod.snd (Prod.snd y))),Prod.fst (Prod.snd (Prod.snd (Prod.snd (Prod.snd y)))),Prod.snd (Prod.snd (Prod.snd (Prod.snd (Prod.snd y))))) c0 c1 c2) fun y_1 =>
 br (Prod.fst y_1 != (0:Int))
 (bnd (W.circ_fault (Prod.fst y_1) t35) fun y_2 =>
 k_ (.inr (.inl (t35,(Prod.fst y_1.2),(Prod.fst y_1.2.2),(Prod.fst y_1.2.2.2),(Prod.fst y_2),(Prod.snd y_2)))))
 (k_ (.inl ((IntKind.wrap IntKind.i64 (t35 + (1:Int))),(Prod.fst y_1.2),(Prod.fst y_1.2.2),(Prod.fst y_1.2.2.2)))))
 (k_ (.inr (.inr (t35,c0,c1,c2))))
def circ_Check.c100008s:Shape:=⟨[(0,tb38),(1,tb1),(2,tb2),(33,tb31),(34,tb5),(35,tb5)],[(1,tb34),(2,tb19)]⟩
def circ_Check.c100008x0:Shape:=circ_Check.c100008s
def circ_Check.c100008x1:Shape:=circ_Check.c100008s
def circ_Check.c100008r:Ck:=Ck.ofLoop (S:=Int×Int×Int×(List (Int×(Int×((List Int)×(Int×(Int×(List Int)))))))) (T:=(Int×Int×Int×(List (Int×(Int×((List Int)×(Int×(Int×(List Int)))))))×Int×Int) ⊕ (Int×Int×Int×(List (Int×(Int×((List Int)×(Int×(Int×(List Int))))))))) circ_Check.c100008s (fun x_=>(x_.2.2.2.1,x_.2.2.2.2.1,x_.2.2.2.2.2.1,x_.2.2.2.2.2.2.1)) (fun ρ x_ s_ k_=>circ_Check.c100008 x_.2.1 x_.2.2.1 s_.1 s_.2.1 s_.2.2.1 s_.2.2.2 k_) (fun ρ x_ r_ k_=>sel r_ (fun r_=>k_ 1 (Shape.inj circ_Check.c100008x0 (x_.1,x_.2.1,x_.2.2.1,r_.1,r_.2.1,r_.2.2.1,r_.2.2.2.1,r_.2.2.2.2.1,r_.2.2.2.2.2,()))) (fun r_=>k_ 3 (Shape.inj circ_Check.c100008x1 (x_.1,x_.2.1,x_.2.2.1,r_.1,r_.2.1,r_.2.2.1,r_.2.2.2,x_.2.2.2.2.2.2.2))))
def circ_Check (c:Int×(Int×(List (Int×(Int×((List Int)×(Int×(Int×(List Int))))))))):Option (Int×Int) :=
 bnd (W.circ_Check.c1 (Prod.fst c) some) fun y =>
 br y
 (bnd (W.circ_fault (6:Int) (0:Int)) fun y_1 =>
 some (Prod.fst y_1,Prod.snd y_1))
 (bnd (W.circ_Check.c3 (Prod.fst (Prod.snd c)) some) fun y_2 =>
 br y_2
 (bnd (W.circ_fault (7:Int) (0:Int)) fun y_3 =>
 some (Prod.fst y_3,Prod.snd y_3))
 (br (decide ((↑(List.length (Prod.snd (Prod.snd c))):Int) > (4096:Int)))
 (bnd (W.circ_fault (2:Int) (0:Int)) fun y_4 =>
 some (Prod.fst y_4,Prod.snd y_4))
 (bnd (iter (fun s ↦ W.circ_Check.c100008 (Prod.snd (Prod.snd c)) (↑(List.length (Prod.snd (Prod.snd c))):Int) (Prod.fst s) (Prod.fst (Prod.snd s)) (Prod.fst (Prod.snd (Prod.snd s))) (Prod.snd (Prod.snd (Prod.snd s))) some) ((0:Int),Prod.fst c,Prod.fst (Prod.snd c),Prod.snd (Prod.snd c))) fun y_5 =>
 sel y_5
 (fun u=>some (Prod.fst (Prod.snd (Prod.snd (Prod.snd (Prod.snd u)))),Prod.snd (Prod.snd (Prod.snd (Prod.snd (Prod.snd u))))))
 (fun v=>some ((0:Int),(0:Int))))))
def circ_Check.ce:Go.Ql.Callee:=⟨[(.st (.pair (.int .i64) (.pair (.int .i64) (.sl (.st (.pair (.int .i64) (.pair (.int .i64) (.pair (.sl (.int .i64)) (.pair (.int .i64) (.pair (.int .i64) (.sl (.int .i64))))))))))))],[(.st (.pair (.int .i64) (.int .i64)))],fun x_=>circ_Check x_⟩
def circ_Check.G:Env:=⟨49,tab,[(80,circ_fault.ce)],[0,1,2,3,4,5,6,16,26,33,34,35,36,43],[],[],[(100008,circ_Check.c100008r),(3,circ_Check.c3r),(1,circ_Check.c1r)],[(81,circ_one.mc)],tab_eqs⟩
theorem circ_Check.eq (x_:dens circ_Check.ce.params):den circ_Check.G Try.f36 circ_Check.ce.params circ_Check.ce.res x_ = circ_Check.ce.F x_:=by kernel_rfl
theorem circ_Check.p0:PcA circ_Check.G Try.f36 0 :=
 region_ok (s:=circ_Check.c1r) (by kernel_rfl) (by kernel_rfl) (sums_of (sh:=circ_Check.c1s) (fun ρ x_ k_=>(nat_br nat_leaf nat_leaf)) (fun ρ x_ t k=>(by kernel_rfl)) (fun x_=>by kernel_rfl))
theorem circ_Check.p1:PcA circ_Check.G Try.f36 1 :=
 region_ok (s:=circ_Check.c3r) (by kernel_rfl) (by kernel_rfl) (sums_of (sh:=circ_Check.c3s) (fun ρ x_ k_=>(nat_br nat_leaf nat_leaf)) (fun ρ x_ t k=>(by kernel_rfl)) (fun x_=>by kernel_rfl))
theorem circ_Check.p2:PcA circ_Check.G Try.f36 2 :=
 loop_ok (s:=circ_Check.c100008r) (by kernel_rfl) (by kernel_rfl) (loops_of (sh:=circ_Check.c100008s) (I:=fun x_ s_=>(x_.1,x_.2.1,x_.2.2.1,s_.1,s_.2.1,s_.2.2.1,s_.2.2.2,x_.2.2.2.2.2.2.2)) (fun x_=>rfl) (fun ρ x_ s_ k_=>(nat_br (nat_bnd fun _=>(nat_bnd fun _=>(nat_br (nat_bnd fun _=>nat_leaf) nat_leaf))) nat_leaf)) (fun ρ x_ t k=>(nat_sel (fun _=>(by kernel_rfl)) (fun _=>(by kernel_rfl)))) (fun x_ s=>by kernel_rfl))
theorem circ_Check.ok:CalleeOk Try.prog 36 circ_Check.ce:=fn_ok (G:=circ_Check.G) tab_ok mixed Try.func36 ⟨(fns_cons circ_fault.ok fns_nil),(mfns_cons circ_one.ok mfns_nil),tab_eqs_ok⟩ (m:=3) (by kernel_rfl) ⟨⟨⟨trivial,circ_Check.p0⟩,circ_Check.p1⟩,circ_Check.p2⟩ (by kernel_rfl) circ_Check.eq
abbrev tb39:SD:=.one (.ref 5 0)
def circ_pure.c7 {ρ:Type} (o0:Int) (o5:List Int) (k_:Bool → Option ρ):Option ρ :=
 br (o0 == (5:Int))
 (k_ true)
 (br (o0 == (6:Int))
 (k_ true)
 (k_ (decide ((↑(List.length o5):Int) > (0:Int)))))
def circ_pure.c7s:Shape:=⟨[(0,tb38),(1,tb1),(2,tb2),(3,tb12),(4,tb5),(5,tb39),(13,tb31),(14,tb5),(15,tb5)],[(1,tb34),(2,tb19),(3,tb19),(5,tb26)]⟩
def circ_pure.c7x0:Shape:=⟨[(0,tb38),(1,tb1),(2,tb2),(3,tb12),(4,tb5),(5,tb39),(13,tb31),(14,tb5),(15,tb5),(33,tb7)],[(1,tb34),(2,tb19),(3,tb19),(5,tb26)]⟩
def circ_pure.c7r:Ck:=Ck.of (T:=Bool) circ_pure.c7s (fun ρ x_ k_=>circ_pure.c7 x_.2.2.2.2.2.2.2.2.2.2.2.2.1 x_.2.2.2.2.2.2.2.2.2.2.2.2.2.2.2.2.2.1 k_) (fun ρ x_ r_ k_=>k_ 0 (Shape.inj circ_pure.c7x0 (x_.1,x_.2.1,x_.2.2.1,x_.2.2.2.1,x_.2.2.2.2.1,r_,x_.2.2.2.2.2)))
def circ_pure.c100005 {ρ:Type} (t13:List (Int×(Int×((List Int)×(Int×(Int×(List Int))))))) (t14:Int) (t15:Int) (k_:Int ⊕ ((Int×Int×Int) ⊕ Int) → Option ρ):Option ρ :=
 br (decide (t15 < t14))
 (bnd (idx t13 t15) fun y =>
 bnd (W.circ_pure.c7 (Prod.fst y) (Prod.snd (Prod.snd (Prod.snd (Prod.snd (Prod.snd y))))) some) fun y_1 =>
 br y_1
 (bnd (W.circ_fault (15:Int) t15) fun y_2 =>
 k_ (.inr (.inl (t15,(Prod.fst y_2),(Prod.snd y_2)))))
 (k_ (.inl (IntKind.wrap IntKind.i64 (t15 + (1:Int))))))
 (k_ (.inr (.inr t15)))
def circ_pure.c100005s:Shape:=⟨[(0,tb38),(1,tb1),(2,tb2),(3,tb12),(13,tb31),(14,tb5),(15,tb5)],[(1,tb34),(2,tb19),(3,tb19)]⟩
def circ_pure.c100005x0:Shape:=circ_pure.c100005s
def circ_pure.c100005x1:Shape:=circ_pure.c100005s
def circ_pure.c100005r:Ck:=Ck.ofLoop (S:=Int) (T:=(Int×Int×Int) ⊕ Int) circ_pure.c100005s (fun x_=>x_.2.2.2.1) (fun ρ x_ s_ k_=>circ_pure.c100005 x_.2.1 x_.2.2.1 s_ k_) (fun ρ x_ r_ k_=>sel r_ (fun r_=>k_ 1 (Shape.inj circ_pure.c100005x0 (x_.1,x_.2.1,x_.2.2.1,r_.1,x_.2.2.2.2.1,x_.2.2.2.2.2.1,x_.2.2.2.2.2.2.1,r_.2.1,r_.2.2,x_.2.2.2.2.2.2.2.2.2))) (fun r_=>k_ 2 (Shape.inj circ_pure.c100005x1 (x_.1,x_.2.1,x_.2.2.1,r_,x_.2.2.2.2))))
def circ_pure (c:Int×(Int×(List (Int×(Int×((List Int)×(Int×(Int×(List Int))))))))):Option (Int×Int) :=
 bnd (W.circ_Check (Prod.fst c,Prod.fst (Prod.snd c),Prod.snd (Prod.snd c))) fun y =>
 br (Prod.fst y != (0:Int))
 (some (Prod.fst y,Prod.snd y))
 (bnd (iter (fun s ↦ W.circ_pure.c100005 (Prod.snd (Prod.snd c)) (↑(List.length (Prod.snd (Prod.snd c))):Int) s some) (0:Int)) fun y_1 =>
 sel y_1
 (fun u=>some (Prod.fst (Prod.snd u),Prod.snd (Prod.snd u)))
 (fun v=>some ((0:Int),(0:Int))))
def circ_pure.ce:Go.Ql.Callee:=⟨[(.st (.pair (.int .i64) (.pair (.int .i64) (.sl (.st (.pair (.int .i64) (.pair (.int .i64) (.pair (.sl (.int .i64)) (.pair (.int .i64) (.pair (.int .i64) (.sl (.int .i64))))))))))))],[(.st (.pair (.int .i64) (.int .i64)))],fun x_=>circ_pure x_⟩
def circ_pure.G:Env:=⟨38,tab,[(36,circ_Check.ce),(80,circ_fault.ce)],[0,1,2,3,4,5,10,13,14,15,16,33],[],[],[(100005,circ_pure.c100005r),(7,circ_pure.c7r)],[],tab_eqs⟩
theorem circ_pure.eq (x_:dens circ_pure.ce.params):den circ_pure.G Try.f101 circ_pure.ce.params circ_pure.ce.res x_ = circ_pure.ce.F x_:=by kernel_rfl
theorem circ_pure.p0:PcA circ_pure.G Try.f101 0 :=
 loop_ok (s:=circ_pure.c100005r) (by kernel_rfl) (by kernel_rfl) (loops_of (sh:=circ_pure.c100005s) (I:=fun x_ s_=>(x_.1,x_.2.1,x_.2.2.1,s_,x_.2.2.2.2)) (fun x_=>rfl) (fun ρ x_ s_ k_=>(nat_br (nat_bnd fun _=>(nat_bnd fun _=>(nat_br (nat_bnd fun _=>nat_leaf) nat_leaf))) nat_leaf)) (fun ρ x_ t k=>(nat_sel (fun _=>(by kernel_rfl)) (fun _=>(by kernel_rfl)))) (fun x_ s=>by kernel_rfl))
theorem circ_pure.p1:PcA circ_pure.G Try.f101 1 :=
 region_ok (s:=circ_pure.c7r) (by kernel_rfl) (by kernel_rfl) (sums_of (sh:=circ_pure.c7s) (fun ρ x_ k_=>(nat_br nat_leaf (nat_br nat_leaf nat_leaf))) (fun ρ x_ t k=>(by kernel_rfl)) (fun x_=>by kernel_rfl))
theorem circ_pure.ok:CalleeOk Try.prog 101 circ_pure.ce:=fn_ok (G:=circ_pure.G) tab_ok mixed Try.func101 ⟨(fns_cons circ_Check.ok (fns_cons circ_fault.ok fns_nil)),mfns_nil,tab_eqs_ok⟩ (m:=2) (by kernel_rfl) ⟨⟨trivial,circ_pure.p0⟩,circ_pure.p1⟩ (by kernel_rfl) circ_pure.eq
abbrev tb42:SD:=.one (.ref 7 0)
def R_rfault (code:Int) (t1:Int):Option (Int×Int) :=
 some (code,t1)
def R_rfault.ce:Go.Ql.Callee:=⟨[(.int .i64),(.int .i64)],[(.st (.pair (.int .i64) (.int .i64)))],fun x_=>R_rfault x_.1 x_.2⟩
def R_rfault.G:Env:=⟨8,tab,[],[0,1,4],[],[],[],[],tab_eqs⟩
theorem R_rfault.eq (x_:dens R_rfault.ce.params):den R_rfault.G Try.f44 R_rfault.ce.params R_rfault.ce.res x_ = R_rfault.ce.F x_:=by kernel_rfl
theorem R_rfault.ok:CalleeOk Try.prog 44 R_rfault.ce:=fn_ok (G:=R_rfault.G) tab_ok mixed Try.func44 ⟨fns_nil,mfns_nil,tab_eqs_ok⟩ (m:=0) (by kernel_rfl) trivial (by kernel_rfl) R_rfault.eq
abbrev tb45:SO:=.box [.val .bool,.val .str]
def R_IsPauli.c1 {ρ:Type} (text:List UInt8) (n:Int) (k_:Bool → Option ρ):Option ρ :=
 br (decide (n < (1:Int)))
 (k_ true)
 (br ((↑(List.length text):Int) != IntKind.wrap IntKind.i64 (n + (1:Int)))
 (k_ true)
 (bnd (idx text (0:Int)) fun y =>
 br ((↑(UInt8.toNat y):Int) != (43:Int))
 (bnd (idx text (0:Int)) fun y_1 =>
 k_ ((↑(UInt8.toNat y_1):Int) != (45:Int)))
 (k_ false)))
def R_IsPauli.c1s:Shape:=⟨[(0,tb4),(1,tb5),(4,tb6),(5,tb7)],[(4,tb45)]⟩
def R_IsPauli.c1x0:Shape:=⟨[(0,tb4),(1,tb5),(4,tb6),(5,tb7),(25,tb7)],[(4,tb45)]⟩
def R_IsPauli.c1r:Ck:=Ck.of (T:=Bool) R_IsPauli.c1s (fun ρ x_ k_=>R_IsPauli.c1 x_.1 x_.2.1 k_) (fun ρ x_ r_ k_=>k_ 0 (Shape.inj R_IsPauli.c1x0 (x_.1,x_.2.1,x_.2.2.1,r_,x_.2.2.2)))
def R_IsPauli.c6 {ρ:Type} (text:List UInt8) (i:Int) (k_:Bool → Option ρ):Option ρ :=
 bnd (idx text i) fun y =>
 br ((↑(UInt8.toNat y):Int) != (73:Int))
 (bnd (idx text i) fun y_1 =>
 br ((↑(UInt8.toNat y_1):Int) != (88:Int))
 (bnd (idx text i) fun y_2 =>
 br ((↑(UInt8.toNat y_2):Int) != (89:Int))
 (bnd (idx text i) fun y_3 =>
 k_ ((↑(UInt8.toNat y_3):Int) != (90:Int)))
 (k_ false))
 (k_ false))
 (k_ false)
def R_IsPauli.c6s:Shape:=⟨[(0,tb4),(1,tb5),(4,tb6),(5,tb7),(6,tb5)],[(4,tb45)]⟩
def R_IsPauli.c6x0:Shape:=⟨[(0,tb4),(1,tb5),(4,tb6),(5,tb7),(6,tb5),(53,tb7)],[(4,tb45)]⟩
def R_IsPauli.c6r:Ck:=Ck.of (T:=Bool) R_IsPauli.c6s (fun ρ x_ k_=>R_IsPauli.c6 x_.1 x_.2.2.2.1 k_) (fun ρ x_ r_ k_=>k_ 0 (Shape.inj R_IsPauli.c6x0 (x_.1,x_.2.1,x_.2.2.1,x_.2.2.2.1,r_,x_.2.2.2.2)))
def R_IsPauli.c100004 {ρ:Type} (text:List UInt8) (n:Int) (i:Int) (k_:Int ⊕ (Int ⊕ Int) → Option ρ):Option ρ :=
 br (decide (i ≤ n))
 (bnd (W.R_IsPauli.c6 text i some) fun y =>
 br y
 (k_ (.inr (.inl i)))
 (k_ (.inl (IntKind.wrap IntKind.i64 (i + (1:Int))))))
 (k_ (.inr (.inr i)))
def R_IsPauli.c100004s:Shape:=R_IsPauli.c6s
def R_IsPauli.c100004x0:Shape:=R_IsPauli.c6s
def R_IsPauli.c100004x1:Shape:=R_IsPauli.c6s
def R_IsPauli.c100004r:Ck:=Ck.ofLoop (S:=Int) (T:=Int ⊕ Int) R_IsPauli.c100004s (fun x_=>x_.2.2.2.1) (fun ρ x_ s_ k_=>R_IsPauli.c100004 x_.1 x_.2.1 s_ k_) (fun ρ x_ r_ k_=>sel r_ (fun r_=>k_ 1 (Shape.inj R_IsPauli.c100004x0 (x_.1,x_.2.1,false,r_,false,[],()))) (fun r_=>k_ 2 (Shape.inj R_IsPauli.c100004x1 (x_.1,x_.2.1,x_.2.2.1,r_,x_.2.2.2.2))))
def R_IsPauli.c8 {ρ:Type} (text:List UInt8) (k_:Bool → Option ρ):Option ρ :=
 bnd (idx text (0:Int)) fun y =>
 bnd (okIf (decide ((1:Int) ≤ (↑(List.length text):Int)) && decide ((↑(List.length text):Int) ≤ (↑(List.length text):Int)))) fun y_1 =>
 k_ ((↑(UInt8.toNat y):Int) == (45:Int))
def R_IsPauli.c8s:Shape:=R_IsPauli.c6s
def R_IsPauli.c8x0:Shape:=R_IsPauli.c6s
def R_IsPauli.c8r:Ck:=Ck.of (T:=Bool) R_IsPauli.c8s (fun ρ x_ k_=>R_IsPauli.c8 x_.1 k_) (fun ρ x_ r_ k_=>k_ 0 (Shape.inj R_IsPauli.c8x0 (x_.1,x_.2.1,true,x_.2.2.2.1,r_,(List.drop (1:Nat) (List.take (Int.toNat (↑(List.length x_.1):Int)) x_.1)),())))
def R_IsPauli (text:List UInt8) (n:Int):Option (((Bool)×(List UInt8))×(Bool)) :=
 bnd (W.R_IsPauli.c1 text n some) fun y =>
 br y
 (some ((false,[]),false))
 (bnd (iter (fun s ↦ W.R_IsPauli.c100004 text n s some) (1:Int)) fun y_1 =>
 sel y_1
 (fun u=>some ((false,[]),false))
 (fun v=>bnd (W.R_IsPauli.c8 text some) fun y_2 =>
 some ((y_2,List.drop (1:Nat) (List.take (Int.toNat (↑(List.length text):Int)) text)),true)))
def R_IsPauli.ce:Go.Ql.Callee:=⟨[.str,(.int .i64)],[(.st (.pair .bool .str)),.bool],fun x_=>R_IsPauli x_.1 x_.2⟩
def R_IsPauli.G:Env:=⟨61,tab,[],[0,1,4,5,6,25,29,53],[],[(8,[⟨[],[],[58,59],[]⟩,⟨[0],[],[58,59],[]⟩,⟨[1,0],[],[58,59],[]⟩,⟨[],[],[55,56,57],[]⟩,⟨[3],[],[55,56,57],[]⟩,⟨[2,1,0,4,3],[],[],[]⟩,⟨[5,2,1,0,4,3],[4],[],[]⟩,⟨[6,5,2,1,0,4,3],[],[],[]⟩])],[(8,R_IsPauli.c8r),(100004,R_IsPauli.c100004r),(6,R_IsPauli.c6r),(1,R_IsPauli.c1r)],[],tab_eqs⟩
theorem R_IsPauli.eq (x_:dens R_IsPauli.ce.params):den R_IsPauli.G Try.f15 R_IsPauli.ce.params R_IsPauli.ce.res x_ = R_IsPauli.ce.F x_:=by kernel_rfl
theorem R_IsPauli.p0:PcA R_IsPauli.G Try.f15 0 :=
 region_ok (s:=R_IsPauli.c1r) (by kernel_rfl) (by kernel_rfl) (sums_of (sh:=R_IsPauli.c1s) (fun ρ x_ k_=>(nat_br nat_leaf (nat_br nat_leaf (nat_bnd fun _=>(nat_br (nat_bnd fun _=>nat_leaf) nat_leaf))))) (fun ρ x_ t k=>(by kernel_rfl)) (fun x_=>by kernel_rfl))
theorem R_IsPauli.p1:PcA R_IsPauli.G Try.f15 1 :=
 loop_ok (s:=R_IsPauli.c100004r) (by kernel_rfl) (by kernel_rfl) (loops_of (sh:=R_IsPauli.c100004s) (I:=fun x_ s_=>(x_.1,x_.2.1,x_.2.2.1,s_,x_.2.2.2.2)) (fun x_=>rfl) (fun ρ x_ s_ k_=>(nat_br (nat_bnd fun _=>(nat_br nat_leaf nat_leaf)) nat_leaf)) (fun ρ x_ t k=>(nat_sel (fun _=>(by kernel_rfl)) (fun _=>(by kernel_rfl)))) (fun x_ s=>by kernel_rfl))
theorem R_IsPauli.p2:PcA R_IsPauli.G Try.f15 2 :=
 region_ok (s:=R_IsPauli.c6r) (by kernel_rfl) (by kernel_rfl) (sums_of (sh:=R_IsPauli.c6s) (fun ρ x_ k_=>(nat_bnd fun _=>(nat_br (nat_bnd fun _=>(nat_br (nat_bnd fun _=>(nat_br (nat_bnd fun _=>nat_leaf) nat_leaf)) nat_leaf)) nat_leaf))) (fun ρ x_ t k=>(by kernel_rfl)) (fun x_=>by kernel_rfl))
theorem R_IsPauli.p3:PcA R_IsPauli.G Try.f15 3 :=
 region_ok (s:=R_IsPauli.c8r) (by kernel_rfl) (by kernel_rfl) (sums_of (sh:=R_IsPauli.c8s) (fun ρ x_ k_=>(nat_bnd fun _=>(nat_bnd fun _=>nat_leaf))) (fun ρ x_ t k=>(by kernel_rfl)) (fun x_=>by kernel_rfl))
theorem R_IsPauli.ok:CalleeOk Try.prog 15 R_IsPauli.ce:=fn_ok (G:=R_IsPauli.G) tab_ok mixed Try.func15 ⟨fns_nil,mfns_nil,tab_eqs_ok⟩ (m:=4) (by kernel_rfl) ⟨⟨⟨⟨trivial,R_IsPauli.p0⟩,R_IsPauli.p1⟩,R_IsPauli.p2⟩,R_IsPauli.p3⟩ (by kernel_rfl) R_IsPauli.eq
abbrev tb46:SD:=.one (.own 3 0)
abbrev tb47:SO:=.arr 0 false 9 .str
end
end W
end
