/- Lifted functions, part 1: each with its contract. -/
import Derived.Test.YtjlbeiadpdgchaaCa
import Derived.Test.YtjlbeiadpdgchaaProg
set_option linter.all false
section
set_option maxHeartbeats 4000000
set_option maxRecDepth 100000
set_option linter.unusedVariables false
namespace W
open Go Go.Ql Go.Proofs
noncomputable section
abbrev tb0:SD:=.one (.val (.st (.pair (.int .i64) (.sl .str))))
abbrev tb1:SD:=.one (.ref 1 0)
abbrev tb2:SD:=.one (.ref 2 0)
abbrev tb3:SO:=.box [.val (.int .i64),.val (.sl .str)]
def Law_copyCode.c1 {ρ:Type} (c1:List (List UInt8)) (k_:Unit → Option ρ):Option ρ :=
 bnd (okIf (decide (((0:Nat) + List.length c1) * (16:Nat) ≤ (140737488355328:Nat)) && decide ((0:Nat) + List.length c1 ≤ (140737488355328:Nat)))) fun y =>
 k_ ()
def Law_copyCode.c1s:Shape:=⟨[(0,tb0),(1,tb1),(2,tb2)],[(1,tb3),(2,tb3)]⟩
def Law_copyCode.c1x0:Shape:=Law_copyCode.c1s
def Law_copyCode.c1r:Ck:=Ck.of (T:=Unit) Law_copyCode.c1s (fun ρ x_ k_=>Law_copyCode.c1 x_.2.2.1 k_) (fun ρ x_ r_ k_=>k_ 0 (Shape.inj Law_copyCode.c1x0 (x_.1,x_.2.1,x_.2.2.1,x_.2.1,x_.2.2.1,())))
def Law_copyCode (c:Int×(List (List UInt8))):Option (Int×(List (List UInt8))) :=
 bnd (W.Law_copyCode.c1 (Prod.snd c) some) fun y =>
 some (Prod.fst c,Prod.snd c)
def Law_copyCode.ce:Go.Ql.Callee:=⟨[(.st (.pair (.int .i64) (.sl .str)))],[(.st (.pair (.int .i64) (.sl .str)))],fun x_=>Law_copyCode x_⟩
def Law_copyCode.G:Env:=⟨9,tab,[],[0,1,2],[],[(1,[⟨[],[],[5,6,7],[7]⟩,⟨[0],[],[5,6,7],[7]⟩,⟨[],[],[3,4],[]⟩,⟨[2],[],[3,4],[]⟩,⟨[3,2],[7],[3,4],[]⟩,⟨[1,0,4,3,2],[],[],[]⟩,⟨[5,1,0,4,3,2],[2],[],[]⟩])],[(1,Law_copyCode.c1r)],[],tab_eqs⟩
theorem Law_copyCode.eq (x_:dens Law_copyCode.ce.params):den Law_copyCode.G Try.f28 Law_copyCode.ce.params Law_copyCode.ce.res x_ = Law_copyCode.ce.F x_:=by kernel_rfl
theorem Law_copyCode.p0:PcA Law_copyCode.G Try.f28 0 :=
 region_ok (s:=Law_copyCode.c1r) (by kernel_rfl) (by kernel_rfl) (sums_of (sh:=Law_copyCode.c1s) (fun ρ x_ k_=>(nat_bnd fun _=>nat_leaf)) (fun ρ x_ t k=>(by kernel_rfl)) (fun x_=>by kernel_rfl))
theorem Law_copyCode.ok:CalleeOk Try.prog 28 Law_copyCode.ce:=fn_ok (G:=Law_copyCode.G) tab_ok mixed Try.func28 ⟨fns_nil,mfns_nil,tab_eqs_ok⟩ (m:=1) (by kernel_rfl) ⟨trivial,Law_copyCode.p0⟩ (by kernel_rfl) Law_copyCode.eq
abbrev tb4:SD:=.one (.val .str)
abbrev tb5:SD:=.one (.val (.int .i64))
abbrev tb6:SD:=.one (.ref 4 0)
abbrev tb7:SD:=.one (.val .bool)
abbrev tb8:SD:=.one (.ref 6 0)
abbrev tb9:SO:=.box [.val (.int .u64),.val (.int .u64),.val .bool]
def tableau_read.c2 {ρ:Type} (s:List UInt8) (n:Int) (k_:Bool → Option ρ):Option ρ :=
 br ((↑(List.length s):Int) != IntKind.wrap IntKind.i64 (n + (1:Int)))
 (k_ true)
 (bnd (idx s (0:Int)) fun y =>
 br ((↑(UInt8.toNat y):Int) != (43:Int))
 (bnd (idx s (0:Int)) fun y_1 =>
 k_ ((↑(UInt8.toNat y_1):Int) != (45:Int)))
 (k_ false))
def tableau_read.c2s:Shape:=⟨[(0,tb4),(1,tb5),(4,tb6),(5,tb7),(6,tb8)],[(4,tb9),(6,tb9)]⟩
def tableau_read.c2x0:Shape:=⟨[(0,tb4),(1,tb5),(4,tb6),(5,tb7),(6,tb8),(23,tb7)],[(4,tb9),(6,tb9)]⟩
def tableau_read.c2r:Ck:=Ck.of (T:=Bool) tableau_read.c2s (fun ρ x_ k_=>tableau_read.c2 x_.1 x_.2.1 k_) (fun ρ x_ r_ k_=>k_ 0 (Shape.inj tableau_read.c2x0 (x_.1,x_.2.1,x_.2.2.1,r_,x_.2.2.2)))
def tableau_read.c11 {ρ:Type} (q:Int) (k_:Unit → Option ρ):Option ρ :=
 bnd (okIf (decide ((0:Int) ≤ q))) fun y =>
 k_ ()
def tableau_read.c11s:Shape:=⟨[(0,tb4),(1,tb5),(4,tb6),(5,tb7),(6,tb8),(7,tb5),(8,tb5),(29,tb5),(30,tb5)],[(4,tb9),(6,tb9)]⟩
def tableau_read.c11x0:Shape:=tableau_read.c11s
def tableau_read.c11r:Ck:=Ck.of (T:=Unit) tableau_read.c11s (fun ρ x_ k_=>tableau_read.c11 x_.2.2.2.1 k_) (fun ρ x_ r_ k_=>k_ 0 (Shape.inj tableau_read.c11x0 (x_.1,x_.2.1,x_.2.2.1,x_.2.2.2.1,x_.2.2.2.2.1,x_.2.2.2.2.2.1,x_.2.2.2.2.2.2.1,x_.2.2.2.2.2.2.2.1,x_.2.2.2.2.2.2.2.2.1,x_.2.2.2.2.2.2.2.2.2.1,(ibits BinOp.or IntKind.u64 x_.2.2.2.2.2.2.2.2.2.2.1 (IntKind.wrap IntKind.u64 (IntKind.wrap IntKind.u64 (ibits BinOp.and IntKind.i64 x_.2.2.2.2.1 (1:Int)) * (2:Int) ^ Min.min (Int.toNat x_.2.2.2.1) (64:Nat)))),x_.2.2.2.2.2.2.2.2.2.2.2)))
def tableau_read.c12 {ρ:Type} (q:Int) (k_:Unit → Option ρ):Option ρ :=
 bnd (okIf (decide ((0:Int) ≤ q))) fun y =>
 k_ ()
def tableau_read.c12s:Shape:=tableau_read.c11s
def tableau_read.c12x0:Shape:=tableau_read.c11s
def tableau_read.c12r:Ck:=Ck.of (T:=Unit) tableau_read.c12s (fun ρ x_ k_=>tableau_read.c12 x_.2.2.2.1 k_) (fun ρ x_ r_ k_=>k_ 0 (Shape.inj tableau_read.c12x0 (x_.1,x_.2.1,x_.2.2.1,x_.2.2.2.1,x_.2.2.2.2.1,x_.2.2.2.2.2.1,x_.2.2.2.2.2.2.1,x_.2.2.2.2.2.2.2.1,x_.2.2.2.2.2.2.2.2.1,x_.2.2.2.2.2.2.2.2.2.1,x_.2.2.2.2.2.2.2.2.2.2.1,(ibits BinOp.or IntKind.u64 x_.2.2.2.2.2.2.2.2.2.2.2.1 (IntKind.wrap IntKind.u64 (IntKind.wrap IntKind.u64 (Int.fdiv x_.2.2.2.2.1 ((2:Int) ^ (1:Nat))) * (2:Int) ^ Min.min (Int.toNat x_.2.2.2.1) (64:Nat)))),x_.2.2.2.2.2.2.2.2.2.2.2.2)))
def tableau_read.c100006 {ρ:Type} (s:List UInt8) (t29:Int) (t30:Int) (p0:Int) (p1:Int) (k_:(Int×Int×Int) ⊕ ((Int×Int×Int×Int×Int) ⊕ (Int×Int×Int)) → Option ρ):Option ρ :=
 br (decide (t30 < t29))
 (bnd (idx s (IntKind.wrap IntKind.i64 (t30 + (1:Int)))) fun y =>
 bnd (W.strings_IndexByte (Array.toList (ByteArray.data (ByteArray.mk #[(73:UInt8),(88:UInt8),(90:UInt8),(89:UInt8)]))) (↑(UInt8.toNat y):Int)) fun y_1 =>
 br (decide (y_1 < (0:Int)))
 (k_ (.inr (.inl (t30,p0,p1,p0,p1))))
 (bnd (W.tableau_read.c11 t30 some) fun y_2 =>
 bnd (W.tableau_read.c12 t30 some) fun y_3 =>
 k_ (.inl ((IntKind.wrap IntKind.i64 (t30 + (1:Int))),(ibits BinOp.or IntKind.u64 p0 (IntKind.wrap IntKind.u64 (IntKind.wrap IntKind.u64 (ibits BinOp.and IntKind.i64 y_1 (1:Int)) * (2:Int) ^ Min.min (Int.toNat t30) (64:Nat)))),(ibits BinOp.or IntKind.u64 p1 (IntKind.wrap IntKind.u64 (IntKind.wrap IntKind.u64 (Int.fdiv y_1 ((2:Int) ^ (1:Nat))) * (2:Int) ^ Min.min (Int.toNat t30) (64:Nat))))))))
 (k_ (.inr (.inr (t30,p0,p1))))
def tableau_read.c100006s:Shape:=⟨[(0,tb4),(1,tb5),(4,tb6),(5,tb7),(6,tb8),(29,tb5),(30,tb5)],[(4,tb9),(6,tb9)]⟩
def tableau_read.c100006x0:Shape:=tableau_read.c100006s
def tableau_read.c100006x1:Shape:=tableau_read.c100006s
def tableau_read.c100006r:Ck:=Ck.ofLoop (S:=Int×Int×Int) (T:=(Int×Int×Int×Int×Int) ⊕ (Int×Int×Int)) tableau_read.c100006s (fun x_=>(x_.2.2.2.2.1,x_.2.2.2.2.2.2.2.2.1,x_.2.2.2.2.2.2.2.2.2.1)) (fun ρ x_ s_ k_=>tableau_read.c100006 x_.1 x_.2.2.2.1 s_.1 s_.2.1 s_.2.2 k_) (fun ρ x_ r_ k_=>sel r_ (fun r_=>k_ 1 (Shape.inj tableau_read.c100006x0 (x_.1,x_.2.1,false,x_.2.2.2.1,r_.1,r_.2.1,r_.2.2.1,x_.2.2.2.2.2.2.2.2.2.2.1,r_.2.2.2.1,r_.2.2.2.2,x_.2.2.2.2.2.2.2.2.2.2))) (fun r_=>k_ 2 (Shape.inj tableau_read.c100006x1 (x_.1,x_.2.1,x_.2.2.1,x_.2.2.2.1,r_.1,x_.2.2.2.2.2.1,x_.2.2.2.2.2.2.1,x_.2.2.2.2.2.2.2.1,r_.2.1,r_.2.2,x_.2.2.2.2.2.2.2.2.2.2))))
def tableau_read (s:List UInt8) (n:Int):Option ((Int×(Int×(Bool)))×(Bool)) :=
 bnd (W.tableau_read.c2 s n some) fun y =>
 br y
 (some (((0:Int),(0:Int),false),false))
 (bnd (idx s (0:Int)) fun y_1 =>
 bnd (iter (fun s_1 ↦ W.tableau_read.c100006 s n (Prod.fst s_1) (Prod.fst (Prod.snd s_1)) (Prod.snd (Prod.snd s_1)) some) ((0:Int),(0:Int),(0:Int))) fun y_2 =>
 sel y_2
 (fun u=>some ((Prod.fst (Prod.snd u),Prod.fst (Prod.snd (Prod.snd u)),(↑(UInt8.toNat y_1):Int) == (45:Int)),false))
 (fun v=>some ((Prod.fst (Prod.snd v),Prod.snd (Prod.snd v),(↑(UInt8.toNat y_1):Int) == (45:Int)),true)))
def tableau_read.ce:Go.Ql.Callee:=⟨[.str,(.int .i64)],[(.st (.pair (.int .u64) (.pair (.int .u64) .bool))),.bool],fun x_=>tableau_read x_.1 x_.2⟩
def tableau_read.G:Env:=⟨61,tab,[(94,strings_IndexByte.ce)],[0,1,4,5,6,7,8,23,29,30,31,39],[],[(12,[⟨[],[],[52,53,54,55,56],[]⟩,⟨[0],[],[52,53,54,55,56],[]⟩,⟨[],[],[50,51,55],[]⟩,⟨[2],[],[50,51,55],[]⟩,⟨[3,2],[],[50,51,55],[]⟩,⟨[],[],[50,51,52,53,54],[]⟩,⟨[4,3,2,5],[],[50,51],[]⟩,⟨[1,0,6,4,3,2,5],[],[],[]⟩,⟨[0,1,2,3,4,5,6,7],[],[],[]⟩,⟨[8,0,1,2,3,4,5,6,7],[6],[],[]⟩]),
 (11,[⟨[],[],[43,44,45,46,47],[]⟩,⟨[0],[],[43,44,45,46,47],[]⟩,⟨[],[],[41,42,46],[]⟩,⟨[2],[],[41,42,46],[]⟩,⟨[3,2],[],[41,42,46],[]⟩,⟨[],[],[41,42,43,44,45],[]⟩,⟨[4,3,2,5],[],[41,42],[]⟩,⟨[1,0,6,4,3,2,5],[],[],[]⟩,⟨[0,1,2,3,4,5,6,7],[],[],[]⟩,⟨[8,0,1,2,3,4,5,6,7],[6],[],[]⟩])],[(100006,tableau_read.c100006r),(12,tableau_read.c12r),(11,tableau_read.c11r),(2,tableau_read.c2r)],[],tab_eqs⟩
theorem tableau_read.eq (x_:dens tableau_read.ce.params):den tableau_read.G Try.f56 tableau_read.ce.params tableau_read.ce.res x_ = tableau_read.ce.F x_:=by kernel_rfl
theorem tableau_read.p0:PcA tableau_read.G Try.f56 0 :=
 region_ok (s:=tableau_read.c2r) (by kernel_rfl) (by kernel_rfl) (sums_of (sh:=tableau_read.c2s) (fun ρ x_ k_=>(nat_br nat_leaf (nat_bnd fun _=>(nat_br (nat_bnd fun _=>nat_leaf) nat_leaf)))) (fun ρ x_ t k=>(by kernel_rfl)) (fun x_=>by kernel_rfl))
theorem tableau_read.p1:PcA tableau_read.G Try.f56 1 :=
 loop_ok (s:=tableau_read.c100006r) (by kernel_rfl) (by kernel_rfl) (loops_of (sh:=tableau_read.c100006s) (I:=fun x_ s_=>(x_.1,x_.2.1,x_.2.2.1,x_.2.2.2.1,s_.1,x_.2.2.2.2.2.1,x_.2.2.2.2.2.2.1,x_.2.2.2.2.2.2.2.1,s_.2.1,s_.2.2,x_.2.2.2.2.2.2.2.2.2.2)) (fun x_=>rfl) (fun ρ x_ s_ k_=>(nat_br (nat_bnd fun _=>(nat_bnd fun _=>(nat_br nat_leaf (nat_bnd fun _=>(nat_bnd fun _=>nat_leaf))))) nat_leaf)) (fun ρ x_ t k=>(nat_sel (fun _=>(by kernel_rfl)) (fun _=>(by kernel_rfl)))) (fun x_ s=>by kernel_rfl))
theorem tableau_read.p2:PcA tableau_read.G Try.f56 2 :=
 region_ok (s:=tableau_read.c11r) (by kernel_rfl) (by kernel_rfl) (sums_of (sh:=tableau_read.c11s) (fun ρ x_ k_=>(nat_bnd fun _=>nat_leaf)) (fun ρ x_ t k=>(by kernel_rfl)) (fun x_=>by kernel_rfl))
theorem tableau_read.p3:PcA tableau_read.G Try.f56 3 :=
 region_ok (s:=tableau_read.c12r) (by kernel_rfl) (by kernel_rfl) (sums_of (sh:=tableau_read.c12s) (fun ρ x_ k_=>(nat_bnd fun _=>nat_leaf)) (fun ρ x_ t k=>(by kernel_rfl)) (fun x_=>by kernel_rfl))
theorem tableau_read.ok:CalleeOk Try.prog 56 tableau_read.ce:=fn_ok (G:=tableau_read.G) tab_ok mixed Try.func56 ⟨(fns_cons strings_IndexByte.ok fns_nil),mfns_nil,tab_eqs_ok⟩ (m:=4) (by kernel_rfl) ⟨⟨⟨⟨trivial,tableau_read.p0⟩,tableau_read.p1⟩,tableau_read.p2⟩,tableau_read.p3⟩ (by kernel_rfl) tableau_read.eq
def tableau_Read (s:List UInt8) (n:Int):Option ((Int×(Int×(Bool)))×(Bool)) :=
 bnd (W.tableau_read s n) fun y =>
 some ((Prod.fst (Prod.fst y),Prod.fst (Prod.snd (Prod.fst y)),Prod.snd (Prod.snd (Prod.fst y))),Prod.snd y)
def tableau_Read.ce:Go.Ql.Callee:=⟨[.str,(.int .i64)],[(.st (.pair (.int .u64) (.pair (.int .u64) .bool))),.bool],fun x_=>tableau_Read x_.1 x_.2⟩
def tableau_Read.G:Env:=⟨11,tab,[(56,tableau_read.ce)],[0,1,4,5],[],[],[],[],tab_eqs⟩
theorem tableau_Read.eq (x_:dens tableau_Read.ce.params):den tableau_Read.G Try.f106 tableau_Read.ce.params tableau_Read.ce.res x_ = tableau_Read.ce.F x_:=by kernel_rfl
theorem tableau_Read.ok:CalleeOk Try.prog 106 tableau_Read.ce:=fn_ok (G:=tableau_Read.G) tab_ok mixed Try.func106 ⟨(fns_cons tableau_read.ok fns_nil),mfns_nil,tab_eqs_ok⟩ (m:=0) (by kernel_rfl) trivial (by kernel_rfl) tableau_Read.eq
abbrev tb10:SD:=.one (.val (.int .u32))
def bits_OnesCount32.c1 {ρ:Type} (x:Int) (k_:Int → Option ρ):Option ρ :=
 bnd (idx (Array.toList (ByteArray.data (ByteArray.mk (List.toArray (List.append (List.append [(0:UInt8),(1:UInt8),(1:UInt8),(2:UInt8),(1:UInt8),(2:UInt8),(2:UInt8),(3:UInt8),(1:UInt8),(2:UInt8),(2:UInt8),(3:UInt8),(2:UInt8),(3:UInt8),(3:UInt8),(4:UInt8),(1:UInt8),(2:UInt8),(2:UInt8),(3:UInt8),(2:UInt8),(3:UInt8),(3:UInt8),(4:UInt8),(2:UInt8),(3:UInt8),(3:UInt8),(4:UInt8),(3:UInt8),(4:UInt8),(4:UInt8),(5:UInt8),(1:UInt8),(2:UInt8),(2:UInt8),(3:UInt8),(2:UInt8),(3:UInt8),(3:UInt8),(4:UInt8),(2:UInt8),(3:UInt8),(3:UInt8),(4:UInt8),(3:UInt8),(4:UInt8),(4:UInt8),(5:UInt8),(2:UInt8),(3:UInt8),(3:UInt8),(4:UInt8),(3:UInt8),(4:UInt8),(4:UInt8),(5:UInt8),(3:UInt8),(4:UInt8),(4:UInt8),(5:UInt8),(4:UInt8),(5:UInt8),(5:UInt8),(6:UInt8)] [(1:UInt8),(2:UInt8),(2:UInt8),(3:UInt8),(2:UInt8),(3:UInt8),(3:UInt8),(4:UInt8),(2:UInt8),(3:UInt8),(3:UInt8),(4:UInt8),(3:UInt8),(4:UInt8),(4:UInt8),(5:UInt8),(2:UInt8),(3:UInt8),(3:UInt8),(4:UInt8),(3:UInt8),(4:UInt8),(4:UInt8),(5:UInt8),(3:UInt8),(4:UInt8),(4:UInt8),(5:UInt8),(4:UInt8),(5:UInt8),(5:UInt8),(6:UInt8),(2:UInt8),(3:UInt8),(3:UInt8),(4:UInt8),(3:UInt8),(4:UInt8),(4:UInt8),(5:UInt8),(3:UInt8),(4:UInt8),(4:UInt8),(5:UInt8),(4:UInt8),(5:UInt8),(5:UInt8),(6:UInt8),(3:UInt8),(4:UInt8),(4:UInt8),(5:UInt8),(4:UInt8),(5:UInt8),(5:UInt8),(6:UInt8),(4:UInt8),(5:UInt8),(5:UInt8),(6:UInt8),(5:UInt8),(6:UInt8),(6:UInt8),(7:UInt8)]) (List.append [(1:UInt8),(2:UInt8),(2:UInt8),(3:UInt8),(2:UInt8),(3:UInt8),(3:UInt8),(4:UInt8),(2:UInt8),(3:UInt8),(3:UInt8),(4:UInt8),(3:UInt8),(4:UInt8),(4:UInt8),(5:UInt8),(2:UInt8),(3:UInt8),(3:UInt8),(4:UInt8),(3:UInt8),(4:UInt8),(4:UInt8),(5:UInt8),(3:UInt8),(4:UInt8),(4:UInt8),(5:UInt8),(4:UInt8),(5:UInt8),(5:UInt8),(6:UInt8),(2:UInt8),(3:UInt8),(3:UInt8),(4:UInt8),(3:UInt8),(4:UInt8),(4:UInt8),(5:UInt8),(3:UInt8),(4:UInt8),(4:UInt8),(5:UInt8),(4:UInt8),(5:UInt8),(5:UInt8),(6:UInt8),(3:UInt8),(4:UInt8),(4:UInt8),(5:UInt8),(4:UInt8),(5:UInt8),(5:UInt8),(6:UInt8),(4:UInt8),(5:UInt8),(5:UInt8),(6:UInt8),(5:UInt8),(6:UInt8),(6:UInt8),(7:UInt8)] [(2:UInt8),(3:UInt8),(3:UInt8),(4:UInt8),(3:UInt8),(4:UInt8),(4:UInt8),(5:UInt8),(3:UInt8),(4:UInt8),(4:UInt8),(5:UInt8),(4:UInt8),(5:UInt8),(5:UInt8),(6:UInt8),(3:UInt8),(4:UInt8),(4:UInt8),(5:UInt8),(4:UInt8),(5:UInt8),(5:UInt8),(6:UInt8),(4:UInt8),(5:UInt8),(5:UInt8),(6:UInt8),(5:UInt8),(6:UInt8),(6:UInt8),(7:UInt8),(3:UInt8),(4:UInt8),(4:UInt8),(5:UInt8),(4:UInt8),(5:UInt8),(5:UInt8),(6:UInt8),(4:UInt8),(5:UInt8),(5:UInt8),(6:UInt8),(5:UInt8),(6:UInt8),(6:UInt8),(7:UInt8),(4:UInt8),(5:UInt8),(5:UInt8),(6:UInt8),(5:UInt8),(6:UInt8),(6:UInt8),(7:UInt8),(5:UInt8),(6:UInt8),(6:UInt8),(7:UInt8),(6:UInt8),(7:UInt8),(7:UInt8),(8:UInt8)])))))) (Int.fdiv x ((2:Int) ^ (24:Nat)))) fun y =>
 bnd (idx (Array.toList (ByteArray.data (ByteArray.mk (List.toArray (List.append (List.append [(0:UInt8),(1:UInt8),(1:UInt8),(2:UInt8),(1:UInt8),(2:UInt8),(2:UInt8),(3:UInt8),(1:UInt8),(2:UInt8),(2:UInt8),(3:UInt8),(2:UInt8),(3:UInt8),(3:UInt8),(4:UInt8),(1:UInt8),(2:UInt8),(2:UInt8),(3:UInt8),(2:UInt8),(3:UInt8),(3:UInt8),(4:UInt8),(2:UInt8),(3:UInt8),(3:UInt8),(4:UInt8),(3:UInt8),(4:UInt8),(4:UInt8),(5:UInt8),(1:UInt8),(2:UInt8),(2:UInt8),(3:UInt8),(2:UInt8),(3:UInt8),(3:UInt8),(4:UInt8),(2:UInt8),(3:UInt8),(3:UInt8),(4:UInt8),(3:UInt8),(4:UInt8),(4:UInt8),(5:UInt8),(2:UInt8),(3:UInt8),(3:UInt8),(4:UInt8),(3:UInt8),(4:UInt8),(4:UInt8),(5:UInt8),(3:UInt8),(4:UInt8),(4:UInt8),(5:UInt8),(4:UInt8),(5:UInt8),(5:UInt8),(6:UInt8)] [(1:UInt8),(2:UInt8),(2:UInt8),(3:UInt8),(2:UInt8),(3:UInt8),(3:UInt8),(4:UInt8),(2:UInt8),(3:UInt8),(3:UInt8),(4:UInt8),(3:UInt8),(4:UInt8),(4:UInt8),(5:UInt8),(2:UInt8),(3:UInt8),(3:UInt8),(4:UInt8),(3:UInt8),(4:UInt8),(4:UInt8),(5:UInt8),(3:UInt8),(4:UInt8),(4:UInt8),(5:UInt8),(4:UInt8),(5:UInt8),(5:UInt8),(6:UInt8),(2:UInt8),(3:UInt8),(3:UInt8),(4:UInt8),(3:UInt8),(4:UInt8),(4:UInt8),(5:UInt8),(3:UInt8),(4:UInt8),(4:UInt8),(5:UInt8),(4:UInt8),(5:UInt8),(5:UInt8),(6:UInt8),(3:UInt8),(4:UInt8),(4:UInt8),(5:UInt8),(4:UInt8),(5:UInt8),(5:UInt8),(6:UInt8),(4:UInt8),(5:UInt8),(5:UInt8),(6:UInt8),(5:UInt8),(6:UInt8),(6:UInt8),(7:UInt8)]) (List.append [(1:UInt8),(2:UInt8),(2:UInt8),(3:UInt8),(2:UInt8),(3:UInt8),(3:UInt8),(4:UInt8),(2:UInt8),(3:UInt8),(3:UInt8),(4:UInt8),(3:UInt8),(4:UInt8),(4:UInt8),(5:UInt8),(2:UInt8),(3:UInt8),(3:UInt8),(4:UInt8),(3:UInt8),(4:UInt8),(4:UInt8),(5:UInt8),(3:UInt8),(4:UInt8),(4:UInt8),(5:UInt8),(4:UInt8),(5:UInt8),(5:UInt8),(6:UInt8),(2:UInt8),(3:UInt8),(3:UInt8),(4:UInt8),(3:UInt8),(4:UInt8),(4:UInt8),(5:UInt8),(3:UInt8),(4:UInt8),(4:UInt8),(5:UInt8),(4:UInt8),(5:UInt8),(5:UInt8),(6:UInt8),(3:UInt8),(4:UInt8),(4:UInt8),(5:UInt8),(4:UInt8),(5:UInt8),(5:UInt8),(6:UInt8),(4:UInt8),(5:UInt8),(5:UInt8),(6:UInt8),(5:UInt8),(6:UInt8),(6:UInt8),(7:UInt8)] [(2:UInt8),(3:UInt8),(3:UInt8),(4:UInt8),(3:UInt8),(4:UInt8),(4:UInt8),(5:UInt8),(3:UInt8),(4:UInt8),(4:UInt8),(5:UInt8),(4:UInt8),(5:UInt8),(5:UInt8),(6:UInt8),(3:UInt8),(4:UInt8),(4:UInt8),(5:UInt8),(4:UInt8),(5:UInt8),(5:UInt8),(6:UInt8),(4:UInt8),(5:UInt8),(5:UInt8),(6:UInt8),(5:UInt8),(6:UInt8),(6:UInt8),(7:UInt8),(3:UInt8),(4:UInt8),(4:UInt8),(5:UInt8),(4:UInt8),(5:UInt8),(5:UInt8),(6:UInt8),(4:UInt8),(5:UInt8),(5:UInt8),(6:UInt8),(5:UInt8),(6:UInt8),(6:UInt8),(7:UInt8),(4:UInt8),(5:UInt8),(5:UInt8),(6:UInt8),(5:UInt8),(6:UInt8),(6:UInt8),(7:UInt8),(5:UInt8),(6:UInt8),(6:UInt8),(7:UInt8),(6:UInt8),(7:UInt8),(7:UInt8),(8:UInt8)])))))) (ibits BinOp.and IntKind.u32 (Int.fdiv x ((2:Int) ^ (16:Nat))) (255:Int))) fun y_1 =>
 bnd (idx (Array.toList (ByteArray.data (ByteArray.mk (List.toArray (List.append (List.append [(0:UInt8),(1:UInt8),(1:UInt8),(2:UInt8),(1:UInt8),(2:UInt8),(2:UInt8),(3:UInt8),(1:UInt8),(2:UInt8),(2:UInt8),(3:UInt8),(2:UInt8),(3:UInt8),(3:UInt8),(4:UInt8),(1:UInt8),(2:UInt8),(2:UInt8),(3:UInt8),(2:UInt8),(3:UInt8),(3:UInt8),(4:UInt8),(2:UInt8),(3:UInt8),(3:UInt8),(4:UInt8),(3:UInt8),(4:UInt8),(4:UInt8),(5:UInt8),(1:UInt8),(2:UInt8),(2:UInt8),(3:UInt8),(2:UInt8),(3:UInt8),(3:UInt8),(4:UInt8),(2:UInt8),(3:UInt8),(3:UInt8),(4:UInt8),(3:UInt8),(4:UInt8),(4:UInt8),(5:UInt8),(2:UInt8),(3:UInt8),(3:UInt8),(4:UInt8),(3:UInt8),(4:UInt8),(4:UInt8),(5:UInt8),(3:UInt8),(4:UInt8),(4:UInt8),(5:UInt8),(4:UInt8),(5:UInt8),(5:UInt8),(6:UInt8)] [(1:UInt8),(2:UInt8),(2:UInt8),(3:UInt8),(2:UInt8),(3:UInt8),(3:UInt8),(4:UInt8),(2:UInt8),(3:UInt8),(3:UInt8),(4:UInt8),(3:UInt8),(4:UInt8),(4:UInt8),(5:UInt8),(2:UInt8),(3:UInt8),(3:UInt8),(4:UInt8),(3:UInt8),(4:UInt8),(4:UInt8),(5:UInt8),(3:UInt8),(4:UInt8),(4:UInt8),(5:UInt8),(4:UInt8),(5:UInt8),(5:UInt8),(6:UInt8),(2:UInt8),(3:UInt8),(3:UInt8),(4:UInt8),(3:UInt8),(4:UInt8),(4:UInt8),(5:UInt8),(3:UInt8),(4:UInt8),(4:UInt8),(5:UInt8),(4:UInt8),(5:UInt8),(5:UInt8),(6:UInt8),(3:UInt8),(4:UInt8),(4:UInt8),(5:UInt8),(4:UInt8),(5:UInt8),(5:UInt8),(6:UInt8),(4:UInt8),(5:UInt8),(5:UInt8),(6:UInt8),(5:UInt8),(6:UInt8),(6:UInt8),(7:UInt8)]) (List.append [(1:UInt8),(2:UInt8),(2:UInt8),(3:UInt8),(2:UInt8),(3:UInt8),(3:UInt8),(4:UInt8),(2:UInt8),(3:UInt8),(3:UInt8),(4:UInt8),(3:UInt8),(4:UInt8),(4:UInt8),(5:UInt8),(2:UInt8),(3:UInt8),(3:UInt8),(4:UInt8),(3:UInt8),(4:UInt8),(4:UInt8),(5:UInt8),(3:UInt8),(4:UInt8),(4:UInt8),(5:UInt8),(4:UInt8),(5:UInt8),(5:UInt8),(6:UInt8),(2:UInt8),(3:UInt8),(3:UInt8),(4:UInt8),(3:UInt8),(4:UInt8),(4:UInt8),(5:UInt8),(3:UInt8),(4:UInt8),(4:UInt8),(5:UInt8),(4:UInt8),(5:UInt8),(5:UInt8),(6:UInt8),(3:UInt8),(4:UInt8),(4:UInt8),(5:UInt8),(4:UInt8),(5:UInt8),(5:UInt8),(6:UInt8),(4:UInt8),(5:UInt8),(5:UInt8),(6:UInt8),(5:UInt8),(6:UInt8),(6:UInt8),(7:UInt8)] [(2:UInt8),(3:UInt8),(3:UInt8),(4:UInt8),(3:UInt8),(4:UInt8),(4:UInt8),(5:UInt8),(3:UInt8),(4:UInt8),(4:UInt8),(5:UInt8),(4:UInt8),(5:UInt8),(5:UInt8),(6:UInt8),(3:UInt8),(4:UInt8),(4:UInt8),(5:UInt8),(4:UInt8),(5:UInt8),(5:UInt8),(6:UInt8),(4:UInt8),(5:UInt8),(5:UInt8),(6:UInt8),(5:UInt8),(6:UInt8),(6:UInt8),(7:UInt8),(3:UInt8),(4:UInt8),(4:UInt8),(5:UInt8),(4:UInt8),(5:UInt8),(5:UInt8),(6:UInt8),(4:UInt8),(5:UInt8),(5:UInt8),(6:UInt8),(5:UInt8),(6:UInt8),(6:UInt8),(7:UInt8),(4:UInt8),(5:UInt8),(5:UInt8),(6:UInt8),(5:UInt8),(6:UInt8),(6:UInt8),(7:UInt8),(5:UInt8),(6:UInt8),(6:UInt8),(7:UInt8),(6:UInt8),(7:UInt8),(7:UInt8),(8:UInt8)])))))) (ibits BinOp.and IntKind.u32 (Int.fdiv x ((2:Int) ^ (8:Nat))) (255:Int))) fun y_2 =>
 bnd (idx (Array.toList (ByteArray.data (ByteArray.mk (List.toArray (List.append (List.append [(0:UInt8),(1:UInt8),(1:UInt8),(2:UInt8),(1:UInt8),(2:UInt8),(2:UInt8),(3:UInt8),(1:UInt8),(2:UInt8),(2:UInt8),(3:UInt8),(2:UInt8),(3:UInt8),(3:UInt8),(4:UInt8),(1:UInt8),(2:UInt8),(2:UInt8),(3:UInt8),(2:UInt8),(3:UInt8),(3:UInt8),(4:UInt8),(2:UInt8),(3:UInt8),(3:UInt8),(4:UInt8),(3:UInt8),(4:UInt8),(4:UInt8),(5:UInt8),(1:UInt8),(2:UInt8),(2:UInt8),(3:UInt8),(2:UInt8),(3:UInt8),(3:UInt8),(4:UInt8),(2:UInt8),(3:UInt8),(3:UInt8),(4:UInt8),(3:UInt8),(4:UInt8),(4:UInt8),(5:UInt8),(2:UInt8),(3:UInt8),(3:UInt8),(4:UInt8),(3:UInt8),(4:UInt8),(4:UInt8),(5:UInt8),(3:UInt8),(4:UInt8),(4:UInt8),(5:UInt8),(4:UInt8),(5:UInt8),(5:UInt8),(6:UInt8)] [(1:UInt8),(2:UInt8),(2:UInt8),(3:UInt8),(2:UInt8),(3:UInt8),(3:UInt8),(4:UInt8),(2:UInt8),(3:UInt8),(3:UInt8),(4:UInt8),(3:UInt8),(4:UInt8),(4:UInt8),(5:UInt8),(2:UInt8),(3:UInt8),(3:UInt8),(4:UInt8),(3:UInt8),(4:UInt8),(4:UInt8),(5:UInt8),(3:UInt8),(4:UInt8),(4:UInt8),(5:UInt8),(4:UInt8),(5:UInt8),(5:UInt8),(6:UInt8),(2:UInt8),(3:UInt8),(3:UInt8),(4:UInt8),(3:UInt8),(4:UInt8),(4:UInt8),(5:UInt8),(3:UInt8),(4:UInt8),(4:UInt8),(5:UInt8),(4:UInt8),(5:UInt8),(5:UInt8),(6:UInt8),(3:UInt8),(4:UInt8),(4:UInt8),(5:UInt8),(4:UInt8),(5:UInt8),(5:UInt8),(6:UInt8),(4:UInt8),(5:UInt8),(5:UInt8),(6:UInt8),(5:UInt8),(6:UInt8),(6:UInt8),(7:UInt8)]) (List.append [(1:UInt8),(2:UInt8),(2:UInt8),(3:UInt8),(2:UInt8),(3:UInt8),(3:UInt8),(4:UInt8),(2:UInt8),(3:UInt8),(3:UInt8),(4:UInt8),(3:UInt8),(4:UInt8),(4:UInt8),(5:UInt8),(2:UInt8),(3:UInt8),(3:UInt8),(4:UInt8),(3:UInt8),(4:UInt8),(4:UInt8),(5:UInt8),(3:UInt8),(4:UInt8),(4:UInt8),(5:UInt8),(4:UInt8),(5:UInt8),(5:UInt8),(6:UInt8),(2:UInt8),(3:UInt8),(3:UInt8),(4:UInt8),(3:UInt8),(4:UInt8),(4:UInt8),(5:UInt8),(3:UInt8),(4:UInt8),(4:UInt8),(5:UInt8),(4:UInt8),(5:UInt8),(5:UInt8),(6:UInt8),(3:UInt8),(4:UInt8),(4:UInt8),(5:UInt8),(4:UInt8),(5:UInt8),(5:UInt8),(6:UInt8),(4:UInt8),(5:UInt8),(5:UInt8),(6:UInt8),(5:UInt8),(6:UInt8),(6:UInt8),(7:UInt8)] [(2:UInt8),(3:UInt8),(3:UInt8),(4:UInt8),(3:UInt8),(4:UInt8),(4:UInt8),(5:UInt8),(3:UInt8),(4:UInt8),(4:UInt8),(5:UInt8),(4:UInt8),(5:UInt8),(5:UInt8),(6:UInt8),(3:UInt8),(4:UInt8),(4:UInt8),(5:UInt8),(4:UInt8),(5:UInt8),(5:UInt8),(6:UInt8),(4:UInt8),(5:UInt8),(5:UInt8),(6:UInt8),(5:UInt8),(6:UInt8),(6:UInt8),(7:UInt8),(3:UInt8),(4:UInt8),(4:UInt8),(5:UInt8),(4:UInt8),(5:UInt8),(5:UInt8),(6:UInt8),(4:UInt8),(5:UInt8),(5:UInt8),(6:UInt8),(5:UInt8),(6:UInt8),(6:UInt8),(7:UInt8),(4:UInt8),(5:UInt8),(5:UInt8),(6:UInt8),(5:UInt8),(6:UInt8),(6:UInt8),(7:UInt8),(5:UInt8),(6:UInt8),(6:UInt8),(7:UInt8),(6:UInt8),(7:UInt8),(7:UInt8),(8:UInt8)])))))) (ibits BinOp.and IntKind.u32 x (255:Int))) fun y_3 =>
 k_ (IntKind.wrap IntKind.i64 (IntKind.wrap IntKind.u8 (IntKind.wrap IntKind.u8 (IntKind.wrap IntKind.u8 ((↑(UInt8.toNat y):Int) + (↑(UInt8.toNat y_1):Int)) + (↑(UInt8.toNat y_2):Int)) + (↑(UInt8.toNat y_3):Int))))
def bits_OnesCount32.c1s:Shape:=⟨[(0,tb10),(2,tb5)],[]⟩
def bits_OnesCount32.c1x0:Shape:=bits_OnesCount32.c1s
def bits_OnesCount32.c1r:Ck:=Ck.of (T:=Int) bits_OnesCount32.c1s (fun ρ x_ k_=>bits_OnesCount32.c1 x_.1 k_) (fun ρ x_ r_ k_=>k_ 0 (Shape.inj bits_OnesCount32.c1x0 (x_.1,r_,())))
def bits_OnesCount32 (x:Int):Option Int :=
 bnd (W.bits_OnesCount32.c1 x some) fun y =>
 some y
def bits_OnesCount32.ce:Go.Ql.Callee:=⟨[(.int .u32)],[(.int .i64)],fun x_=>bits_OnesCount32 x_⟩
def bits_OnesCount32.G:Env:=⟨21,tab,[],[0,2],[],[(1,[⟨[],[],[6,7,8,9,11,12,13,14,16,17,18],[]⟩,⟨[0],[],[6,7,8,9,11,12,13,14,16,17,18],[]⟩,⟨[1,0],[],[6,7,8,9,11,12,13,14,16,17,18],[]⟩,⟨[],[],[3,4,5,11,12,13,14,16,17,18],[]⟩,⟨[3],[],[3,4,5,11,12,13,14,16,17,18],[]⟩,⟨[4,3],[],[3,4,5,11,12,13,14,16,17,18],[]⟩,⟨[5,4,3],[],[3,4,5,11,12,13,14,16,17,18],[]⟩,⟨[2,1,0,6,5,4,3],[],[11,12,13,14,16,17,18],[]⟩,⟨[],[],[3,4,5,6,7,8,9,10,16,17,18],[]⟩,⟨[8],[],[3,4,5,6,7,8,9,10,16,17,18],[]⟩,⟨[9,8],[],[3,4,5,6,7,8,9,10,16,17,18],[]⟩,⟨[10,9,8],[],[3,4,5,6,7,8,9,10,16,17,18],[]⟩,⟨[7,2,1,0,6,5,4,3,11,10,9,8],[],[16,17,18],[]⟩,⟨[],[],[3,4,5,6,7,8,9,10,11,12,13,14,15],[]⟩,⟨[13],[],[3,4,5,6,7,8,9,10,11,12,13,14,15],[]⟩,⟨[14,13],[],[3,4,5,6,7,8,9,10,11,12,13,14,15],[]⟩,⟨[12,7,2,1,0,6,5,4,3,11,10,9,8,15,14,13],[],[],[]⟩,⟨[16,12,7,2,1,0,6,5,4,3,11,10,9,8,15,14,13],[],[],[]⟩,⟨[17,16,12,7,2,1,0,6,5,4,3,11,10,9,8,15,14,13],[],[],[]⟩])],[(1,bits_OnesCount32.c1r)],[],tab_eqs⟩
theorem bits_OnesCount32.eq (x_:dens bits_OnesCount32.ce.params):den bits_OnesCount32.G Try.f135 bits_OnesCount32.ce.params bits_OnesCount32.ce.res x_ = bits_OnesCount32.ce.F x_:=by kernel_rfl
theorem bits_OnesCount32.p0:PcA bits_OnesCount32.G Try.f135 0 :=
 region_ok (s:=bits_OnesCount32.c1r) (by kernel_rfl) (by kernel_rfl) (sums_of (sh:=bits_OnesCount32.c1s) (fun ρ x_ k_=>(nat_bnd fun _=>(nat_bnd fun _=>(nat_bnd fun _=>(nat_bnd fun _=>nat_leaf))))) (fun ρ x_ t k=>(by kernel_rfl)) (fun x_=>by kernel_rfl))
theorem bits_OnesCount32.ok:CalleeOk Try.prog 135 bits_OnesCount32.ce:=fn_ok (G:=bits_OnesCount32.G) tab_ok mixed Try.func135 ⟨fns_nil,mfns_nil,tab_eqs_ok⟩ (m:=1) (by kernel_rfl) ⟨trivial,bits_OnesCount32.p0⟩ (by kernel_rfl) bits_OnesCount32.eq
def bits_OnesCount64 (x:Int):Option Int :=
 some (ibits BinOp.and IntKind.i64 (IntKind.wrap IntKind.i64 (IntKind.wrap IntKind.u64 (IntKind.wrap IntKind.u64 (IntKind.wrap IntKind.u64 (ibits BinOp.and IntKind.u64 (IntKind.wrap IntKind.u64 (Int.fdiv (IntKind.wrap IntKind.u64 (ibits BinOp.and IntKind.u64 (Int.fdiv (IntKind.wrap IntKind.u64 (ibits BinOp.and IntKind.u64 (Int.fdiv x ((2:Int) ^ (1:Nat))) (6148914691236517205:Int) + ibits BinOp.and IntKind.u64 x (6148914691236517205:Int))) ((2:Int) ^ (2:Nat))) (3689348814741910323:Int) + ibits BinOp.and IntKind.u64 (IntKind.wrap IntKind.u64 (ibits BinOp.and IntKind.u64 (Int.fdiv x ((2:Int) ^ (1:Nat))) (6148914691236517205:Int) + ibits BinOp.and IntKind.u64 x (6148914691236517205:Int))) (3689348814741910323:Int))) ((2:Int) ^ (4:Nat)) + IntKind.wrap IntKind.u64 (ibits BinOp.and IntKind.u64 (Int.fdiv (IntKind.wrap IntKind.u64 (ibits BinOp.and IntKind.u64 (Int.fdiv x ((2:Int) ^ (1:Nat))) (6148914691236517205:Int) + ibits BinOp.and IntKind.u64 x (6148914691236517205:Int))) ((2:Int) ^ (2:Nat))) (3689348814741910323:Int) + ibits BinOp.and IntKind.u64 (IntKind.wrap IntKind.u64 (ibits BinOp.and IntKind.u64 (Int.fdiv x ((2:Int) ^ (1:Nat))) (6148914691236517205:Int) + ibits BinOp.and IntKind.u64 x (6148914691236517205:Int))) (3689348814741910323:Int)))) (1085102592571150095:Int) + Int.fdiv (ibits BinOp.and IntKind.u64 (IntKind.wrap IntKind.u64 (Int.fdiv (IntKind.wrap IntKind.u64 (ibits BinOp.and IntKind.u64 (Int.fdiv (IntKind.wrap IntKind.u64 (ibits BinOp.and IntKind.u64 (Int.fdiv x ((2:Int) ^ (1:Nat))) (6148914691236517205:Int) + ibits BinOp.and IntKind.u64 x (6148914691236517205:Int))) ((2:Int) ^ (2:Nat))) (3689348814741910323:Int) + ibits BinOp.and IntKind.u64 (IntKind.wrap IntKind.u64 (ibits BinOp.and IntKind.u64 (Int.fdiv x ((2:Int) ^ (1:Nat))) (6148914691236517205:Int) + ibits BinOp.and IntKind.u64 x (6148914691236517205:Int))) (3689348814741910323:Int))) ((2:Int) ^ (4:Nat)) + IntKind.wrap IntKind.u64 (ibits BinOp.and IntKind.u64 (Int.fdiv (IntKind.wrap IntKind.u64 (ibits BinOp.and IntKind.u64 (Int.fdiv x ((2:Int) ^ (1:Nat))) (6148914691236517205:Int) + ibits BinOp.and IntKind.u64 x (6148914691236517205:Int))) ((2:Int) ^ (2:Nat))) (3689348814741910323:Int) + ibits BinOp.and IntKind.u64 (IntKind.wrap IntKind.u64 (ibits BinOp.and IntKind.u64 (Int.fdiv x ((2:Int) ^ (1:Nat))) (6148914691236517205:Int) + ibits BinOp.and IntKind.u64 x (6148914691236517205:Int))) (3689348814741910323:Int)))) (1085102592571150095:Int)) ((2:Int) ^ (8:Nat))) + Int.fdiv (IntKind.wrap IntKind.u64 (ibits BinOp.and IntKind.u64 (IntKind.wrap IntKind.u64 (Int.fdiv (IntKind.wrap IntKind.u64 (ibits BinOp.and IntKind.u64 (Int.fdiv (IntKind.wrap IntKind.u64 (ibits BinOp.and IntKind.u64 (Int.fdiv x ((2:Int) ^ (1:Nat))) (6148914691236517205:Int) + ibits BinOp.and IntKind.u64 x (6148914691236517205:Int))) ((2:Int) ^ (2:Nat))) (3689348814741910323:Int) + ibits BinOp.and IntKind.u64 (IntKind.wrap IntKind.u64 (ibits BinOp.and IntKind.u64 (Int.fdiv x ((2:Int) ^ (1:Nat))) (6148914691236517205:Int) + ibits BinOp.and IntKind.u64 x (6148914691236517205:Int))) (3689348814741910323:Int))) ((2:Int) ^ (4:Nat)) + IntKind.wrap IntKind.u64 (ibits BinOp.and IntKind.u64 (Int.fdiv (IntKind.wrap IntKind.u64 (ibits BinOp.and IntKind.u64 (Int.fdiv x ((2:Int) ^ (1:Nat))) (6148914691236517205:Int) + ibits BinOp.and IntKind.u64 x (6148914691236517205:Int))) ((2:Int) ^ (2:Nat))) (3689348814741910323:Int) + ibits BinOp.and IntKind.u64 (IntKind.wrap IntKind.u64 (ibits BinOp.and IntKind.u64 (Int.fdiv x ((2:Int) ^ (1:Nat))) (6148914691236517205:Int) + ibits BinOp.and IntKind.u64 x (6148914691236517205:Int))) (3689348814741910323:Int)))) (1085102592571150095:Int) + Int.fdiv (ibits BinOp.and IntKind.u64 (IntKind.wrap IntKind.u64 (Int.fdiv (IntKind.wrap IntKind.u64 (ibits BinOp.and IntKind.u64 (Int.fdiv (IntKind.wrap IntKind.u64 (ibits BinOp.and IntKind.u64 (Int.fdiv x ((2:Int) ^ (1:Nat))) (6148914691236517205:Int) + ibits BinOp.and IntKind.u64 x (6148914691236517205:Int))) ((2:Int) ^ (2:Nat))) (3689348814741910323:Int) + ibits BinOp.and IntKind.u64 (IntKind.wrap IntKind.u64 (ibits BinOp.and IntKind.u64 (Int.fdiv x ((2:Int) ^ (1:Nat))) (6148914691236517205:Int) + ibits BinOp.and IntKind.u64 x (6148914691236517205:Int))) (3689348814741910323:Int))) ((2:Int) ^ (4:Nat)) + IntKind.wrap IntKind.u64 (ibits BinOp.and IntKind.u64 (Int.fdiv (IntKind.wrap IntKind.u64 (ibits BinOp.and IntKind.u64 (Int.fdiv x ((2:Int) ^ (1:Nat))) (6148914691236517205:Int) + ibits BinOp.and IntKind.u64 x (6148914691236517205:Int))) ((2:Int) ^ (2:Nat))) (3689348814741910323:Int) + ibits BinOp.and IntKind.u64 (IntKind.wrap IntKind.u64 (ibits BinOp.and IntKind.u64 (Int.fdiv x ((2:Int) ^ (1:Nat))) (6148914691236517205:Int) + ibits BinOp.and IntKind.u64 x (6148914691236517205:Int))) (3689348814741910323:Int)))) (1085102592571150095:Int)) ((2:Int) ^ (8:Nat)))) ((2:Int) ^ (16:Nat))) + Int.fdiv (IntKind.wrap IntKind.u64 (IntKind.wrap IntKind.u64 (ibits BinOp.and IntKind.u64 (IntKind.wrap IntKind.u64 (Int.fdiv (IntKind.wrap IntKind.u64 (ibits BinOp.and IntKind.u64 (Int.fdiv (IntKind.wrap IntKind.u64 (ibits BinOp.and IntKind.u64 (Int.fdiv x ((2:Int) ^ (1:Nat))) (6148914691236517205:Int) + ibits BinOp.and IntKind.u64 x (6148914691236517205:Int))) ((2:Int) ^ (2:Nat))) (3689348814741910323:Int) + ibits BinOp.and IntKind.u64 (IntKind.wrap IntKind.u64 (ibits BinOp.and IntKind.u64 (Int.fdiv x ((2:Int) ^ (1:Nat))) (6148914691236517205:Int) + ibits BinOp.and IntKind.u64 x (6148914691236517205:Int))) (3689348814741910323:Int))) ((2:Int) ^ (4:Nat)) + IntKind.wrap IntKind.u64 (ibits BinOp.and IntKind.u64 (Int.fdiv (IntKind.wrap IntKind.u64 (ibits BinOp.and IntKind.u64 (Int.fdiv x ((2:Int) ^ (1:Nat))) (6148914691236517205:Int) + ibits BinOp.and IntKind.u64 x (6148914691236517205:Int))) ((2:Int) ^ (2:Nat))) (3689348814741910323:Int) + ibits BinOp.and IntKind.u64 (IntKind.wrap IntKind.u64 (ibits BinOp.and IntKind.u64 (Int.fdiv x ((2:Int) ^ (1:Nat))) (6148914691236517205:Int) + ibits BinOp.and IntKind.u64 x (6148914691236517205:Int))) (3689348814741910323:Int)))) (1085102592571150095:Int) + Int.fdiv (ibits BinOp.and IntKind.u64 (IntKind.wrap IntKind.u64 (Int.fdiv (IntKind.wrap IntKind.u64 (ibits BinOp.and IntKind.u64 (Int.fdiv (IntKind.wrap IntKind.u64 (ibits BinOp.and IntKind.u64 (Int.fdiv x ((2:Int) ^ (1:Nat))) (6148914691236517205:Int) + ibits BinOp.and IntKind.u64 x (6148914691236517205:Int))) ((2:Int) ^ (2:Nat))) (3689348814741910323:Int) + ibits BinOp.and IntKind.u64 (IntKind.wrap IntKind.u64 (ibits BinOp.and IntKind.u64 (Int.fdiv x ((2:Int) ^ (1:Nat))) (6148914691236517205:Int) + ibits BinOp.and IntKind.u64 x (6148914691236517205:Int))) (3689348814741910323:Int))) ((2:Int) ^ (4:Nat)) + IntKind.wrap IntKind.u64 (ibits BinOp.and IntKind.u64 (Int.fdiv (IntKind.wrap IntKind.u64 (ibits BinOp.and IntKind.u64 (Int.fdiv x ((2:Int) ^ (1:Nat))) (6148914691236517205:Int) + ibits BinOp.and IntKind.u64 x (6148914691236517205:Int))) ((2:Int) ^ (2:Nat))) (3689348814741910323:Int) + ibits BinOp.and IntKind.u64 (IntKind.wrap IntKind.u64 (ibits BinOp.and IntKind.u64 (Int.fdiv x ((2:Int) ^ (1:Nat))) (6148914691236517205:Int) + ibits BinOp.and IntKind.u64 x (6148914691236517205:Int))) (3689348814741910323:Int)))) (1085102592571150095:Int)) ((2:Int) ^ (8:Nat))) + Int.fdiv (IntKind.wrap IntKind.u64 (ibits BinOp.and IntKind.u64 (IntKind.wrap IntKind.u64 (Int.fdiv (IntKind.wrap IntKind.u64 (ibits BinOp.and IntKind.u64 (Int.fdiv (IntKind.wrap IntKind.u64 (ibits BinOp.and IntKind.u64 (Int.fdiv x ((2:Int) ^ (1:Nat))) (6148914691236517205:Int) + ibits BinOp.and IntKind.u64 x (6148914691236517205:Int))) ((2:Int) ^ (2:Nat))) (3689348814741910323:Int) + ibits BinOp.and IntKind.u64 (IntKind.wrap IntKind.u64 (ibits BinOp.and IntKind.u64 (Int.fdiv x ((2:Int) ^ (1:Nat))) (6148914691236517205:Int) + ibits BinOp.and IntKind.u64 x (6148914691236517205:Int))) (3689348814741910323:Int))) ((2:Int) ^ (4:Nat)) + IntKind.wrap IntKind.u64 (ibits BinOp.and IntKind.u64 (Int.fdiv (IntKind.wrap IntKind.u64 (ibits BinOp.and IntKind.u64 (Int.fdiv x ((2:Int) ^ (1:Nat))) (6148914691236517205:Int) + ibits BinOp.and IntKind.u64 x (6148914691236517205:Int))) ((2:Int) ^ (2:Nat))) (3689348814741910323:Int) + ibits BinOp.and IntKind.u64 (IntKind.wrap IntKind.u64 (ibits BinOp.and IntKind.u64 (Int.fdiv x ((2:Int) ^ (1:Nat))) (6148914691236517205:Int) + ibits BinOp.and IntKind.u64 x (6148914691236517205:Int))) (3689348814741910323:Int)))) (1085102592571150095:Int) + Int.fdiv (ibits BinOp.and IntKind.u64 (IntKind.wrap IntKind.u64 (Int.fdiv (IntKind.wrap IntKind.u64 (ibits BinOp.and IntKind.u64 (Int.fdiv (IntKind.wrap IntKind.u64 (ibits BinOp.and IntKind.u64 (Int.fdiv x ((2:Int) ^ (1:Nat))) (6148914691236517205:Int) + ibits BinOp.and IntKind.u64 x (6148914691236517205:Int))) ((2:Int) ^ (2:Nat))) (3689348814741910323:Int) + ibits BinOp.and IntKind.u64 (IntKind.wrap IntKind.u64 (ibits BinOp.and IntKind.u64 (Int.fdiv x ((2:Int) ^ (1:Nat))) (6148914691236517205:Int) + ibits BinOp.and IntKind.u64 x (6148914691236517205:Int))) (3689348814741910323:Int))) ((2:Int) ^ (4:Nat)) + IntKind.wrap IntKind.u64 (ibits BinOp.and IntKind.u64 (Int.fdiv (IntKind.wrap IntKind.u64 (ibits BinOp.and IntKind.u64 (Int.fdiv x ((2:Int) ^ (1:Nat))) (6148914691236517205:Int) + ibits BinOp.and IntKind.u64 x (6148914691236517205:Int))) ((2:Int) ^ (2:Nat))) (3689348814741910323:Int) + ibits BinOp.and IntKind.u64 (IntKind.wrap IntKind.u64 (ibits BinOp.and IntKind.u64 (Int.fdiv x ((2:Int) ^ (1:Nat))) (6148914691236517205:Int) + ibits BinOp.and IntKind.u64 x (6148914691236517205:Int))) (3689348814741910323:Int)))) (1085102592571150095:Int)) ((2:Int) ^ (8:Nat)))) ((2:Int) ^ (16:Nat)))) ((2:Int) ^ (32:Nat))))) (127:Int))
def bits_OnesCount64.ce:Go.Ql.Callee:=⟨[(.int .u64)],[(.int .i64)],fun x_=>bits_OnesCount64 x_⟩
def bits_OnesCount64.G:Env:=⟨35,tab,[],[0,2],[],[],[],[],tab_eqs⟩
theorem bits_OnesCount64.eq (x_:dens bits_OnesCount64.ce.params):den bits_OnesCount64.G Try.f136 bits_OnesCount64.ce.params bits_OnesCount64.ce.res x_ = bits_OnesCount64.ce.F x_:=by kernel_rfl
theorem bits_OnesCount64.ok:CalleeOk Try.prog 136 bits_OnesCount64.ce:=fn_ok (G:=bits_OnesCount64.G) tab_ok mixed Try.func136 ⟨fns_nil,mfns_nil,tab_eqs_ok⟩ (m:=0) (by kernel_rfl) trivial (by kernel_rfl) bits_OnesCount64.eq
def bits_OnesCount (x:Int):Option Int :=
 bnd (W.bits_OnesCount64 x) fun y =>
 some y
def bits_OnesCount.ce:Go.Ql.Callee:=⟨[(.int .u64)],[(.int .i64)],fun x_=>bits_OnesCount x_⟩
def bits_OnesCount.G:Env:=⟨8,tab,[(135,bits_OnesCount32.ce),(136,bits_OnesCount64.ce)],[0,2],[],[],[],[],tab_eqs⟩
theorem bits_OnesCount.eq (x_:dens bits_OnesCount.ce.params):den bits_OnesCount.G Try.f118 bits_OnesCount.ce.params bits_OnesCount.ce.res x_ = bits_OnesCount.ce.F x_:=by kernel_rfl
theorem bits_OnesCount.ok:CalleeOk Try.prog 118 bits_OnesCount.ce:=fn_ok (G:=bits_OnesCount.G) tab_ok mixed Try.func118 ⟨(fns_cons bits_OnesCount32.ok (fns_cons bits_OnesCount64.ok fns_nil)),mfns_nil,tab_eqs_ok⟩ (m:=0) (by kernel_rfl) trivial (by kernel_rfl) bits_OnesCount.eq
abbrev tb11:SD:=.one (.val (.st (.pair (.int .u64) (.pair (.int .u64) .bool))))
abbrev tb12:SD:=.one (.ref 3 0)
def tableau_pauli_meets.c1 {ρ:Type} (p0:Int) (p1:Int) (o0:Int) (o1:Int) (k_:Bool → Option ρ):Option ρ :=
 bnd (W.bits_OnesCount (ibits BinOp.and IntKind.u64 p0 o1)) fun y =>
 bnd (W.bits_OnesCount (ibits BinOp.and IntKind.u64 p1 o0)) fun y_1 =>
 k_ (ibits BinOp.and IntKind.i64 y (1:Int) != ibits BinOp.and IntKind.i64 y_1 (1:Int))
def tableau_pauli_meets.c1s:Shape:=⟨[(0,tb11),(1,tb11),(2,tb2),(3,tb12),(4,tb7)],[(2,tb9),(3,tb9)]⟩
def tableau_pauli_meets.c1x0:Shape:=tableau_pauli_meets.c1s
def tableau_pauli_meets.c1r:Ck:=Ck.of (T:=Bool) tableau_pauli_meets.c1s (fun ρ x_ k_=>tableau_pauli_meets.c1 x_.2.2.2.1 x_.2.2.2.2.1 x_.2.2.2.2.2.2.1 x_.2.2.2.2.2.2.2.1 k_) (fun ρ x_ r_ k_=>k_ 0 (Shape.inj tableau_pauli_meets.c1x0 (x_.1,x_.2.1,r_,x_.2.2.2)))
def tableau_pauli_meets (p:Int×(Int×(Bool))) (o:Int×(Int×(Bool))):Option (Bool) :=
 bnd (W.tableau_pauli_meets.c1 (Prod.fst p) (Prod.fst (Prod.snd p)) (Prod.fst o) (Prod.fst (Prod.snd o)) some) fun y =>
 some y
def tableau_pauli_meets.ce:Go.Ql.Callee:=⟨[(.st (.pair (.int .u64) (.pair (.int .u64) .bool))),(.st (.pair (.int .u64) (.pair (.int .u64) .bool)))],[.bool],fun x_=>tableau_pauli_meets x_.1 x_.2⟩
def tableau_pauli_meets.G:Env:=⟨20,tab,[(118,bits_OnesCount.ce)],[0,1,2,3,4],[],[(1,[⟨[],[],[7,8,12,13,14,15,16],[]⟩,⟨[0],[],[7,8,12,13,14,15,16],[]⟩,⟨[],[],[5,6,12,13,14,15,16],[]⟩,⟨[2],[],[5,6,12,13,14,15,16],[]⟩,⟨[1,0,3,2],[],[12,13,14,15,16],[]⟩,⟨[4,1,0,3,2],[],[12,13,14,15,16],[]⟩,⟨[5,4,1,0,3,2],[],[12,13,14,15,16,17,18],[]⟩,⟨[],[],[5,6,7,8,9,10,11,14,15],[]⟩,⟨[7],[],[5,6,7,8,9,10,11,14,15],[]⟩,⟨[],[],[5,6,7,8,9,10,11,12,13],[]⟩,⟨[9],[],[5,6,7,8,9,10,11,12,13],[]⟩,⟨[8,7,10,9],[],[5,6,7,8,9,10,11],[]⟩,⟨[11,8,7,10,9,5,4,1,0,3,2],[],[11],[]⟩,⟨[12,11,8,7,10,9,5,4,1,0,3,2],[],[11],[]⟩,⟨[6,5,4,1,0,3,2,13,12,11,8,7,10,9],[],[],[]⟩,⟨[14,6,5,4,1,0,3,2,13,12,11,8,7,10,9],[],[],[]⟩])],[(1,tableau_pauli_meets.c1r)],[],tab_eqs⟩
theorem tableau_pauli_meets.eq (x_:dens tableau_pauli_meets.ce.params):den tableau_pauli_meets.G Try.f85 tableau_pauli_meets.ce.params tableau_pauli_meets.ce.res x_ = tableau_pauli_meets.ce.F x_:=by kernel_rfl
theorem tableau_pauli_meets.p0:PcA tableau_pauli_meets.G Try.f85 0 :=
 region_ok (s:=tableau_pauli_meets.c1r) (by kernel_rfl) (by kernel_rfl) (sums_of (sh:=tableau_pauli_meets.c1s) (fun ρ x_ k_=>(nat_bnd fun _=>(nat_bnd fun _=>nat_leaf))) (fun ρ x_ t k=>(by kernel_rfl)) (fun x_=>by kernel_rfl))
theorem tableau_pauli_meets.ok:CalleeOk Try.prog 85 tableau_pauli_meets.ce:=fn_ok (G:=tableau_pauli_meets.G) tab_ok mixed Try.func85 ⟨(fns_cons bits_OnesCount.ok fns_nil),mfns_nil,tab_eqs_ok⟩ (m:=1) (by kernel_rfl) ⟨trivial,tableau_pauli_meets.p0⟩ (by kernel_rfl) tableau_pauli_meets.eq
def tableau_pauli_Meets (p:Int×(Int×(Bool))) (o:Int×(Int×(Bool))):Option (Bool) :=
 bnd (W.tableau_pauli_meets (Prod.fst p,Prod.fst (Prod.snd p),Prod.snd (Prod.snd p)) (Prod.fst o,Prod.fst (Prod.snd o),Prod.snd (Prod.snd o))) fun y =>
 some y
def tableau_pauli_Meets.ce:Go.Ql.Callee:=⟨[(.st (.pair (.int .u64) (.pair (.int .u64) .bool))),(.st (.pair (.int .u64) (.pair (.int .u64) .bool)))],[.bool],fun x_=>tableau_pauli_Meets x_.1 x_.2⟩
def tableau_pauli_Meets.G:Env:=⟨8,tab,[(85,tableau_pauli_meets.ce)],[0,1,2,3,4],[],[],[],[],tab_eqs⟩
theorem tableau_pauli_Meets.eq (x_:dens tableau_pauli_Meets.ce.params):den tableau_pauli_Meets.G Try.f107 tableau_pauli_Meets.ce.params tableau_pauli_Meets.ce.res x_ = tableau_pauli_Meets.ce.F x_:=by kernel_rfl
theorem tableau_pauli_Meets.ok:CalleeOk Try.prog 107 tableau_pauli_Meets.ce:=fn_ok (G:=tableau_pauli_Meets.G) tab_ok mixed Try.func107 ⟨(fns_cons tableau_pauli_meets.ok fns_nil),mfns_nil,tab_eqs_ok⟩ (m:=0) (by kernel_rfl) trivial (by kernel_rfl) tableau_pauli_Meets.eq
def tableau_pauli_Bare (p:Int×(Int×(Bool))):Option (List Int) :=
 bnd (okIf (decide (List.length (List.set (List.set (List.replicate (2:Nat) (0:Int)) (0:Nat) (Prod.fst p)) (1:Nat) (Prod.fst (Prod.snd p))) = List.length (List.replicate (2:Nat) (0:Int))))) fun y =>
 bnd (okIf (decide (List.length (List.set (List.set (List.replicate (2:Nat) (0:Int)) (0:Nat) (Prod.fst p)) (1:Nat) (Prod.fst (Prod.snd p))) = (2:Nat)))) fun y_1 =>
 some (List.set (List.set (List.replicate (2:Nat) (0:Int)) (0:Nat) (Prod.fst p)) (1:Nat) (Prod.fst (Prod.snd p)))
def tableau_pauli_Bare.ce:Go.Ql.Callee:=⟨[(.st (.pair (.int .u64) (.pair (.int .u64) .bool)))],[(.ar 2 (.int .u64))],fun x_=>tableau_pauli_Bare x_⟩
def tableau_pauli_Bare.G:Env:=⟨8,tab,[],[0,1,2],[2,7],[],[],[],tab_eqs⟩
theorem tableau_pauli_Bare.eq (x_:dens tableau_pauli_Bare.ce.params):den tableau_pauli_Bare.G Try.f109 tableau_pauli_Bare.ce.params tableau_pauli_Bare.ce.res x_ = tableau_pauli_Bare.ce.F x_:=by kernel_rfl
theorem tableau_pauli_Bare.ok:CalleeOk Try.prog 109 tableau_pauli_Bare.ce:=fn_ok (G:=tableau_pauli_Bare.G) tab_ok mixed Try.func109 ⟨fns_nil,mfns_nil,tab_eqs_ok⟩ (m:=0) (by kernel_rfl) trivial (by kernel_rfl) tableau_pauli_Bare.eq
def code_vector (p:List Int):Option Int :=
 bnd (idx p (0:Int)) fun y =>
 bnd (idx p (1:Int)) fun y_1 =>
 some (ibits BinOp.or IntKind.u64 (IntKind.wrap IntKind.u64 (y * (2:Int) ^ (16:Nat))) y_1)
def code_vector.ce:Go.Ql.Callee:=⟨[(.ar 2 (.int .u64))],[(.int .u64)],fun x_=>code_vector x_⟩
def code_vector.G:Env:=⟨9,tab,[],[0,1,2],[8000001],[],[],[],tab_eqs⟩
theorem code_vector.eq (x_:dens code_vector.ce.params):den code_vector.G Try.f131 code_vector.ce.params code_vector.ce.res x_ = code_vector.ce.F x_:=by kernel_rfl
theorem code_vector.ok:CalleeOk Try.prog 131 code_vector.ce:=fn_ok (G:=code_vector.G) tab_ok mixed Try.func131 ⟨fns_nil,mfns_nil,tab_eqs_ok⟩ (m:=0) (by kernel_rfl) trivial (by kernel_rfl) code_vector.eq
abbrev tb13:SD:=.one (.val (.int .u64))
def bits_Len64.c204103 {ρ:Type} (x:Int) (n:Int) (k_:Int×Int → Option ρ):Option ρ :=
 br (decide (x ≥ (4294967296:Int)))
 (k_ ((Int.fdiv x ((2:Int) ^ (32:Nat))),(32:Int)))
 (k_ (x,n))
def bits_Len64.c204103s:Shape:=⟨[(0,tb13),(2,tb5)],[]⟩
def bits_Len64.c204103x0:Shape:=bits_Len64.c204103s
def bits_Len64.c204103r:Ck:=Ck.of (T:=Int×Int) bits_Len64.c204103s (fun ρ x_ k_=>bits_Len64.c204103 x_.1 x_.2.1 k_) (fun ρ x_ r_ k_=>k_ 0 (Shape.inj bits_Len64.c204103x0 (r_.1,r_.2,())))
def bits_Len64.c216391 {ρ:Type} (x:Int) (n:Int) (k_:Int×Int → Option ρ):Option ρ :=
 br (decide (x ≥ (65536:Int)))
 (k_ ((Int.fdiv x ((2:Int) ^ (16:Nat))),(IntKind.wrap IntKind.i64 (n + (16:Int)))))
 (k_ (x,n))
def bits_Len64.c216391s:Shape:=bits_Len64.c204103s
def bits_Len64.c216391x0:Shape:=bits_Len64.c204103s
def bits_Len64.c216391r:Ck:=Ck.of (T:=Int×Int) bits_Len64.c216391s (fun ρ x_ k_=>bits_Len64.c216391 x_.1 x_.2.1 k_) (fun ρ x_ r_ k_=>k_ 0 (Shape.inj bits_Len64.c216391x0 (r_.1,r_.2,())))
def bits_Len64.c228679 {ρ:Type} (x:Int) (n:Int) (k_:Int×Int → Option ρ):Option ρ :=
 br (decide (x ≥ (256:Int)))
 (k_ ((Int.fdiv x ((2:Int) ^ (8:Nat))),(IntKind.wrap IntKind.i64 (n + (8:Int)))))
 (k_ (x,n))
def bits_Len64.c228679s:Shape:=bits_Len64.c204103s
def bits_Len64.c228679x0:Shape:=bits_Len64.c204103s
def bits_Len64.c228679r:Ck:=Ck.of (T:=Int×Int) bits_Len64.c228679s (fun ρ x_ k_=>bits_Len64.c228679 x_.1 x_.2.1 k_) (fun ρ x_ r_ k_=>k_ 0 (Shape.inj bits_Len64.c228679x0 (r_.1,r_.2,())))
def bits_Len64 (x:Int):Option Int :=
 bnd (W.bits_Len64.c204103 x (0:Int) some) fun y =>
 bnd (W.bits_Len64.c216391 (Prod.fst y) (Prod.snd y) some) fun y_1 =>
 bnd (W.bits_Len64.c228679 (Prod.fst y_1) (Prod.snd y_1) some) fun y_2 =>
 bnd (idx (Array.toList (ByteArray.data (ByteArray.mk (List.toArray (List.append (List.append [(0:UInt8),(1:UInt8),(2:UInt8),(2:UInt8),(3:UInt8),(3:UInt8),(3:UInt8),(3:UInt8),(4:UInt8),(4:UInt8),(4:UInt8),(4:UInt8),(4:UInt8),(4:UInt8),(4:UInt8),(4:UInt8),(5:UInt8),(5:UInt8),(5:UInt8),(5:UInt8),(5:UInt8),(5:UInt8),(5:UInt8),(5:UInt8),(5:UInt8),(5:UInt8),(5:UInt8),(5:UInt8),(5:UInt8),(5:UInt8),(5:UInt8),(5:UInt8),(6:UInt8),(6:UInt8),(6:UInt8),(6:UInt8),(6:UInt8),(6:UInt8),(6:UInt8),(6:UInt8),(6:UInt8),(6:UInt8),(6:UInt8),(6:UInt8),(6:UInt8),(6:UInt8),(6:UInt8),(6:UInt8),(6:UInt8),(6:UInt8),(6:UInt8),(6:UInt8),(6:UInt8),(6:UInt8),(6:UInt8),(6:UInt8),(6:UInt8),(6:UInt8),(6:UInt8),(6:UInt8),(6:UInt8),(6:UInt8),(6:UInt8),(6:UInt8)] [(7:UInt8),(7:UInt8),(7:UInt8),(7:UInt8),(7:UInt8),(7:UInt8),(7:UInt8),(7:UInt8),(7:UInt8),(7:UInt8),(7:UInt8),(7:UInt8),(7:UInt8),(7:UInt8),(7:UInt8),(7:UInt8),(7:UInt8),(7:UInt8),(7:UInt8),(7:UInt8),(7:UInt8),(7:UInt8),(7:UInt8),(7:UInt8),(7:UInt8),(7:UInt8),(7:UInt8),(7:UInt8),(7:UInt8),(7:UInt8),(7:UInt8),(7:UInt8),(7:UInt8),(7:UInt8),(7:UInt8),(7:UInt8),(7:UInt8),(7:UInt8),(7:UInt8),(7:UInt8),(7:UInt8),(7:UInt8),(7:UInt8),(7:UInt8),(7:UInt8),(7:UInt8),(7:UInt8),(7:UInt8),(7:UInt8),(7:UInt8),(7:UInt8),(7:UInt8),(7:UInt8),(7:UInt8),(7:UInt8),(7:UInt8),(7:UInt8),(7:UInt8),(7:UInt8),(7:UInt8),(7:UInt8),(7:UInt8),(7:UInt8),(7:UInt8)]) (List.append [(8:UInt8),(8:UInt8),(8:UInt8),(8:UInt8),(8:UInt8),(8:UInt8),(8:UInt8),(8:UInt8),(8:UInt8),(8:UInt8),(8:UInt8),(8:UInt8),(8:UInt8),(8:UInt8),(8:UInt8),(8:UInt8),(8:UInt8),(8:UInt8),(8:UInt8),(8:UInt8),(8:UInt8),(8:UInt8),(8:UInt8),(8:UInt8),(8:UInt8),(8:UInt8),(8:UInt8),(8:UInt8),(8:UInt8),(8:UInt8),(8:UInt8),(8:UInt8),(8:UInt8),(8:UInt8),(8:UInt8),(8:UInt8),(8:UInt8),(8:UInt8),(8:UInt8),(8:UInt8),(8:UInt8),(8:UInt8),(8:UInt8),(8:UInt8),(8:UInt8),(8:UInt8),(8:UInt8),(8:UInt8),(8:UInt8),(8:UInt8),(8:UInt8),(8:UInt8),(8:UInt8),(8:UInt8),(8:UInt8),(8:UInt8),(8:UInt8),(8:UInt8),(8:UInt8),(8:UInt8),(8:UInt8),(8:UInt8),(8:UInt8),(8:UInt8)] [(8:UInt8),(8:UInt8),(8:UInt8),(8:UInt8),(8:UInt8),(8:UInt8),(8:UInt8),(8:UInt8),(8:UInt8),(8:UInt8),(8:UInt8),(8:UInt8),(8:UInt8),(8:UInt8),(8:UInt8),(8:UInt8),(8:UInt8),(8:UInt8),(8:UInt8),(8:UInt8),(8:UInt8),(8:UInt8),(8:UInt8),(8:UInt8),(8:UInt8),(8:UInt8),(8:UInt8),(8:UInt8),(8:UInt8),(8:UInt8),(8:UInt8),(8:UInt8),(8:UInt8),(8:UInt8),(8:UInt8),(8:UInt8),(8:UInt8),(8:UInt8),(8:UInt8),(8:UInt8),(8:UInt8),(8:UInt8),(8:UInt8),(8:UInt8),(8:UInt8),(8:UInt8),(8:UInt8),(8:UInt8),(8:UInt8),(8:UInt8),(8:UInt8),(8:UInt8),(8:UInt8),(8:UInt8),(8:UInt8),(8:UInt8),(8:UInt8),(8:UInt8),(8:UInt8),(8:UInt8),(8:UInt8),(8:UInt8),(8:UInt8),(8:UInt8)])))))) (IntKind.wrap IntKind.u8 (Prod.fst y_2))) fun y_3 =>
 some (IntKind.wrap IntKind.i64 (Prod.snd y_2 + IntKind.wrap IntKind.i64 (↑(UInt8.toNat y_3):Int)))
def bits_Len64.ce:Go.Ql.Callee:=⟨[(.int .u64)],[(.int .i64)],fun x_=>bits_Len64 x_⟩
def bits_Len64.G:Env:=⟨25,tab,[],[0,2,4,8,14],[],[],[(228679,bits_Len64.c228679r),(216391,bits_Len64.c216391r),(204103,bits_Len64.c204103r)],[],tab_eqs⟩
theorem bits_Len64.eq (x_:dens bits_Len64.ce.params):den bits_Len64.G Try.f132 bits_Len64.ce.params bits_Len64.ce.res x_ = bits_Len64.ce.F x_:=by kernel_rfl
theorem bits_Len64.p0:PcA bits_Len64.G Try.f132 0 :=
 join_ok (s:=bits_Len64.c204103r) (by kernel_rfl) (by kernel_rfl) (sums_of (sh:=bits_Len64.c204103s) (fun ρ x_ k_=>(nat_br nat_leaf nat_leaf)) (fun ρ x_ t k=>(by kernel_rfl)) (fun x_=>by kernel_rfl))
theorem bits_Len64.p1:PcA bits_Len64.G Try.f132 1 :=
 join_ok (s:=bits_Len64.c216391r) (by kernel_rfl) (by kernel_rfl) (sums_of (sh:=bits_Len64.c216391s) (fun ρ x_ k_=>(nat_br nat_leaf nat_leaf)) (fun ρ x_ t k=>(by kernel_rfl)) (fun x_=>by kernel_rfl))
theorem bits_Len64.p2:PcA bits_Len64.G Try.f132 2 :=
 join_ok (s:=bits_Len64.c228679r) (by kernel_rfl) (by kernel_rfl) (sums_of (sh:=bits_Len64.c228679s) (fun ρ x_ k_=>(nat_br nat_leaf nat_leaf)) (fun ρ x_ t k=>(by kernel_rfl)) (fun x_=>by kernel_rfl))
theorem bits_Len64.ok:CalleeOk Try.prog 132 bits_Len64.ce:=fn_ok (G:=bits_Len64.G) tab_ok mixed Try.func132 ⟨fns_nil,mfns_nil,tab_eqs_ok⟩ (m:=3) (by kernel_rfl) ⟨⟨⟨trivial,bits_Len64.p0⟩,bits_Len64.p1⟩,bits_Len64.p2⟩ (by kernel_rfl) bits_Len64.eq
abbrev tb14:SD:=.one (.own 2000000 0)
abbrev tb15:SO:=.arr 0 false 143 (.sl (.pair (.int .i64) (.int .u64)))
def code_basis_rest.pre:Shape:=⟨[(0,tb14),(1,tb13)],[(2000000,tb15)]⟩
def code_basis_rest.post:Shape:=⟨[(0,tb13)],[(2000000,tb15)]⟩
def code_basis_rest.c100001 {ρ:Type} (v:Int) (t2000000:List (List (Int×Int))) (k_:Int ⊕ ((Int×Int) ⊕ Int) → Option ρ):Option ρ :=
 br (v != (0:Int))
 (bnd (W.bits_Len64 v) fun y =>
 br (!Option.isSome (mget t2000000 y))
 (k_ (.inr (.inl (v,v))))
 (k_ (.inl (ibits BinOp.xor IntKind.u64 v (mzero (mget t2000000 y))))))
 (k_ (.inr (.inr v)))
def code_basis_rest.c100001s:Shape:=⟨[(0,tb14),(1,tb13),(4,tb13)],[(2000000,tb15)]⟩
def code_basis_rest.c100001x0:Shape:=code_basis_rest.c100001s
def code_basis_rest.c100001x1:Shape:=code_basis_rest.c100001s
def code_basis_rest.c100001r:Ck:=Ck.ofLoop (S:=Int) (T:=(Int×Int) ⊕ Int) code_basis_rest.c100001s (fun x_=>x_.1) (fun ρ x_ s_ k_=>code_basis_rest.c100001 s_ x_.2.2.1 k_) (fun ρ x_ r_ k_=>sel r_ (fun r_=>k_ 1 (Shape.inj code_basis_rest.c100001x0 (r_.1,r_.2,x_.2.2))) (fun r_=>k_ 2 (Shape.inj code_basis_rest.c100001x1 (r_,x_.2))))
def code_basis_rest (v:Int) (t2000000:List (List (Int×Int))):Option (Int×(List (List (Int×Int)))×Unit) :=
 bnd (iter (fun s ↦ W.code_basis_rest.c100001 s t2000000 some) v) fun y =>
 sel y
 (fun u=>some (Prod.snd u,t2000000,()))
 (fun v_1=>some ((0:Int),t2000000,()))
def code_basis_rest.mc:MCallee:=⟨130,code_basis_rest.pre,code_basis_rest.post,fun x_=>code_basis_rest x_.1 x_.2.1⟩
def code_basis_rest.G:Env:=⟨22,tab,[(132,bits_Len64.ce)],[0,1,4,5,6,8,17],[2000000],[],[(100001,code_basis_rest.c100001r)],[],tab_eqs⟩
theorem code_basis_rest.eq (x_:densU code_basis_rest.mc.pre.tys):denM code_basis_rest.G Try.f130 code_basis_rest.mc.pre code_basis_rest.mc.post x_ = code_basis_rest.mc.F x_:=by kernel_rfl
theorem code_basis_rest.p0:PcA code_basis_rest.G Try.f130 0 :=
 loop_ok (s:=code_basis_rest.c100001r) (by kernel_rfl) (by kernel_rfl) (loops_of (sh:=code_basis_rest.c100001s) (I:=fun x_ s_=>(s_,x_.2)) (fun x_=>rfl) (fun ρ x_ s_ k_=>(nat_br (nat_bnd fun _=>(nat_br nat_leaf nat_leaf)) nat_leaf)) (fun ρ x_ t k=>(nat_sel (fun _=>(by kernel_rfl)) (fun _=>(by kernel_rfl)))) (fun x_ s=>by kernel_rfl))
theorem code_basis_rest.ok:MOk Try.prog 130 code_basis_rest.mc:=fnm_ok (G:=code_basis_rest.G) tab_ok mixed Try.func130 ⟨(fns_cons bits_Len64.ok fns_nil),mfns_nil,tab_eqs_ok⟩ (m:=1) (by kernel_rfl) ⟨trivial,code_basis_rest.p0⟩ (by kernel_rfl) code_basis_rest.eq
abbrev tb16:SD:=.one (.val (.ar 2 (.int .u64)))
def code_basis_add.pre:Shape:=⟨[(0,tb14),(1,tb16)],[(2000000,tb15)]⟩
def code_basis_add.post:Shape:=⟨[(0,tb7)],[(2000000,tb15)]⟩
def code_basis_add (p:List Int) (t2000000:List (List (Int×Int))):Option ((Bool)×(List (List (Int×Int)))×Unit) :=
 bnd (W.code_vector p) fun y =>
 bnd (W.code_basis_rest y t2000000) fun y_1 =>
 br (Prod.fst y_1 == (0:Int))
 (some (false,Prod.fst y_1.2,()))
 (bnd (W.bits_Len64 (Prod.fst y_1)) fun y_2 =>
 some (true,mput (Prod.fst y_1.2) y_2 (Prod.fst y_1),()))
def code_basis_add.mc:MCallee:=⟨108,code_basis_add.pre,code_basis_add.post,fun x_=>code_basis_add x_.1 x_.2.1⟩
def code_basis_add.G:Env:=⟨16,tab,[(131,code_vector.ce),(132,bits_Len64.ce)],[0,1,3,4,5,11],[2000000,8000003],[],[],[(130,code_basis_rest.mc)],tab_eqs⟩
theorem code_basis_add.eq (x_:densU code_basis_add.mc.pre.tys):denM code_basis_add.G Try.f108 code_basis_add.mc.pre code_basis_add.mc.post x_ = code_basis_add.mc.F x_:=by kernel_rfl
theorem code_basis_add.ok:MOk Try.prog 108 code_basis_add.mc:=fnm_ok (G:=code_basis_add.G) tab_ok mixed Try.func108 ⟨(fns_cons code_vector.ok (fns_cons bits_Len64.ok fns_nil)),(mfns_cons code_basis_rest.ok mfns_nil),tab_eqs_ok⟩ (m:=0) (by kernel_rfl) trivial (by kernel_rfl) code_basis_add.eq
def code_read_1 (t0:Int) (t1:Int):Option ((List (Int×(Int×(Bool))))×(Int×Int)) :=
 some ([],t0,t1)
def code_read_1.ce:Go.Ql.Callee:=⟨[(.int .i64),(.int .i64)],[(.sl (.st (.pair (.int .u64) (.pair (.int .u64) .bool)))),(.st (.pair (.int .i64) (.int .i64)))],fun x_=>code_read_1 x_.1 x_.2⟩
def code_read_1.G:Env:=⟨9,tab,[],[0,1,4,5],[],[],[],[],tab_eqs⟩
theorem code_read_1.eq (x_:dens code_read_1.ce.params):den code_read_1.G Try.f105 code_read_1.ce.params code_read_1.ce.res x_ = code_read_1.ce.F x_:=by kernel_rfl
theorem code_read_1.ok:CalleeOk Try.prog 105 code_read_1.ce:=fn_ok (G:=code_read_1.G) tab_ok mixed Try.func105 ⟨fns_nil,mfns_nil,tab_eqs_ok⟩ (m:=0) (by kernel_rfl) trivial (by kernel_rfl) code_read_1.eq
abbrev tb17:SD:=.one (.val (.sl (.st (.pair (.int .u64) (.pair (.int .u64) .bool)))))
abbrev tb18:SD:=.one (.fn 105)
abbrev tb19:SO:=.box [.val (.int .i64),.val (.int .i64)]
abbrev tb20:SD:=.one (.own 5 0)
abbrev tb21:SD:=.one (.val (.sl .str))
abbrev tb22:SO:=.arr 0 false 80 (.st (.pair (.int .u64) (.pair (.int .u64) .bool)))
abbrev tb23:SD:=.one (.ref 11 0)
abbrev tb24:SD:=.one (.own 91 0)
def code_read.c2 {ρ:Type} (c0:Int) (k_:Bool → Option ρ):Option ρ :=
 br (decide (c0 < (1:Int)))
 (k_ true)
 (k_ (decide (c0 > (12:Int))))
def code_read.c2s:Shape:=⟨[(0,tb0),(1,tb1),(2,tb17),(3,tb12),(4,tb18)],[(1,tb3),(3,tb19)]⟩
def code_read.c2x0:Shape:=⟨[(0,tb0),(1,tb1),(2,tb17),(3,tb12),(4,tb18),(24,tb7)],[(1,tb3),(3,tb19)]⟩
def code_read.c2r:Ck:=Ck.of (T:=Bool) code_read.c2s (fun ρ x_ k_=>code_read.c2 x_.2.2.1 k_) (fun ρ x_ r_ k_=>k_ 0 (Shape.inj code_read.c2x0 (x_.1,x_.2.1,r_,x_.2.2)))
def code_read.c100008 {ρ:Type} (t40:List (List UInt8)) (t41:Int) (t42:Int) (c0:Int) (l:List (Int×(Int×(Bool)))) (k_:(Int×(List (Int×(Int×(Bool))))) ⊕ (((List (Int×(Int×(Bool))))×Int×Int×Int×(List (Int×(Int×(Bool))))) ⊕ (Int×(List (Int×(Int×(Bool)))))) → Option ρ):Option ρ :=
 br (decide (t42 < t41))
 (bnd (idx t40 t42) fun y =>
 bnd (W.tableau_Read y c0) fun y_1 =>
 br (!Prod.snd y_1)
 (bnd (W.code_read_1 (33:Int) t42) fun y_2 =>
 k_ (.inr (.inl ((Prod.fst y_2),t42,(Prod.fst (Prod.snd y_2)),(Prod.snd (Prod.snd y_2)),l))))
 (bnd (okIf (decide ((List.length l + (1:Nat)) * (24:Nat) ≤ (140737488355328:Nat)) && decide (List.length l + (1:Nat) ≤ (140737488355328:Nat)))) fun y_3 =>
 k_ (.inl ((IntKind.wrap IntKind.i64 (t42 + (1:Int))),(l ++ [(Prod.fst (Prod.fst y_1),Prod.fst (Prod.snd (Prod.fst y_1)),Prod.snd (Prod.snd (Prod.fst y_1)))])))))
 (k_ (.inr (.inr (t42,l))))
def code_read.c100008s:Shape:=⟨[(0,tb0),(1,tb1),(2,tb17),(3,tb12),(4,tb18),(5,tb20),(40,tb21),(41,tb5),(42,tb5)],[(1,tb3),(3,tb19),(5,tb22)]⟩
def code_read.c100008x0:Shape:=code_read.c100008s
def code_read.c100008x1:Shape:=code_read.c100008s
def code_read.c100008r:Ck:=Ck.ofLoop (S:=Int×(List (Int×(Int×(Bool))))) (T:=((List (Int×(Int×(Bool))))×Int×Int×Int×(List (Int×(Int×(Bool))))) ⊕ (Int×(List (Int×(Int×(Bool)))))) code_read.c100008s (fun x_=>(x_.2.2.2.2.1,x_.2.2.2.2.2.2.2.2.2.1)) (fun ρ x_ s_ k_=>code_read.c100008 x_.2.2.1 x_.2.2.2.1 s_.1 x_.2.2.2.2.2.1 s_.2 k_) (fun ρ x_ r_ k_=>sel r_ (fun r_=>k_ 1 (Shape.inj code_read.c100008x0 (x_.1,r_.1,x_.2.2.1,x_.2.2.2.1,r_.2.1,x_.2.2.2.2.2.1,x_.2.2.2.2.2.2.1,r_.2.2.1,r_.2.2.2.1,r_.2.2.2.2,()))) (fun r_=>k_ 2 (Shape.inj code_read.c100008x1 (x_.1,x_.2.1,x_.2.2.1,x_.2.2.2.1,r_.1,x_.2.2.2.2.2.1,x_.2.2.2.2.2.2.1,x_.2.2.2.2.2.2.2.1,x_.2.2.2.2.2.2.2.2.1,r_.2,()))))
def code_read.c100019 {ρ:Type} (i:Int) (t75:List (Int×(Int×(Bool)))) (t76:Int) (t77:Int) (p0:Int) (p1:Int) (p2:Bool) (k_:Int ⊕ (((List (Int×(Int×(Bool))))×Int×Int×Int) ⊕ Int) → Option ρ):Option ρ :=
 br (decide (t77 < t76))
 (bnd (idx t75 t77) fun y =>
 bnd (W.tableau_pauli_Meets (p0,p1,p2) (Prod.fst y,Prod.fst (Prod.snd y),Prod.snd (Prod.snd y))) fun y_1 =>
 br y_1
 (bnd (W.code_read_1 (34:Int) i) fun y_2 =>
 k_ (.inr (.inl ((Prod.fst y_2),t77,(Prod.fst (Prod.snd y_2)),(Prod.snd (Prod.snd y_2))))))
 (k_ (.inl (IntKind.wrap IntKind.i64 (t77 + (1:Int))))))
 (k_ (.inr (.inr t77)))
def code_read.c100019s:Shape:=⟨[(0,tb0),(1,tb1),(2,tb17),(3,tb12),(4,tb18),(5,tb17),(10,tb5),(11,tb23),(40,tb21),(41,tb5),(42,tb5),(66,tb17),(67,tb5),(68,tb5),(75,tb17),(76,tb5),(77,tb5)],[(1,tb3),(3,tb19),(11,tb9)]⟩
def code_read.c100019x0:Shape:=code_read.c100019s
def code_read.c100019x1:Shape:=code_read.c100019s
def code_read.c100019r:Ck:=Ck.ofLoop (S:=Int) (T:=((List (Int×(Int×(Bool))))×Int×Int×Int) ⊕ Int) code_read.c100019s (fun x_=>x_.2.2.2.2.2.2.2.2.2.2.2.2.1) (fun ρ x_ s_ k_=>code_read.c100019 x_.2.2.2.1 x_.2.2.2.2.2.2.2.2.2.2.1 x_.2.2.2.2.2.2.2.2.2.2.2.1 s_ x_.2.2.2.2.2.2.2.2.2.2.2.2.2.2.2.2.2.1 x_.2.2.2.2.2.2.2.2.2.2.2.2.2.2.2.2.2.2.1 x_.2.2.2.2.2.2.2.2.2.2.2.2.2.2.2.2.2.2.2.1 k_) (fun ρ x_ r_ k_=>sel r_ (fun r_=>k_ 1 (Shape.inj code_read.c100019x0 (x_.1,r_.1,x_.2.2.1,x_.2.2.2.1,x_.2.2.2.2.1,x_.2.2.2.2.2.1,x_.2.2.2.2.2.2.1,x_.2.2.2.2.2.2.2.1,x_.2.2.2.2.2.2.2.2.1,x_.2.2.2.2.2.2.2.2.2.1,x_.2.2.2.2.2.2.2.2.2.2.1,x_.2.2.2.2.2.2.2.2.2.2.2.1,r_.2.1,x_.2.2.2.2.2.2.2.2.2.2.2.2.2.1,x_.2.2.2.2.2.2.2.2.2.2.2.2.2.2.1,r_.2.2.1,r_.2.2.2,x_.2.2.2.2.2.2.2.2.2.2.2.2.2.2.2.2.2))) (fun r_=>k_ 6 (Shape.inj code_read.c100019x1 (x_.1,x_.2.1,x_.2.2.1,x_.2.2.2.1,x_.2.2.2.2.1,x_.2.2.2.2.2.1,x_.2.2.2.2.2.2.1,x_.2.2.2.2.2.2.2.1,x_.2.2.2.2.2.2.2.2.1,x_.2.2.2.2.2.2.2.2.2.1,x_.2.2.2.2.2.2.2.2.2.2.1,x_.2.2.2.2.2.2.2.2.2.2.2.1,r_,x_.2.2.2.2.2.2.2.2.2.2.2.2.2))))
def code_read.c100016 {ρ:Type} (l:List (Int×(Int×(Bool)))) (t66:List (Int×(Int×(Bool)))) (t67:Int) (t68:Int) (k_:Int ⊕ (((List (Int×(Int×(Bool))))×Int×Int×Int) ⊕ Int) → Option ρ):Option ρ :=
 br (decide (t68 < t67))
 (bnd (idx t66 t68) fun y =>
 bnd (okIf (decide ((0:Int) ≤ t68) && decide (t68 ≤ (↑(List.length l):Int)))) fun y_1 =>
 bnd (iter (fun s ↦ W.code_read.c100019 t68 (List.take (Int.toNat t68) l) (↑(List.length (List.take (Int.toNat t68) l)):Int) s (Prod.fst y) (Prod.fst (Prod.snd y)) (Prod.snd (Prod.snd y)) some) (0:Int)) fun y_2 =>
 sel y_2
 (fun u=>k_ (.inr (.inl ((Prod.fst u),t68,(Prod.fst (Prod.snd (Prod.snd u))),(Prod.snd (Prod.snd (Prod.snd u)))))))
 (fun v=>k_ (.inl (IntKind.wrap IntKind.i64 (t68 + (1:Int))))))
 (k_ (.inr (.inr t68)))
def code_read.c100016s:Shape:=⟨[(0,tb0),(1,tb1),(2,tb17),(3,tb12),(4,tb18),(5,tb17),(40,tb21),(41,tb5),(42,tb5),(66,tb17),(67,tb5),(68,tb5)],[(1,tb3),(3,tb19)]⟩
def code_read.c100016x0:Shape:=code_read.c100016s
def code_read.c100016x1:Shape:=code_read.c100016s
def code_read.c100016r:Ck:=Ck.ofLoop (S:=Int) (T:=((List (Int×(Int×(Bool))))×Int×Int×Int) ⊕ Int) code_read.c100016s (fun x_=>x_.2.2.2.2.2.2.2.2.1) (fun ρ x_ s_ k_=>code_read.c100016 x_.2.2.1 x_.2.2.2.2.2.2.1 x_.2.2.2.2.2.2.2.1 s_ k_) (fun ρ x_ r_ k_=>sel r_ (fun r_=>k_ 1 (Shape.inj code_read.c100016x0 (x_.1,r_.1,x_.2.2.1,x_.2.2.2.1,x_.2.2.2.2.1,x_.2.2.2.2.2.1,x_.2.2.2.2.2.2.1,x_.2.2.2.2.2.2.2.1,r_.2.1,x_.2.2.2.2.2.2.2.2.2.1,x_.2.2.2.2.2.2.2.2.2.2.1,r_.2.2.1,r_.2.2.2,()))) (fun r_=>k_ 4 (Shape.inj code_read.c100016x1 (x_.1,x_.2.1,x_.2.2.1,x_.2.2.2.1,x_.2.2.2.2.1,x_.2.2.2.2.2.1,x_.2.2.2.2.2.2.1,x_.2.2.2.2.2.2.2.1,r_,x_.2.2.2.2.2.2.2.2.2))))
def code_read.c100027 {ρ:Type} (t92:List (Int×(Int×(Bool)))) (t93:Int) (t94:Int) (t91:List (List (Int×Int))) (k_:(Int×(List (List (Int×Int)))) ⊕ (((List (Int×(Int×(Bool))))×Int×Int×Int×(List (List (Int×Int)))) ⊕ (Int×(List (List (Int×Int))))) → Option ρ):Option ρ :=
 br (decide (t94 < t93))
 (bnd (idx t92 t94) fun y =>
 bnd (W.tableau_pauli_Bare (Prod.fst y,Prod.fst (Prod.snd y),Prod.snd (Prod.snd y))) fun y_1 =>
 bnd (W.code_basis_add y_1 t91) fun y_2 =>
 br (!Prod.fst y_2)
 (bnd (W.code_read_1 (35:Int) t94) fun y_3 =>
 k_ (.inr (.inl ((Prod.fst y_3),t94,(Prod.fst (Prod.snd y_3)),(Prod.snd (Prod.snd y_3)),(Prod.fst y_2.2)))))
 (k_ (.inl ((IntKind.wrap IntKind.i64 (t94 + (1:Int))),(Prod.fst y_2.2)))))
 (k_ (.inr (.inr (t94,t91))))
def code_read.c100027s:Shape:=⟨[(0,tb0),(1,tb1),(2,tb17),(3,tb12),(4,tb18),(5,tb17),(14,tb24),(40,tb21),(41,tb5),(42,tb5),(66,tb17),(67,tb5),(68,tb5),(92,tb17),(93,tb5),(94,tb5)],[(1,tb3),(3,tb19),(91,tb15)]⟩
def code_read.c100027x0:Shape:=code_read.c100027s
def code_read.c100027x1:Shape:=code_read.c100027s
def code_read.c100027r:Ck:=Ck.ofLoop (S:=Int×(List (List (Int×Int)))) (T:=((List (Int×(Int×(Bool))))×Int×Int×Int×(List (List (Int×Int)))) ⊕ (Int×(List (List (Int×Int))))) code_read.c100027s (fun x_=>(x_.2.2.2.2.2.2.2.2.2.2.2.1,x_.2.2.2.2.2.2.2.2.2.2.2.2.2.2.2.2.1)) (fun ρ x_ s_ k_=>code_read.c100027 x_.2.2.2.2.2.2.2.2.2.1 x_.2.2.2.2.2.2.2.2.2.2.1 s_.1 s_.2 k_) (fun ρ x_ r_ k_=>uP x_ fun c x_=>uP x_ fun t2 x_=>uP x_ fun l x_=>uP x_ fun t40 x_=>uP x_ fun t41 x_=>uP x_ fun t42 x_=>uP x_ fun t66 x_=>uP x_ fun t67 x_=>uP x_ fun t68 x_=>uP x_ fun t92 x_=>uP x_ fun t93 x_=>uP x_ fun t94 x_=>uP x_ fun c0 x_=>uP x_ fun c1 x_=>uP x_ fun t30 x_=>uP x_ fun t31 x_=>uP x_ fun t91 x_=>sel r_ (fun r_=>k_ 1 (Shape.inj code_read.c100027x0 (c,r_.1,l,t40,t41,t42,t66,t67,t68,t92,t93,r_.2.1,c0,c1,r_.2.2.1,r_.2.2.2.1,r_.2.2.2.2,()))) (fun r_=>k_ 8 (Shape.inj code_read.c100027x1 (c,t2,l,t40,t41,t42,t66,t67,t68,t92,t93,r_.1,c0,c1,t30,t31,r_.2,()))))
def code_read (c:Int×(List (List UInt8))):Option ((List (Int×(Int×(Bool))))×(Int×Int)) :=
 bnd (W.code_read.c2 (Prod.fst c) some) fun y =>
 br y
 (bnd (W.code_read_1 (6:Int) (0:Int)) fun y_1 =>
 some (Prod.fst y_1,Prod.fst (Prod.snd y_1),Prod.snd (Prod.snd y_1)))
 (br (decide ((↑(List.length (Prod.snd c)):Int) > Prod.fst c))
 (bnd (W.code_read_1 (21:Int) (0:Int)) fun y_2 =>
 some (Prod.fst y_2,Prod.fst (Prod.snd y_2),Prod.snd (Prod.snd y_2)))
 (bnd (iter (fun s ↦ W.code_read.c100008 (Prod.snd c) (↑(List.length (Prod.snd c)):Int) (Prod.fst s) (Prod.fst c) (Prod.snd s) some) ((0:Int),[])) fun y_3 =>
 sel y_3
 (fun u=>some (Prod.fst u,Prod.fst (Prod.snd (Prod.snd u)),Prod.fst (Prod.snd (Prod.snd (Prod.snd u)))))
 (fun v=>bnd (iter (fun s ↦ W.code_read.c100016 (Prod.snd v) (Prod.snd v) (↑(List.length (Prod.snd v)):Int) s some) (0:Int)) fun y_4 =>
 sel y_4
 (fun u_1=>some (Prod.fst u_1,Prod.fst (Prod.snd (Prod.snd u_1)),Prod.snd (Prod.snd (Prod.snd u_1))))
 (fun v_1=>bnd (iter (fun s ↦ W.code_read.c100027 (Prod.snd v) (↑(List.length (Prod.snd v)):Int) (Prod.fst s) (Prod.snd s) some) ((0:Int),mempty)) fun y_5 =>
 sel y_5
 (fun u_2=>some (Prod.fst u_2,Prod.fst (Prod.snd (Prod.snd u_2)),Prod.fst (Prod.snd (Prod.snd (Prod.snd u_2)))))
 (fun v_2=>some (Prod.snd v,(0:Int),(0:Int)))))))
def code_read.ce:Go.Ql.Callee:=⟨[(.st (.pair (.int .i64) (.sl .str)))],[(.sl (.st (.pair (.int .u64) (.pair (.int .u64) .bool)))),(.st (.pair (.int .i64) (.int .i64)))],fun x_=>code_read x_⟩
def code_read.G:Env:=⟨112,tab,[(106,tableau_Read.ce),(107,tableau_pauli_Meets.ce),(109,tableau_pauli_Bare.ce),(105,code_read_1.ce)],[0,1,2,3,4,5,6,7,8,9,10,11,13,14,15,16,24,34,40,41,42,43,55,66,67,68,69,75,76,77,78,83,92,93,94,95,103],[5,91,5000066],[],[(100027,code_read.c100027r),(100016,code_read.c100016r),(100019,code_read.c100019r),(100008,code_read.c100008r),(2,code_read.c2r)],[(108,code_basis_add.mc)],tab_eqs⟩
theorem code_read.eq (x_:dens code_read.ce.params):den code_read.G Try.f70 code_read.ce.params code_read.ce.res x_ = code_read.ce.F x_:=by kernel_rfl
theorem code_read.p0:PcA code_read.G Try.f70 0 :=
 region_ok (s:=code_read.c2r) (by kernel_rfl) (by kernel_rfl) (sums_of (sh:=code_read.c2s) (fun ρ x_ k_=>(nat_br nat_leaf nat_leaf)) (fun ρ x_ t k=>(by kernel_rfl)) (fun x_=>by kernel_rfl))
theorem code_read.p1:PcA code_read.G Try.f70 1 :=
 loop_ok (s:=code_read.c100008r) (by kernel_rfl) (by kernel_rfl) (loops_of (sh:=code_read.c100008s) (I:=fun x_ s_=>(x_.1,x_.2.1,x_.2.2.1,x_.2.2.2.1,s_.1,x_.2.2.2.2.2.1,x_.2.2.2.2.2.2.1,x_.2.2.2.2.2.2.2.1,x_.2.2.2.2.2.2.2.2.1,s_.2,())) (fun x_=>rfl) (fun ρ x_ s_ k_=>(nat_br (nat_bnd fun _=>(nat_bnd fun _=>(nat_br (nat_bnd fun _=>nat_leaf) (nat_bnd fun _=>nat_leaf)))) nat_leaf)) (fun ρ x_ t k=>(nat_sel (fun _=>(by kernel_rfl)) (fun _=>(by kernel_rfl)))) (fun x_ s=>by kernel_rfl))
theorem code_read.p2:PcA code_read.G Try.f70 2 :=
 loop_ok (s:=code_read.c100016r) (by kernel_rfl) (by kernel_rfl) (loops_of (sh:=code_read.c100016s) (I:=fun x_ s_=>(x_.1,x_.2.1,x_.2.2.1,x_.2.2.2.1,x_.2.2.2.2.1,x_.2.2.2.2.2.1,x_.2.2.2.2.2.2.1,x_.2.2.2.2.2.2.2.1,s_,x_.2.2.2.2.2.2.2.2.2)) (fun x_=>rfl) (fun ρ x_ s_ k_=>(nat_br (nat_bnd fun _=>(nat_bnd fun _=>(nat_bnd fun _=>(nat_sel (fun _=>nat_leaf) (fun _=>nat_leaf))))) nat_leaf)) (fun ρ x_ t k=>(nat_sel (fun _=>(by kernel_rfl)) (fun _=>(by kernel_rfl)))) (fun x_ s=>by kernel_rfl))
theorem code_read.p3:PcA code_read.G Try.f70 3 :=
 loop_ok (s:=code_read.c100019r) (by kernel_rfl) (by kernel_rfl) (loops_of (sh:=code_read.c100019s) (I:=fun x_ s_=>(x_.1,x_.2.1,x_.2.2.1,x_.2.2.2.1,x_.2.2.2.2.1,x_.2.2.2.2.2.1,x_.2.2.2.2.2.2.1,x_.2.2.2.2.2.2.2.1,x_.2.2.2.2.2.2.2.2.1,x_.2.2.2.2.2.2.2.2.2.1,x_.2.2.2.2.2.2.2.2.2.2.1,x_.2.2.2.2.2.2.2.2.2.2.2.1,s_,x_.2.2.2.2.2.2.2.2.2.2.2.2.2)) (fun x_=>rfl) (fun ρ x_ s_ k_=>(nat_br (nat_bnd fun _=>(nat_bnd fun _=>(nat_br (nat_bnd fun _=>nat_leaf) nat_leaf))) nat_leaf)) (fun ρ x_ t k=>(nat_sel (fun _=>(by kernel_rfl)) (fun _=>(by kernel_rfl)))) (fun x_ s=>by kernel_rfl))
theorem code_read.p4:PcA code_read.G Try.f70 4 :=
 loop_ok (s:=code_read.c100027r) (by kernel_rfl) (by kernel_rfl) (loops_of (sh:=code_read.c100027s) (I:=fun x_ s_=>(x_.1,x_.2.1,x_.2.2.1,x_.2.2.2.1,x_.2.2.2.2.1,x_.2.2.2.2.2.1,x_.2.2.2.2.2.2.1,x_.2.2.2.2.2.2.2.1,x_.2.2.2.2.2.2.2.2.1,x_.2.2.2.2.2.2.2.2.2.1,x_.2.2.2.2.2.2.2.2.2.2.1,s_.1,x_.2.2.2.2.2.2.2.2.2.2.2.2.1,x_.2.2.2.2.2.2.2.2.2.2.2.2.2.1,x_.2.2.2.2.2.2.2.2.2.2.2.2.2.2.1,x_.2.2.2.2.2.2.2.2.2.2.2.2.2.2.2.1,s_.2,())) (fun x_=>rfl) (fun ρ x_ s_ k_=>(nat_br (nat_bnd fun _=>(nat_bnd fun _=>(nat_bnd fun _=>(nat_br (nat_bnd fun _=>nat_leaf) nat_leaf)))) nat_leaf)) (fun ρ x_ t k=>(nat_sel (fun _=>(by kernel_rfl)) (fun _=>(by kernel_rfl)))) (fun x_ s=>by kernel_rfl))
theorem code_read.ok:CalleeOk Try.prog 70 code_read.ce:=fn_ok (G:=code_read.G) tab_ok mixed Try.func70 ⟨(fns_cons tableau_Read.ok (fns_cons tableau_pauli_Meets.ok (fns_cons tableau_pauli_Bare.ok (fns_cons code_read_1.ok fns_nil)))),(mfns_cons code_basis_add.ok mfns_nil),tab_eqs_ok⟩ (m:=5) (by kernel_rfl) ⟨⟨⟨⟨⟨trivial,code_read.p0⟩,code_read.p1⟩,code_read.p2⟩,code_read.p3⟩,code_read.p4⟩ (by kernel_rfl) code_read.eq
abbrev tb25:SD:=.one (.val (.st (.pair (.int .i64) (.pair (.int .i64) (.pair (.sl (.int .i64)) (.pair (.int .i64) (.pair (.int .i64) (.sl (.int .i64)))))))))
abbrev tb26:SO:=.box [.val (.int .i64),.val (.int .i64),.val (.sl (.int .i64)),.val (.int .i64),.val (.int .i64),.val (.sl (.int .i64))]
abbrev tb27:SD:=.one (.ref 8 0)
def tableau_pauli_gate_b.self.pre:Shape:=⟨[(0,tb11),(1,tb25)],[]⟩
def tableau_pauli_gate_b.self.post:Shape:=⟨[(0,tb11)],[]⟩
class tableau_pauli_gate_b.Self where
 F:densU tableau_pauli_gate_b.self.pre.tys → Option (densU tableau_pauli_gate_b.self.post.tys)
 ok:MOk Try.prog 57 ⟨57,tableau_pauli_gate_b.self.pre,tableau_pauli_gate_b.self.post,F⟩
section
variable [tableau_pauli_gate_b.Self]
def tableau_pauli_gate_b.self (x_:densU tableau_pauli_gate_b.self.pre.tys):Option (densU tableau_pauli_gate_b.self.post.tys):=tableau_pauli_gate_b.Self.F x_
def tableau_pauli_gate_b.self.mc:MCallee:=⟨57,tableau_pauli_gate_b.self.pre,tableau_pauli_gate_b.self.post,fun x_=>tableau_pauli_gate_b.self x_⟩
theorem tableau_pauli_gate_b.self.ok:MOk Try.prog 57 tableau_pauli_gate_b.self.mc:=tableau_pauli_gate_b.Self.ok
def tableau_pauli_gate_b.pre:Shape:=⟨[(0,tb11),(1,tb25)],[]⟩
def tableau_pauli_gate_b.post:Shape:=⟨[(0,tb11)],[]⟩
def tableau_pauli_gate_b.c2 {ρ:Type} (q:Int) (k_:Unit → Option ρ):Option ρ :=
 bnd (okIf (decide ((0:Int) ≤ q))) fun y =>
 bnd (okIf (decide ((0:Int) ≤ q))) fun y_1 =>
 k_ ()
def tableau_pauli_gate_b.c2s:Shape:=⟨[(0,tb11),(1,tb25),(2,tb2),(3,tb12),(4,tb6),(5,tb13)],[(2,tb9),(3,tb26),(4,tb9)]⟩
def tableau_pauli_gate_b.c2x0:Shape:=⟨[(0,tb11),(1,tb25),(2,tb2),(3,tb12),(4,tb6),(5,tb13),(6,tb13),(7,tb13)],[(2,tb9),(3,tb26),(4,tb9)]⟩
def tableau_pauli_gate_b.c2r:Ck:=Ck.of (T:=Unit) tableau_pauli_gate_b.c2s (fun ρ x_ k_=>tableau_pauli_gate_b.c2 x_.2.2.1 k_) (fun ρ x_ r_ k_=>k_ 0 (Shape.inj tableau_pauli_gate_b.c2x0 (x_.1,x_.2.1,x_.2.2.1,(ibits BinOp.and IntKind.u64 (Int.fdiv x_.2.2.2.1 ((2:Int) ^ Min.min (Int.toNat x_.2.2.1) (64:Nat))) (1:Int)),(ibits BinOp.and IntKind.u64 (Int.fdiv x_.2.2.2.2.1 ((2:Int) ^ Min.min (Int.toNat x_.2.2.1) (64:Nat))) (1:Int)),x_.2.2.2)))
def tableau_pauli_gate_b.c216391 {ρ:Type} (q:Int) (x:Int) (z:Int) (p0:Int) (p1:Int) (k_:Int×Int → Option ρ):Option ρ :=
 br (x != z)
 (bnd (okIf (decide ((0:Int) ≤ q))) fun y =>
 bnd (okIf (decide ((0:Int) ≤ q))) fun y_1 =>
 k_ ((ibits BinOp.xor IntKind.u64 p0 (IntKind.wrap IntKind.u64 ((1:Int) * (2:Int) ^ Min.min (Int.toNat q) (64:Nat)))),(ibits BinOp.xor IntKind.u64 p1 (IntKind.wrap IntKind.u64 ((1:Int) * (2:Int) ^ Min.min (Int.toNat q) (64:Nat))))))
 (k_ (p0,p1))
def tableau_pauli_gate_b.c216391s:Shape:=tableau_pauli_gate_b.c2x0
def tableau_pauli_gate_b.c216391x0:Shape:=tableau_pauli_gate_b.c2x0
def tableau_pauli_gate_b.c216391r:Ck:=Ck.of (T:=Int×Int) tableau_pauli_gate_b.c216391s (fun ρ x_ k_=>tableau_pauli_gate_b.c216391 x_.2.2.1 x_.2.2.2.1 x_.2.2.2.2.1 x_.2.2.2.2.2.1 x_.2.2.2.2.2.2.1 k_) (fun ρ x_ r_ k_=>k_ 0 (Shape.inj tableau_pauli_gate_b.c216391x0 (x_.1,x_.2.1,x_.2.2.1,x_.2.2.2.1,x_.2.2.2.2.1,r_.1,r_.2,x_.2.2.2.2.2.2.2)))
def tableau_pauli_gate_b.c8 {ρ:Type} (o0:Int) (o2:List Int) (k_:Bool → Option ρ):Option ρ :=
 br (o0 == (4:Int))
 (k_ ((↑(List.length o2):Int) == (0:Int)))
 (k_ false)
def tableau_pauli_gate_b.c8s:Shape:=tableau_pauli_gate_b.c2x0
def tableau_pauli_gate_b.c8x0:Shape:=⟨[(0,tb11),(1,tb25),(2,tb2),(3,tb12),(4,tb6),(5,tb13),(6,tb13),(7,tb13),(52,tb7)],[(2,tb9),(3,tb26),(4,tb9)]⟩
def tableau_pauli_gate_b.c8r:Ck:=Ck.of (T:=Bool) tableau_pauli_gate_b.c8s (fun ρ x_ k_=>tableau_pauli_gate_b.c8 x_.2.2.2.2.2.2.2.2.1 x_.2.2.2.2.2.2.2.2.2.2.1 k_) (fun ρ x_ r_ k_=>k_ 0 (Shape.inj tableau_pauli_gate_b.c8x0 (x_.1,x_.2.1,x_.2.2.1,x_.2.2.2.1,x_.2.2.2.2.1,r_,x_.2.2.2.2.2)))
def tableau_pauli_gate_b.c11 {ρ:Type} (q:Int) (k_:Unit → Option ρ):Option ρ :=
 bnd (okIf (decide ((0:Int) ≤ q))) fun y =>
 bnd (okIf (decide ((0:Int) ≤ q))) fun y_1 =>
 k_ ()
def tableau_pauli_gate_b.c11s:Shape:=⟨[(0,tb11),(1,tb25),(2,tb2),(3,tb12),(4,tb6),(5,tb13),(6,tb13),(7,tb13),(64,tb5),(65,tb5)],[(2,tb9),(3,tb26),(4,tb9)]⟩
def tableau_pauli_gate_b.c11x0:Shape:=tableau_pauli_gate_b.c11s
def tableau_pauli_gate_b.c11r:Ck:=Ck.of (T:=Unit) tableau_pauli_gate_b.c11s (fun ρ x_ k_=>tableau_pauli_gate_b.c11 x_.2.2.1 k_) (fun ρ x_ r_ k_=>k_ 0 (Shape.inj tableau_pauli_gate_b.c11x0 (x_.1,x_.2.1,x_.2.2.1,(ibits BinOp.and IntKind.u64 (Int.fdiv x_.2.2.2.2.2.2.2.1 ((2:Int) ^ Min.min (Int.toNat x_.2.2.1) (64:Nat))) (1:Int)),(ibits BinOp.and IntKind.u64 (Int.fdiv x_.2.2.2.2.2.2.2.2.1 ((2:Int) ^ Min.min (Int.toNat x_.2.2.1) (64:Nat))) (1:Int)),x_.2.2.2.2.2)))
def tableau_pauli_gate_b.c100010 {ρ:Type} (q:Int) (x:Int) (z:Int) (t64:Int) (t65:Int) (p0:Int) (p1:Int) (p2:Bool) (k_:(Int×Int×Int×Int×(Bool)) ⊕ (Int×Int×Int×Int×(Bool)) → Option ρ):Option ρ :=
 br (decide (t65 < t64))
 (bnd (W.tableau_pauli_gate_b.c11 q some) fun y =>
 bnd (okIf (decide ((0:Int) ≤ q))) fun y_1 =>
 k_ (.inl ((ibits BinOp.and IntKind.u64 (Int.fdiv p0 ((2:Int) ^ Min.min (Int.toNat q) (64:Nat))) (1:Int)),(ibits BinOp.and IntKind.u64 (Int.fdiv p1 ((2:Int) ^ Min.min (Int.toNat q) (64:Nat))) (1:Int)),(IntKind.wrap IntKind.i64 (t65 + (1:Int))),(ibits BinOp.xor IntKind.u64 p1 (IntKind.wrap IntKind.u64 (ibits BinOp.and IntKind.u64 (Int.fdiv p0 ((2:Int) ^ Min.min (Int.toNat q) (64:Nat))) (1:Int) * (2:Int) ^ Min.min (Int.toNat q) (64:Nat)))),(!p2 == (ibits BinOp.and IntKind.u64 (ibits BinOp.and IntKind.u64 (Int.fdiv p0 ((2:Int) ^ Min.min (Int.toNat q) (64:Nat))) (1:Int)) (ibits BinOp.and IntKind.u64 (Int.fdiv p1 ((2:Int) ^ Min.min (Int.toNat q) (64:Nat))) (1:Int)) == (1:Int))))))
 (k_ (.inr (x,z,t65,p1,p2)))
def tableau_pauli_gate_b.c100010s:Shape:=tableau_pauli_gate_b.c11s
def tableau_pauli_gate_b.c100010x0:Shape:=tableau_pauli_gate_b.c11s
def tableau_pauli_gate_b.c100010r:Ck:=Ck.ofLoop (S:=Int×Int×Int×Int×(Bool)) (T:=Int×Int×Int×Int×(Bool)) tableau_pauli_gate_b.c100010s (fun x_=>(x_.2.2.2.1,x_.2.2.2.2.1,x_.2.2.2.2.2.2.1,x_.2.2.2.2.2.2.2.2.1,x_.2.2.2.2.2.2.2.2.2.1)) (fun ρ x_ s_ k_=>tableau_pauli_gate_b.c100010 x_.2.2.1 s_.1 s_.2.1 x_.2.2.2.2.2.1 s_.2.2.1 x_.2.2.2.2.2.2.2.1 s_.2.2.2.1 s_.2.2.2.2 k_) (fun ρ x_ r_ k_=>k_ 3 (Shape.inj tableau_pauli_gate_b.c100010x0 (x_.1,x_.2.1,x_.2.2.1,r_.1,r_.2.1,x_.2.2.2.2.2.1,r_.2.2.1,x_.2.2.2.2.2.2.2.1,r_.2.2.2.1,r_.2.2.2.2,x_.2.2.2.2.2.2.2.2.2.2)))
def tableau_pauli_gate_b.c15 {ρ:Type} (o0:Int) (o1:Int) (k_:Bool → Option ρ):Option ρ :=
 br (o0 == (4:Int))
 (k_ (o1 == (8:Int)))
 (k_ false)
def tableau_pauli_gate_b.c15s:Shape:=tableau_pauli_gate_b.c2x0
def tableau_pauli_gate_b.c15x0:Shape:=⟨[(0,tb11),(1,tb25),(2,tb2),(3,tb12),(4,tb6),(5,tb13),(6,tb13),(7,tb13),(93,tb7)],[(2,tb9),(3,tb26),(4,tb9)]⟩
def tableau_pauli_gate_b.c15r:Ck:=Ck.of (T:=Bool) tableau_pauli_gate_b.c15s (fun ρ x_ k_=>tableau_pauli_gate_b.c15 x_.2.2.2.2.2.2.2.2.1 x_.2.2.2.2.2.2.2.2.2.1 k_) (fun ρ x_ r_ k_=>k_ 0 (Shape.inj tableau_pauli_gate_b.c15x0 (x_.1,x_.2.1,x_.2.2.1,x_.2.2.2.1,x_.2.2.2.2.1,r_,x_.2.2.2.2.2)))
def tableau_pauli_gate_b.c17 {ρ:Type} (p0:Int) (p1:Int) (p2:Bool) (o2:List Int) (o3:Int) (h0:Int) (h1:Int) (h2:List Int) (h3:Int) (h4:Int) (h5:List Int) (k_:Int×Int×(Bool) → Option ρ):Option ρ :=
 bnd (W.tableau_pauli_gate_b.self ((p0,p1,p2),(h0,h1,h2,h3,h4,h5),())) fun y =>
 bnd (W.tableau_pauli_gate_b.self (Prod.fst y,((2:Int),(0:Int),o2,o3,(0:Int),[]),())) fun y_1 =>
 bnd (W.tableau_pauli_gate_b.self (Prod.fst y_1,(h0,h1,h2,h3,h4,h5),())) fun y_2 =>
 k_ ((Prod.fst (Prod.fst y_2)),(Prod.fst (Prod.snd (Prod.fst y_2))),(Prod.snd (Prod.snd (Prod.fst y_2))))
def tableau_pauli_gate_b.c17s:Shape:=⟨[(0,tb11),(1,tb25),(2,tb2),(3,tb12),(4,tb6),(5,tb13),(6,tb13),(7,tb13),(8,tb27)],[(2,tb9),(3,tb26),(4,tb9),(8,tb26)]⟩
def tableau_pauli_gate_b.c17x0:Shape:=tableau_pauli_gate_b.c17s
def tableau_pauli_gate_b.c17r:Ck:=Ck.of (T:=Int×Int×(Bool)) tableau_pauli_gate_b.c17s (fun ρ x_ k_=>tableau_pauli_gate_b.c17 x_.2.2.2.2.2.1 x_.2.2.2.2.2.2.1 x_.2.2.2.2.2.2.2.1 x_.2.2.2.2.2.2.2.2.2.2.1 x_.2.2.2.2.2.2.2.2.2.2.2.1 x_.2.2.2.2.2.2.2.2.2.2.2.2.2.2.2.2.2.1 x_.2.2.2.2.2.2.2.2.2.2.2.2.2.2.2.2.2.2.1 x_.2.2.2.2.2.2.2.2.2.2.2.2.2.2.2.2.2.2.2.1 x_.2.2.2.2.2.2.2.2.2.2.2.2.2.2.2.2.2.2.2.2.1 x_.2.2.2.2.2.2.2.2.2.2.2.2.2.2.2.2.2.2.2.2.2.1 x_.2.2.2.2.2.2.2.2.2.2.2.2.2.2.2.2.2.2.2.2.2.2.1 k_) (fun ρ x_ r_ k_=>k_ 0 (Shape.inj tableau_pauli_gate_b.c17x0 (x_.1,x_.2.1,x_.2.2.1,x_.2.2.2.1,x_.2.2.2.2.1,r_.1,r_.2.1,r_.2.2,x_.2.2.2.2.2.2.2.2)))
def tableau_pauli_gate_b.c18 {ρ:Type} (o0:Int) (o2:List Int) (k_:Bool → Option ρ):Option ρ :=
 br (o0 == (2:Int))
 (k_ ((↑(List.length o2):Int) == (0:Int)))
 (k_ false)
def tableau_pauli_gate_b.c18s:Shape:=tableau_pauli_gate_b.c2x0
def tableau_pauli_gate_b.c18x0:Shape:=⟨[(0,tb11),(1,tb25),(2,tb2),(3,tb12),(4,tb6),(5,tb13),(6,tb13),(7,tb13),(116,tb7)],[(2,tb9),(3,tb26),(4,tb9)]⟩
def tableau_pauli_gate_b.c18r:Ck:=Ck.of (T:=Bool) tableau_pauli_gate_b.c18s (fun ρ x_ k_=>tableau_pauli_gate_b.c18 x_.2.2.2.2.2.2.2.2.1 x_.2.2.2.2.2.2.2.2.2.2.1 k_) (fun ρ x_ r_ k_=>k_ 0 (Shape.inj tableau_pauli_gate_b.c18x0 (x_.1,x_.2.1,x_.2.2.1,x_.2.2.2.1,x_.2.2.2.2.1,r_,x_.2.2.2.2.2)))
def tableau_pauli_gate_b.c22 {ρ:Type} (c:Int) (k_:Unit → Option ρ):Option ρ :=
 bnd (okIf (decide ((0:Int) ≤ c))) fun y =>
 bnd (okIf (decide ((0:Int) ≤ c))) fun y_1 =>
 k_ ()
def tableau_pauli_gate_b.c22s:Shape:=⟨[(0,tb11),(1,tb25),(2,tb2),(3,tb12),(4,tb6),(5,tb13),(6,tb13),(7,tb13),(9,tb13)],[(2,tb9),(3,tb26),(4,tb9)]⟩
def tableau_pauli_gate_b.c22x0:Shape:=⟨[(0,tb11),(1,tb25),(2,tb2),(3,tb12),(4,tb6),(5,tb13),(6,tb13),(7,tb13),(9,tb13),(10,tb13),(11,tb13)],[(2,tb9),(3,tb26),(4,tb9)]⟩
def tableau_pauli_gate_b.c22r:Ck:=Ck.of (T:=Unit) tableau_pauli_gate_b.c22s (fun ρ x_ k_=>tableau_pauli_gate_b.c22 x_.2.2.2.2.2.1 k_) (fun ρ x_ r_ k_=>k_ 0 (Shape.inj tableau_pauli_gate_b.c22x0 (x_.1,x_.2.1,x_.2.2.1,x_.2.2.2.1,x_.2.2.2.2.1,x_.2.2.2.2.2.1,(ibits BinOp.and IntKind.u64 (Int.fdiv x_.2.2.2.2.2.2.1 ((2:Int) ^ Min.min (Int.toNat x_.2.2.2.2.2.1) (64:Nat))) (1:Int)),(ibits BinOp.and IntKind.u64 (Int.fdiv x_.2.2.2.2.2.2.2.1 ((2:Int) ^ Min.min (Int.toNat x_.2.2.2.2.2.1) (64:Nat))) (1:Int)),x_.2.2.2.2.2.2)))
def tableau_pauli_gate_b.c23 {ρ:Type} (x:Int) (z:Int) (cx:Int) (cz:Int) (p2:Bool) (k_:Bool → Option ρ):Option ρ :=
 br (ibits BinOp.and IntKind.u64 cx z == (1:Int))
 (k_ (!p2 == (x == cz)))
 (k_ (!p2 == false))
def tableau_pauli_gate_b.c23s:Shape:=tableau_pauli_gate_b.c22x0
def tableau_pauli_gate_b.c23x0:Shape:=tableau_pauli_gate_b.c22x0
def tableau_pauli_gate_b.c23r:Ck:=Ck.of (T:=Bool) tableau_pauli_gate_b.c23s (fun ρ x_ k_=>tableau_pauli_gate_b.c23 x_.2.2.2.1 x_.2.2.2.2.1 x_.2.2.2.2.2.2.1 x_.2.2.2.2.2.2.2.1 x_.2.2.2.2.2.2.2.2.2.2.1 k_) (fun ρ x_ r_ k_=>k_ 0 (Shape.inj tableau_pauli_gate_b.c23x0 (x_.1,x_.2.1,x_.2.2.1,x_.2.2.2.1,x_.2.2.2.2.1,x_.2.2.2.2.2.1,x_.2.2.2.2.2.2.1,x_.2.2.2.2.2.2.2.1,x_.2.2.2.2.2.2.2.2.1,x_.2.2.2.2.2.2.2.2.2.1,r_,x_.2.2.2.2.2.2.2.2.2.2.2)))
def tableau_pauli_gate_b.c212345 {ρ:Type} (q:Int) (x:Int) (z:Int) (p0:Int) (p1:Int) (p2:Bool) (o0:Int) (o1:Int) (o2:List Int) (o3:Int) (k_:Int×Int×Int×Int×(Bool) → Option ρ):Option ρ :=
 br (o0 == (3:Int))
 (bnd (W.tableau_pauli_gate_b.c216391 q x z p0 p1 some) fun y =>
 k_ (x,z,(Prod.fst y),(Prod.snd y),(!p2 == (ibits BinOp.and IntKind.u64 x z == (1:Int)))))
 (bnd (W.tableau_pauli_gate_b.c8 o0 o2 some) fun y_1 =>
 br y_1
 (bnd (iter (fun s ↦ W.tableau_pauli_gate_b.c100010 q (Prod.fst s) (Prod.fst (Prod.snd s)) (IntKind.wrap IntKind.i64 (Int.tdiv o1 (4:Int))) (Prod.fst (Prod.snd (Prod.snd s))) p0 (Prod.fst (Prod.snd (Prod.snd (Prod.snd s)))) (Prod.snd (Prod.snd (Prod.snd (Prod.snd s)))) some) (x,z,(0:Int),p1,p2)) fun y_2 =>
 k_ ((Prod.fst y_2),(Prod.fst (Prod.snd y_2)),p0,(Prod.fst (Prod.snd (Prod.snd (Prod.snd y_2)))),(Prod.snd (Prod.snd (Prod.snd (Prod.snd y_2))))))
 (bnd (W.tableau_pauli_gate_b.c15 o0 o1 some) fun y_3 =>
 br y_3
 (bnd (W.tableau_pauli_gate_b.c17 p0 p1 p2 o2 o3 (3:Int) (0:Int) [] o3 (0:Int) [] some) fun y_4 =>
 k_ (x,z,(Prod.fst y_4),(Prod.fst (Prod.snd y_4)),(Prod.snd (Prod.snd y_4))))
 (bnd (W.tableau_pauli_gate_b.c18 o0 o2 some) fun y_5 =>
 br y_5
 (k_ (x,z,p0,p1,(!p2 == (z == (1:Int)))))
 (br (o0 == (2:Int))
 (bnd (idx o2 (0:Int)) fun y_6 =>
 bnd (W.tableau_pauli_gate_b.c22 (IntKind.wrap IntKind.u64 y_6) some) fun y_7 =>
 bnd (W.tableau_pauli_gate_b.c23 x z (ibits BinOp.and IntKind.u64 (Int.fdiv p0 ((2:Int) ^ Min.min (Int.toNat (IntKind.wrap IntKind.u64 y_6)) (64:Nat))) (1:Int)) (ibits BinOp.and IntKind.u64 (Int.fdiv p1 ((2:Int) ^ Min.min (Int.toNat (IntKind.wrap IntKind.u64 y_6)) (64:Nat))) (1:Int)) p2 some) fun y_8 =>
 bnd (okIf (decide ((0:Int) ≤ q))) fun y_9 =>
 bnd (okIf (decide ((0:Int) ≤ IntKind.wrap IntKind.u64 y_6))) fun y_10 =>
 k_ (x,z,(ibits BinOp.xor IntKind.u64 p0 (IntKind.wrap IntKind.u64 (ibits BinOp.and IntKind.u64 (Int.fdiv p0 ((2:Int) ^ Min.min (Int.toNat (IntKind.wrap IntKind.u64 y_6)) (64:Nat))) (1:Int) * (2:Int) ^ Min.min (Int.toNat q) (64:Nat)))),(ibits BinOp.xor IntKind.u64 p1 (IntKind.wrap IntKind.u64 (z * (2:Int) ^ Min.min (Int.toNat (IntKind.wrap IntKind.u64 y_6)) (64:Nat)))),y_8))
 (k_ (x,z,p0,p1,p2))))))
def tableau_pauli_gate_b.c212345s:Shape:=tableau_pauli_gate_b.c2x0
def tableau_pauli_gate_b.c212345x0:Shape:=tableau_pauli_gate_b.c2x0
def tableau_pauli_gate_b.c212345r:Ck:=Ck.of (T:=Int×Int×Int×Int×(Bool)) tableau_pauli_gate_b.c212345s (fun ρ x_ k_=>tableau_pauli_gate_b.c212345 x_.2.2.1 x_.2.2.2.1 x_.2.2.2.2.1 x_.2.2.2.2.2.1 x_.2.2.2.2.2.2.1 x_.2.2.2.2.2.2.2.1 x_.2.2.2.2.2.2.2.2.1 x_.2.2.2.2.2.2.2.2.2.1 x_.2.2.2.2.2.2.2.2.2.2.1 x_.2.2.2.2.2.2.2.2.2.2.2.1 k_) (fun ρ x_ r_ k_=>k_ 0 (Shape.inj tableau_pauli_gate_b.c212345x0 (x_.1,x_.2.1,x_.2.2.1,r_.1,r_.2.1,r_.2.2.1,r_.2.2.2.1,r_.2.2.2.2,x_.2.2.2.2.2.2.2.2)))
def tableau_pauli_gate_b (p:Int×(Int×(Bool))) (o:Int×(Int×((List Int)×(Int×(Int×(List Int)))))):Option ((Int×(Int×(Bool)))×Unit) :=
 bnd (W.tableau_pauli_gate_b.c2 (IntKind.wrap IntKind.u64 (Prod.fst (Prod.snd (Prod.snd (Prod.snd o))))) some) fun y =>
 bnd (W.tableau_pauli_gate_b.c212345 (IntKind.wrap IntKind.u64 (Prod.fst (Prod.snd (Prod.snd (Prod.snd o))))) (ibits BinOp.and IntKind.u64 (Int.fdiv (Prod.fst p) ((2:Int) ^ Min.min (Int.toNat (IntKind.wrap IntKind.u64 (Prod.fst (Prod.snd (Prod.snd (Prod.snd o)))))) (64:Nat))) (1:Int)) (ibits BinOp.and IntKind.u64 (Int.fdiv (Prod.fst (Prod.snd p)) ((2:Int) ^ Min.min (Int.toNat (IntKind.wrap IntKind.u64 (Prod.fst (Prod.snd (Prod.snd (Prod.snd o)))))) (64:Nat))) (1:Int)) (Prod.fst p) (Prod.fst (Prod.snd p)) (Prod.snd (Prod.snd p)) (Prod.fst o) (Prod.fst (Prod.snd o)) (Prod.fst (Prod.snd (Prod.snd o))) (Prod.fst (Prod.snd (Prod.snd (Prod.snd o)))) some) fun y_1 =>
 some ((Prod.fst (Prod.snd (Prod.snd y_1)),Prod.fst (Prod.snd (Prod.snd (Prod.snd y_1))),Prod.snd (Prod.snd (Prod.snd (Prod.snd y_1)))),())
def tableau_pauli_gate_b.mc:MCallee:=⟨57,tableau_pauli_gate_b.pre,tableau_pauli_gate_b.post,fun x_=>tableau_pauli_gate_b x_.1 x_.2.1⟩
def tableau_pauli_gate_b.G:Env:=⟨179,tab,[],[0,1,2,3,4,5,6,7,8,9,10,11,25,31,52,64,65,66,93,116,132],[],[(22,[⟨[],[],[143,146,147,148,149,150],[]⟩,⟨[0],[],[143,146,147,148,149,150],[]⟩,⟨[],[],[141,142,146,147,148,149,150],[]⟩,⟨[1,0,2],[],[146,147,148,149,150],[]⟩,⟨[3,1,0,2],[],[146,147,148,149,150],[]⟩,⟨[],[],[141,142,143,144,145,148,10],[]⟩,⟨[5],[],[141,142,143,144,145,148,10],[]⟩,⟨[],[],[141,142,143,144,145,146,147,10],[]⟩,⟨[6,5,7],[],[141,142,143,144,145,10],[]⟩,⟨[8,6,5,7],[],[141,142,143,144,145,10],[]⟩,⟨[4,3,1,0,2],[],[146,147,148,149,150],[]⟩,⟨[9,8,6,5,7,10,4,3,1,0,2],[],[],[]⟩]),
 (17,[⟨[],[],[106,108,109,110,111,112,114],[]⟩,⟨[],[],[105,108,109,110,111,112,114],[]⟩,⟨[0,1],[],[108,109,110,111,112,114],[]⟩,⟨[],[],[105,106,107,110,111,114],[]⟩,⟨[3],[],[105,106,107,110,111,114],[]⟩,⟨[],[],[105,106,107,108,109,114],[]⟩,⟨[5],[],[105,106,107,108,109,114],[]⟩,⟨[4,3,6,5],[],[105,106,107,114],[]⟩,⟨[2,0,1,7,4,3,6,5],[],[114],[]⟩,⟨[],[],[105,106,107,108,109,110,111,112,113],[]⟩,⟨[8,2,0,1,7,4,3,6,5,9],[],[],[]⟩,⟨[10,8,2,0,1,7,4,3,6,5,9],[2],[],[]⟩]),
 (11,[⟨[],[],[69,72,73,74,75,76],[]⟩,⟨[0],[],[69,72,73,74,75,76],[]⟩,⟨[],[],[67,68,72,73,74,75,76],[]⟩,⟨[1,0,2],[],[72,73,74,75,76],[]⟩,⟨[3,1,0,2],[],[72,73,74,75,76],[]⟩,⟨[],[],[67,68,69,70,71,74,6],[]⟩,⟨[5],[],[67,68,69,70,71,74,6],[]⟩,⟨[],[],[67,68,69,70,71,72,73,6],[]⟩,⟨[6,5,7],[],[67,68,69,70,71,6],[]⟩,⟨[8,6,5,7],[],[67,68,69,70,71,6],[]⟩,⟨[4,3,1,0,2],[],[72,73,74,75,76],[]⟩,⟨[9,8,6,5,7,10,4,3,1,0,2],[],[],[]⟩]),
 (2,[⟨[],[],[17,20,21,22,23,24],[]⟩,⟨[0],[],[17,20,21,22,23,24],[]⟩,⟨[],[],[15,16,20,21,22,23,24],[]⟩,⟨[1,0,2],[],[20,21,22,23,24],[]⟩,⟨[3,1,0,2],[],[20,21,22,23,24],[]⟩,⟨[],[],[15,16,17,18,19,22,6],[]⟩,⟨[5],[],[15,16,17,18,19,22,6],[]⟩,⟨[],[],[15,16,17,18,19,20,21,6],[]⟩,⟨[6,5,7],[],[15,16,17,18,19,6],[]⟩,⟨[8,6,5,7],[],[15,16,17,18,19,6],[]⟩,⟨[4,3,1,0,2],[],[20,21,22,23,24],[]⟩,⟨[9,8,6,5,7,10,4,3,1,0,2],[],[],[]⟩])],[(212345,tableau_pauli_gate_b.c212345r),(23,tableau_pauli_gate_b.c23r),(22,tableau_pauli_gate_b.c22r),(18,tableau_pauli_gate_b.c18r),(17,tableau_pauli_gate_b.c17r),(15,tableau_pauli_gate_b.c15r),(100010,tableau_pauli_gate_b.c100010r),(11,tableau_pauli_gate_b.c11r),(8,tableau_pauli_gate_b.c8r),(216391,tableau_pauli_gate_b.c216391r),(2,tableau_pauli_gate_b.c2r)],[(57,tableau_pauli_gate_b.self.mc)],tab_eqs⟩
theorem tableau_pauli_gate_b.eq (x_:densU tableau_pauli_gate_b.mc.pre.tys):denM tableau_pauli_gate_b.G Try.f57 tableau_pauli_gate_b.mc.pre tableau_pauli_gate_b.mc.post x_ = tableau_pauli_gate_b.mc.F x_:=by kernel_rfl
theorem tableau_pauli_gate_b.p0:PcA tableau_pauli_gate_b.G Try.f57 0 :=
 region_ok (s:=tableau_pauli_gate_b.c2r) (by kernel_rfl) (by kernel_rfl) (sums_of (sh:=tableau_pauli_gate_b.c2s) (fun ρ x_ k_=>(nat_bnd fun _=>(nat_bnd fun _=>nat_leaf))) (fun ρ x_ t k=>(by kernel_rfl)) (fun x_=>by kernel_rfl))
theorem tableau_pauli_gate_b.p1:PcA tableau_pauli_gate_b.G Try.f57 1 :=
 join_ok (s:=tableau_pauli_gate_b.c212345r) (by kernel_rfl) (by kernel_rfl) (sums_of (sh:=tableau_pauli_gate_b.c212345s) (fun ρ x_ k_=>(nat_br (nat_bnd fun _=>nat_leaf) (nat_bnd fun _=>(nat_br (nat_bnd fun _=>nat_leaf) (nat_bnd fun _=>(nat_br (nat_bnd fun _=>nat_leaf) (nat_bnd fun _=>(nat_br nat_leaf (nat_br (nat_bnd fun _=>(nat_bnd fun _=>(nat_bnd fun _=>(nat_bnd fun _=>(nat_bnd fun _=>nat_leaf))))) nat_leaf))))))))) (fun ρ x_ t k=>(by kernel_rfl)) (fun x_=>by kernel_rfl))
theorem tableau_pauli_gate_b.p2:PcA tableau_pauli_gate_b.G Try.f57 2 :=
 join_ok (s:=tableau_pauli_gate_b.c216391r) (by kernel_rfl) (by kernel_rfl) (sums_of (sh:=tableau_pauli_gate_b.c216391s) (fun ρ x_ k_=>(nat_br (nat_bnd fun _=>(nat_bnd fun _=>nat_leaf)) nat_leaf)) (fun ρ x_ t k=>(by kernel_rfl)) (fun x_=>by kernel_rfl))
theorem tableau_pauli_gate_b.p3:PcA tableau_pauli_gate_b.G Try.f57 3 :=
 region_ok (s:=tableau_pauli_gate_b.c8r) (by kernel_rfl) (by kernel_rfl) (sums_of (sh:=tableau_pauli_gate_b.c8s) (fun ρ x_ k_=>(nat_br nat_leaf nat_leaf)) (fun ρ x_ t k=>(by kernel_rfl)) (fun x_=>by kernel_rfl))
theorem tableau_pauli_gate_b.p4:PcA tableau_pauli_gate_b.G Try.f57 4 :=
 loop_ok (s:=tableau_pauli_gate_b.c100010r) (by kernel_rfl) (by kernel_rfl) (loops_of (sh:=tableau_pauli_gate_b.c100010s) (I:=fun x_ s_=>(x_.1,x_.2.1,x_.2.2.1,s_.1,s_.2.1,x_.2.2.2.2.2.1,s_.2.2.1,x_.2.2.2.2.2.2.2.1,s_.2.2.2.1,s_.2.2.2.2,x_.2.2.2.2.2.2.2.2.2.2)) (fun x_=>rfl) (fun ρ x_ s_ k_=>(nat_br (nat_bnd fun _=>(nat_bnd fun _=>nat_leaf)) nat_leaf)) (fun ρ x_ t k=>(by kernel_rfl)) (fun x_ s=>by kernel_rfl))
theorem tableau_pauli_gate_b.p5:PcA tableau_pauli_gate_b.G Try.f57 5 :=
 region_ok (s:=tableau_pauli_gate_b.c11r) (by kernel_rfl) (by kernel_rfl) (sums_of (sh:=tableau_pauli_gate_b.c11s) (fun ρ x_ k_=>(nat_bnd fun _=>(nat_bnd fun _=>nat_leaf))) (fun ρ x_ t k=>(by kernel_rfl)) (fun x_=>by kernel_rfl))
theorem tableau_pauli_gate_b.p6:PcA tableau_pauli_gate_b.G Try.f57 6 :=
 region_ok (s:=tableau_pauli_gate_b.c15r) (by kernel_rfl) (by kernel_rfl) (sums_of (sh:=tableau_pauli_gate_b.c15s) (fun ρ x_ k_=>(nat_br nat_leaf nat_leaf)) (fun ρ x_ t k=>(by kernel_rfl)) (fun x_=>by kernel_rfl))
theorem tableau_pauli_gate_b.p7:PcA tableau_pauli_gate_b.G Try.f57 7 :=
 region_ok (s:=tableau_pauli_gate_b.c17r) (by kernel_rfl) (by kernel_rfl) (sums_of (sh:=tableau_pauli_gate_b.c17s) (fun ρ x_ k_=>(nat_bnd fun _=>(nat_bnd fun _=>(nat_bnd fun _=>nat_leaf)))) (fun ρ x_ t k=>(by kernel_rfl)) (fun x_=>by kernel_rfl))
theorem tableau_pauli_gate_b.p8:PcA tableau_pauli_gate_b.G Try.f57 8 :=
 region_ok (s:=tableau_pauli_gate_b.c18r) (by kernel_rfl) (by kernel_rfl) (sums_of (sh:=tableau_pauli_gate_b.c18s) (fun ρ x_ k_=>(nat_br nat_leaf nat_leaf)) (fun ρ x_ t k=>(by kernel_rfl)) (fun x_=>by kernel_rfl))
theorem tableau_pauli_gate_b.p9:PcA tableau_pauli_gate_b.G Try.f57 9 :=
 region_ok (s:=tableau_pauli_gate_b.c22r) (by kernel_rfl) (by kernel_rfl) (sums_of (sh:=tableau_pauli_gate_b.c22s) (fun ρ x_ k_=>(nat_bnd fun _=>(nat_bnd fun _=>nat_leaf))) (fun ρ x_ t k=>(by kernel_rfl)) (fun x_=>by kernel_rfl))
theorem tableau_pauli_gate_b.p10:PcA tableau_pauli_gate_b.G Try.f57 10 :=
 region_ok (s:=tableau_pauli_gate_b.c23r) (by kernel_rfl) (by kernel_rfl) (sums_of (sh:=tableau_pauli_gate_b.c23s) (fun ρ x_ k_=>(nat_br nat_leaf nat_leaf)) (fun ρ x_ t k=>(by kernel_rfl)) (fun x_=>by kernel_rfl))
theorem tableau_pauli_gate_b.ok:MOk Try.prog 57 tableau_pauli_gate_b.mc:=fnm_ok (G:=tableau_pauli_gate_b.G) tab_ok mixed Try.func57 ⟨fns_nil,(mfns_cons tableau_pauli_gate_b.self.ok mfns_nil),tab_eqs_ok⟩ (m:=11) (by kernel_rfl) ⟨⟨⟨⟨⟨⟨⟨⟨⟨⟨⟨trivial,tableau_pauli_gate_b.p0⟩,tableau_pauli_gate_b.p1⟩,tableau_pauli_gate_b.p2⟩,tableau_pauli_gate_b.p3⟩,tableau_pauli_gate_b.p4⟩,tableau_pauli_gate_b.p5⟩,tableau_pauli_gate_b.p6⟩,tableau_pauli_gate_b.p7⟩,tableau_pauli_gate_b.p8⟩,tableau_pauli_gate_b.p9⟩,tableau_pauli_gate_b.p10⟩ (by kernel_rfl) tableau_pauli_gate_b.eq
end
@[reducible] def tableau_pauli_gate_b.fuel:Nat → tableau_pauli_gate_b.Self
 | 0=>⟨fun _=>none,⟨⟨Try.f57,Try.func57,by kernel_rfl,by kernel_rfl⟩,fun _ _ _ _ _ _ _ hy=>by cases hy⟩⟩
 | n + 1=>⟨fun x_=>(@tableau_pauli_gate_b.mc (tableau_pauli_gate_b.fuel n)).F x_,@tableau_pauli_gate_b.ok (tableau_pauli_gate_b.fuel n)⟩
def tableau_pauli_gate (x_:densU tableau_pauli_gate_b.self.pre.tys):Option (densU tableau_pauli_gate_b.self.post.tys):=(tableau_pauli_gate_b.fuel (3)).F x_
def tableau_pauli_gate.mc:MCallee:=⟨57,tableau_pauli_gate_b.self.pre,tableau_pauli_gate_b.self.post,fun x_=>tableau_pauli_gate x_⟩
theorem tableau_pauli_gate.ok:MOk Try.prog 57 tableau_pauli_gate.mc:=mok_diag (F:=fun n=>(tableau_pauli_gate_b.fuel n).F) (fun n=>(tableau_pauli_gate_b.fuel n).ok) (fun x_=>3)
abbrev tb28:SD:=.one (.ref 1000700 0)
abbrev tb29:SO:=.box [.own 1000701 0,.own 1000702 0]
abbrev tb30:SO:=.arr 0 false 53 (.st (.pair (.int .i64) (.pair (.int .i64) (.pair (.sl (.int .i64)) (.pair (.int .i64) (.pair (.int .i64) (.sl (.int .i64))))))))
def tableau_maker_do.pre:Shape:=⟨[(0,tb28),(1,tb25)],[(1000700,tb29),(1000701,tb22),(1000702,tb30)]⟩
def tableau_maker_do.post:Shape:=⟨[],[(1000701,tb22),(1000702,tb30),(1000700,tb29)]⟩
def tableau_maker_do.c4 {ρ:Type} (i:Int) (o0:Int) (o1:Int) (o2:List Int) (o3:Int) (o4:Int) (o5:List Int) (t1000701:List (Int×(Int×(Bool)))) (k_:List (Int×(Int×(Bool))) → Option ρ):Option ρ :=
 bnd (inR (List.length t1000701) i) fun y =>
 bnd (idx t1000701 i) fun y_1 =>
 bnd (W.tableau_pauli_gate (y_1,(o0,o1,o2,o3,o4,o5),())) fun y_2 =>
 bnd (inR (List.length t1000701) i) fun y_3 =>
 bnd (idx t1000701 i) fun y_4 =>
 k_ (List.set t1000701 (Int.toNat i) (Prod.fst y_2))
def tableau_maker_do.c4s:Shape:=⟨[(0,tb28),(1,tb25),(3,tb12),(4,tb5),(9,tb5),(10,tb5)],[(3,tb26),(1000700,tb29),(1000701,tb22),(1000702,tb30)]⟩
def tableau_maker_do.c4x0:Shape:=tableau_maker_do.c4s
def tableau_maker_do.c4r:Ck:=Ck.of (T:=List (Int×(Int×(Bool)))) tableau_maker_do.c4s (fun ρ x_ k_=>tableau_maker_do.c4 x_.2.1 x_.2.2.2.2.1 x_.2.2.2.2.2.1 x_.2.2.2.2.2.2.1 x_.2.2.2.2.2.2.2.1 x_.2.2.2.2.2.2.2.2.1 x_.2.2.2.2.2.2.2.2.2.1 x_.2.2.2.2.2.2.2.2.2.2.1 k_) (fun ρ x_ r_ k_=>k_ 0 (Shape.inj tableau_maker_do.c4x0 (x_.1,x_.2.1,x_.2.2.1,x_.2.2.2.1,x_.2.2.2.2.1,x_.2.2.2.2.2.1,x_.2.2.2.2.2.2.1,x_.2.2.2.2.2.2.2.1,x_.2.2.2.2.2.2.2.2.1,x_.2.2.2.2.2.2.2.2.2.1,r_,x_.2.2.2.2.2.2.2.2.2.2.2)))
def tableau_maker_do.c100002 {ρ:Type} (t9:Int) (t10:Int) (o0:Int) (o1:Int) (o2:List Int) (o3:Int) (o4:Int) (o5:List Int) (t1000701:List (Int×(Int×(Bool)))) (k_:(Int×(List (Int×(Int×(Bool))))) ⊕ (Int×(List (Int×(Int×(Bool))))) → Option ρ):Option ρ :=
 br (decide (t10 < t9))
 (bnd (W.tableau_maker_do.c4 t10 o0 o1 o2 o3 o4 o5 t1000701 some) fun y =>
 k_ (.inl ((IntKind.wrap IntKind.i64 (t10 + (1:Int))),y)))
 (k_ (.inr (t10,t1000701)))
def tableau_maker_do.c100002s:Shape:=⟨[(0,tb28),(1,tb25),(3,tb12),(9,tb5),(10,tb5)],[(3,tb26),(1000700,tb29),(1000701,tb22),(1000702,tb30)]⟩
def tableau_maker_do.c100002x0:Shape:=tableau_maker_do.c100002s
def tableau_maker_do.c100002r:Ck:=Ck.ofLoop (S:=Int×(List (Int×(Int×(Bool))))) (T:=Int×(List (Int×(Int×(Bool))))) tableau_maker_do.c100002s (fun x_=>(x_.2.2.1,x_.2.2.2.2.2.2.2.2.2.1)) (fun ρ x_ s_ k_=>tableau_maker_do.c100002 x_.2.1 s_.1 x_.2.2.2.1 x_.2.2.2.2.1 x_.2.2.2.2.2.1 x_.2.2.2.2.2.2.1 x_.2.2.2.2.2.2.2.1 x_.2.2.2.2.2.2.2.2.1 s_.2 k_) (fun ρ x_ r_ k_=>k_ 2 (Shape.inj tableau_maker_do.c100002x0 (x_.1,x_.2.1,r_.1,x_.2.2.2.1,x_.2.2.2.2.1,x_.2.2.2.2.2.1,x_.2.2.2.2.2.2.1,x_.2.2.2.2.2.2.2.1,x_.2.2.2.2.2.2.2.2.1,r_.2,x_.2.2.2.2.2.2.2.2.2.2)))
def tableau_maker_do.c6 {ρ:Type} (o0:Int) (o1:Int) (o2:List Int) (o3:Int) (o4:Int) (o5:List Int) (t1000702:List (Int×(Int×((List Int)×(Int×(Int×(List Int))))))) (k_:Unit → Option ρ):Option ρ :=
 bnd (okIf (decide ((List.length t1000702 + (1:Nat)) * (80:Nat) ≤ (140737488355328:Nat)) && decide (List.length t1000702 + (1:Nat) ≤ (140737488355328:Nat)))) fun y =>
 k_ ()
def tableau_maker_do.c6s:Shape:=tableau_maker_do.c100002s
def tableau_maker_do.c6x0:Shape:=tableau_maker_do.c100002s
def tableau_maker_do.c6r:Ck:=Ck.of (T:=Unit) tableau_maker_do.c6s (fun ρ x_ k_=>tableau_maker_do.c6 x_.2.2.2.1 x_.2.2.2.2.1 x_.2.2.2.2.2.1 x_.2.2.2.2.2.2.1 x_.2.2.2.2.2.2.2.1 x_.2.2.2.2.2.2.2.2.1 x_.2.2.2.2.2.2.2.2.2.2.1 k_) (fun ρ x_ r_ k_=>k_ 0 (Shape.inj tableau_maker_do.c6x0 (x_.1,x_.2.1,x_.2.2.1,x_.2.2.2.1,x_.2.2.2.2.1,x_.2.2.2.2.2.1,x_.2.2.2.2.2.2.1,x_.2.2.2.2.2.2.2.1,x_.2.2.2.2.2.2.2.2.1,x_.2.2.2.2.2.2.2.2.2.1,(x_.2.2.2.2.2.2.2.2.2.2.1 ++ [(x_.2.2.2.1,x_.2.2.2.2.1,x_.2.2.2.2.2.1,x_.2.2.2.2.2.2.1,x_.2.2.2.2.2.2.2.1,x_.2.2.2.2.2.2.2.2.1)]),())))
def tableau_maker_do (o:Int×(Int×((List Int)×(Int×(Int×(List Int)))))) (t1000701:List (Int×(Int×(Bool)))) (t1000702:List (Int×(Int×((List Int)×(Int×(Int×(List Int))))))):Option ((List (Int×(Int×(Bool))))×(List (Int×(Int×((List Int)×(Int×(Int×(List Int)))))))×Unit) :=
 bnd (iter (fun s ↦ W.tableau_maker_do.c100002 (↑(List.length t1000701):Int) (Prod.fst s) (Prod.fst o) (Prod.fst (Prod.snd o)) (Prod.fst (Prod.snd (Prod.snd o))) (Prod.fst (Prod.snd (Prod.snd (Prod.snd o)))) (Prod.fst (Prod.snd (Prod.snd (Prod.snd (Prod.snd o))))) (Prod.snd (Prod.snd (Prod.snd (Prod.snd (Prod.snd o))))) (Prod.snd s) some) ((0:Int),t1000701)) fun y =>
 bnd (W.tableau_maker_do.c6 (Prod.fst o) (Prod.fst (Prod.snd o)) (Prod.fst (Prod.snd (Prod.snd o))) (Prod.fst (Prod.snd (Prod.snd (Prod.snd o)))) (Prod.fst (Prod.snd (Prod.snd (Prod.snd (Prod.snd o))))) (Prod.snd (Prod.snd (Prod.snd (Prod.snd (Prod.snd o))))) t1000702 some) fun y_1 =>
 some (Prod.snd y,t1000702 ++ [(Prod.fst o,Prod.fst (Prod.snd o),Prod.fst (Prod.snd (Prod.snd o)),Prod.fst (Prod.snd (Prod.snd (Prod.snd o))),Prod.fst (Prod.snd (Prod.snd (Prod.snd (Prod.snd o)))),Prod.snd (Prod.snd (Prod.snd (Prod.snd (Prod.snd o)))))],())
def tableau_maker_do.mc:MCallee:=⟨67,tableau_maker_do.pre,tableau_maker_do.post,fun x_=>tableau_maker_do x_.1 x_.2.1 x_.2.2.1⟩
def tableau_maker_do.G:Env:=⟨39,tab,[],[0,1,3,4,9,10,11],[1000700,1000701,1000702],[(6,[⟨[],[],[30,31,32,33,34,35,36],[35,1000702]⟩,⟨[],[],[29,34,35],[35]⟩,⟨[1],[],[29,34,35],[35]⟩,⟨[2,1],[],[29,34,35],[35]⟩,⟨[3,2,1],[],[29,34,35],[35]⟩,⟨[],[],[29,30,31,32,33],[]⟩,⟨[5],[35],[29,30,31,32,33],[]⟩,⟨[4,3,2,1,6,5],[1000702],[29],[]⟩,⟨[0,1,2,3,4,5,6,7],[],[],[]⟩,⟨[8,0,1,2,3,4,5,6,7],[],[],[]⟩,⟨[9,8,0,1,2,3,4,5,6,7],[1000700],[],[]⟩]),
 (4,[⟨[],[],[17,18,19,20,21,22,23,24,25,26],[]⟩,⟨[0],[],[17,18,19,20,21,22,23,24,25,26],[]⟩,⟨[1,0],[],[17,18,19,20,21,22,23,24,25,26],[]⟩,⟨[2,1,0],[],[17,18,19,20,21,22,23,24,25,26],[]⟩,⟨[],[],[13,14,15,16,18,19,20,21,22,23,24,25,26],[]⟩,⟨[],[],[13,14,15,16,17,22,25],[]⟩,⟨[5],[],[13,14,15,16,17,22,25],[]⟩,⟨[6,5],[],[13,14,15,16,17,22,25],[]⟩,⟨[7,6,5],[],[13,14,15,16,17,22,25],[]⟩,⟨[],[],[13,14,15,16,17,18,19,20,21,25],[]⟩,⟨[8,7,6,5,9],[],[13,14,15,16,17,25],[]⟩,⟨[10,8,7,6,5,9],[],[13,14,15,16,17,25],[]⟩,⟨[],[],[13,14,15,16,17,18,19,20,21,22,23,24],[]⟩,⟨[11,10,8,7,6,5,9,12],[],[13,14,15,16,17],[]⟩,⟨[3,2,1,0,4,5,6,7,8,9,10,11,12,13],[],[],[]⟩,⟨[14,3,2,1,0,4,5,6,7,8,9,10,11,12,13],[1000701],[],[]⟩])],[(6,tableau_maker_do.c6r),(100002,tableau_maker_do.c100002r),(4,tableau_maker_do.c4r)],[(57,tableau_pauli_gate.mc)],tab_eqs⟩
theorem tableau_maker_do.eq (x_:densU tableau_maker_do.mc.pre.tys):denM tableau_maker_do.G Try.f67 tableau_maker_do.mc.pre tableau_maker_do.mc.post x_ = tableau_maker_do.mc.F x_:=by kernel_rfl
theorem tableau_maker_do.p0:PcA tableau_maker_do.G Try.f67 0 :=
 loop_ok (s:=tableau_maker_do.c100002r) (by kernel_rfl) (by kernel_rfl) (loops_of (sh:=tableau_maker_do.c100002s) (I:=fun x_ s_=>(x_.1,x_.2.1,s_.1,x_.2.2.2.1,x_.2.2.2.2.1,x_.2.2.2.2.2.1,x_.2.2.2.2.2.2.1,x_.2.2.2.2.2.2.2.1,x_.2.2.2.2.2.2.2.2.1,s_.2,x_.2.2.2.2.2.2.2.2.2.2)) (fun x_=>rfl) (fun ρ x_ s_ k_=>(nat_br (nat_bnd fun _=>nat_leaf) nat_leaf)) (fun ρ x_ t k=>(by kernel_rfl)) (fun x_ s=>by kernel_rfl))
theorem tableau_maker_do.p1:PcA tableau_maker_do.G Try.f67 1 :=
 region_ok (s:=tableau_maker_do.c4r) (by kernel_rfl) (by kernel_rfl) (sums_of (sh:=tableau_maker_do.c4s) (fun ρ x_ k_=>(nat_bnd fun _=>(nat_bnd fun _=>(nat_bnd fun _=>(nat_bnd fun _=>(nat_bnd fun _=>nat_leaf)))))) (fun ρ x_ t k=>(by kernel_rfl)) (fun x_=>by kernel_rfl))
theorem tableau_maker_do.p2:PcA tableau_maker_do.G Try.f67 2 :=
 region_ok (s:=tableau_maker_do.c6r) (by kernel_rfl) (by kernel_rfl) (sums_of (sh:=tableau_maker_do.c6s) (fun ρ x_ k_=>(nat_bnd fun _=>nat_leaf)) (fun ρ x_ t k=>(by kernel_rfl)) (fun x_=>by kernel_rfl))
theorem tableau_maker_do.ok:MOk Try.prog 67 tableau_maker_do.mc:=fnm_ok (G:=tableau_maker_do.G) tab_ok mixed Try.func67 ⟨fns_nil,(mfns_cons tableau_pauli_gate.ok mfns_nil),tab_eqs_ok⟩ (m:=3) (by kernel_rfl) ⟨⟨⟨trivial,tableau_maker_do.p0⟩,tableau_maker_do.p1⟩,tableau_maker_do.p2⟩ (by kernel_rfl) tableau_maker_do.eq
def tableau_maker_clear.pre:Shape:=⟨[(0,tb28),(1,tb5),(2,tb5),(3,tb5)],[(1000700,tb29),(1000701,tb22),(1000702,tb30)]⟩
def tableau_maker_clear.post:Shape:=⟨[],[(1000701,tb22),(1000702,tb30),(1000700,tb29)]⟩
def tableau_maker_clear.c212300 {ρ:Type} (i:Int) (j:Int) (t1000701:List (Int×(Int×(Bool)))) (t1000702:List (Int×(Int×((List Int)×(Int×(Int×(List Int))))))) (k_:(List (Int×(Int×(Bool))))×(List (Int×(Int×((List Int)×(Int×(Int×(List Int))))))) → Option ρ):Option ρ :=
 bnd (inR (List.length t1000701) i) fun y =>
 bnd (idx t1000701 i) fun y_1 =>
 bnd (okIf (decide ((0:Int) ≤ j))) fun y_2 =>
 br (ibits BinOp.and IntKind.u64 (Int.fdiv (Prod.fst (Prod.snd y_1)) ((2:Int) ^ Min.min (Int.toNat j) (64:Nat))) (1:Int) == (1:Int))
 (bnd (okIf (decide ((0:Int) ≤ j))) fun y_3 =>
 br (ibits BinOp.and IntKind.u64 (Int.fdiv (Prod.fst y_1) ((2:Int) ^ Min.min (Int.toNat j) (64:Nat))) (1:Int) == (1:Int))
 (bnd (W.tableau_maker_do ((4:Int),(4:Int),[],j,(0:Int),[]) t1000701 t1000702) fun y_4 =>
 k_ ((Prod.fst y_4),(Prod.fst y_4.2)))
 (bnd (W.tableau_maker_do ((3:Int),(0:Int),[],j,(0:Int),[]) t1000701 t1000702) fun y_5 =>
 k_ ((Prod.fst y_5),(Prod.fst y_5.2))))
 (k_ (t1000701,t1000702))
def tableau_maker_clear.c212300s:Shape:=⟨[(0,tb28),(1,tb5),(2,tb5),(3,tb5),(8,tb5)],[(1000700,tb29),(1000701,tb22),(1000702,tb30)]⟩
def tableau_maker_clear.c212300x0:Shape:=tableau_maker_clear.c212300s
def tableau_maker_clear.c212300r:Ck:=Ck.of (T:=(List (Int×(Int×(Bool))))×(List (Int×(Int×((List Int)×(Int×(Int×(List Int)))))))) tableau_maker_clear.c212300s (fun ρ x_ k_=>tableau_maker_clear.c212300 x_.1 x_.2.2.2.1 x_.2.2.2.2.1 x_.2.2.2.2.2.1 k_) (fun ρ x_ r_ k_=>k_ 0 (Shape.inj tableau_maker_clear.c212300x0 (x_.1,x_.2.1,x_.2.2.1,x_.2.2.2.1,r_.1,r_.2,())))
def tableau_maker_clear.c100001 {ρ:Type} (i:Int) (n:Int) (j:Int) (t1000701:List (Int×(Int×(Bool)))) (t1000702:List (Int×(Int×((List Int)×(Int×(Int×(List Int))))))) (k_:(Int×(List (Int×(Int×(Bool))))×(List (Int×(Int×((List Int)×(Int×(Int×(List Int)))))))) ⊕ (Int×(List (Int×(Int×(Bool))))×(List (Int×(Int×((List Int)×(Int×(Int×(List Int)))))))) → Option ρ):Option ρ :=
 br (decide (j < n))
 (bnd (W.tableau_maker_clear.c212300 i j t1000701 t1000702 some) fun y =>
 k_ (.inl ((IntKind.wrap IntKind.i64 (j + (1:Int))),(Prod.fst y),(Prod.snd y))))
 (k_ (.inr (j,t1000701,t1000702)))
def tableau_maker_clear.c100001s:Shape:=tableau_maker_clear.c212300s
def tableau_maker_clear.c100001x0:Shape:=tableau_maker_clear.c212300s
def tableau_maker_clear.c100001r:Ck:=Ck.ofLoop (S:=Int×(List (Int×(Int×(Bool))))×(List (Int×(Int×((List Int)×(Int×(Int×(List Int)))))))) (T:=Int×(List (Int×(Int×(Bool))))×(List (Int×(Int×((List Int)×(Int×(Int×(List Int)))))))) tableau_maker_clear.c100001s (fun x_=>(x_.2.2.2.1,x_.2.2.2.2.1,x_.2.2.2.2.2.1)) (fun ρ x_ s_ k_=>tableau_maker_clear.c100001 x_.1 x_.2.2.1 s_.1 s_.2.1 s_.2.2 k_) (fun ρ x_ r_ k_=>k_ 2 (Shape.inj tableau_maker_clear.c100001x0 (x_.1,x_.2.1,x_.2.2.1,r_.1,r_.2.1,r_.2.2,())))
def tableau_maker_clear.c9 {ρ:Type} (i:Int) (q:Int) (n:Int) (j_1:Int) (t1000701:List (Int×(Int×(Bool)))) (k_:Bool → Option ρ):Option ρ :=
 br (decide (j_1 < n))
 (bnd (inR (List.length t1000701) i) fun y =>
 bnd (idx t1000701 i) fun y_1 =>
 bnd (okIf (decide ((0:Int) ≤ q))) fun y_2 =>
 k_ (ibits BinOp.and IntKind.u64 (Int.fdiv (Prod.fst y_1) ((2:Int) ^ Min.min (Int.toNat q) (64:Nat))) (1:Int) == (0:Int)))
 (k_ false)
def tableau_maker_clear.c9s:Shape:=⟨[(0,tb28),(1,tb5),(2,tb5),(3,tb5),(8,tb5),(10,tb5)],[(1000700,tb29),(1000701,tb22),(1000702,tb30)]⟩
def tableau_maker_clear.c9x0:Shape:=⟨[(0,tb28),(1,tb5),(2,tb5),(3,tb5),(8,tb5),(10,tb5),(63,tb7)],[(1000700,tb29),(1000701,tb22),(1000702,tb30)]⟩
def tableau_maker_clear.c9r:Ck:=Ck.of (T:=Bool) tableau_maker_clear.c9s (fun ρ x_ k_=>tableau_maker_clear.c9 x_.1 x_.2.1 x_.2.2.1 x_.2.2.2.2.1 x_.2.2.2.2.2.1 k_) (fun ρ x_ r_ k_=>k_ 0 (Shape.inj tableau_maker_clear.c9x0 (x_.1,x_.2.1,x_.2.2.1,x_.2.2.2.1,x_.2.2.2.2.1,r_,x_.2.2.2.2.2)))
def tableau_maker_clear.c245062 {ρ:Type} (i:Int) (q:Int) (j_1:Int) (t1000701:List (Int×(Int×(Bool)))) (t1000702:List (Int×(Int×((List Int)×(Int×(Int×(List Int))))))) (k_:(List (Int×(Int×(Bool))))×(List (Int×(Int×((List Int)×(Int×(Int×(List Int))))))) → Option ρ):Option ρ :=
 bnd (inR (List.length t1000701) i) fun y =>
 bnd (idx t1000701 i) fun y_1 =>
 bnd (okIf (decide ((0:Int) ≤ j_1))) fun y_2 =>
 br (ibits BinOp.and IntKind.u64 (Int.fdiv (Prod.fst y_1) ((2:Int) ^ Min.min (Int.toNat j_1) (64:Nat))) (1:Int) == (1:Int))
 (bnd (W.tableau_maker_do ((2:Int),(0:Int),[j_1],q,(0:Int),[]) t1000701 t1000702) fun y_3 =>
 k_ ((Prod.fst y_3),(Prod.fst y_3.2)))
 (k_ (t1000701,t1000702))
def tableau_maker_clear.c245062s:Shape:=tableau_maker_clear.c9s
def tableau_maker_clear.c245062x0:Shape:=tableau_maker_clear.c9s
def tableau_maker_clear.c245062r:Ck:=Ck.of (T:=(List (Int×(Int×(Bool))))×(List (Int×(Int×((List Int)×(Int×(Int×(List Int)))))))) tableau_maker_clear.c245062s (fun ρ x_ k_=>tableau_maker_clear.c245062 x_.1 x_.2.1 x_.2.2.2.2.1 x_.2.2.2.2.2.1 x_.2.2.2.2.2.2.1 k_) (fun ρ x_ r_ k_=>k_ 0 (Shape.inj tableau_maker_clear.c245062x0 (x_.1,x_.2.1,x_.2.2.1,x_.2.2.2.1,x_.2.2.2.2.1,r_.1,r_.2,())))
def tableau_maker_clear.c100009 {ρ:Type} (i:Int) (q:Int) (n:Int) (j_1:Int) (t1000701:List (Int×(Int×(Bool)))) (t1000702:List (Int×(Int×((List Int)×(Int×(Int×(List Int))))))) (k_:(Int×(List (Int×(Int×(Bool))))×(List (Int×(Int×((List Int)×(Int×(Int×(List Int)))))))) ⊕ (Int×(List (Int×(Int×(Bool))))×(List (Int×(Int×((List Int)×(Int×(Int×(List Int)))))))) → Option ρ):Option ρ :=
 bnd (W.tableau_maker_clear.c9 i q n j_1 t1000701 some) fun y =>
 br y
 (bnd (W.tableau_maker_clear.c245062 i q j_1 t1000701 t1000702 some) fun y_1 =>
 k_ (.inl ((IntKind.wrap IntKind.i64 (j_1 + (1:Int))),(Prod.fst y_1),(Prod.snd y_1))))
 (k_ (.inr (j_1,t1000701,t1000702)))
def tableau_maker_clear.c100009s:Shape:=tableau_maker_clear.c9s
def tableau_maker_clear.c100009x0:Shape:=tableau_maker_clear.c9s
def tableau_maker_clear.c100009r:Ck:=Ck.ofLoop (S:=Int×(List (Int×(Int×(Bool))))×(List (Int×(Int×((List Int)×(Int×(Int×(List Int)))))))) (T:=Int×(List (Int×(Int×(Bool))))×(List (Int×(Int×((List Int)×(Int×(Int×(List Int)))))))) tableau_maker_clear.c100009s (fun x_=>(x_.2.2.2.2.1,x_.2.2.2.2.2.1,x_.2.2.2.2.2.2.1)) (fun ρ x_ s_ k_=>tableau_maker_clear.c100009 x_.1 x_.2.1 x_.2.2.1 s_.1 s_.2.1 s_.2.2 k_) (fun ρ x_ r_ k_=>k_ 4 (Shape.inj tableau_maker_clear.c100009x0 (x_.1,x_.2.1,x_.2.2.1,x_.2.2.2.1,r_.1,r_.2.1,r_.2.2,())))
def tableau_maker_clear.c265542 {ρ:Type} (i:Int) (q:Int) (j_2:Int) (t1000701:List (Int×(Int×(Bool)))) (t1000702:List (Int×(Int×((List Int)×(Int×(Int×(List Int))))))) (k_:(List (Int×(Int×(Bool))))×(List (Int×(Int×((List Int)×(Int×(Int×(List Int))))))) → Option ρ):Option ρ :=
 bnd (inR (List.length t1000701) i) fun y =>
 bnd (idx t1000701 i) fun y_1 =>
 bnd (okIf (decide ((0:Int) ≤ j_2))) fun y_2 =>
 br (ibits BinOp.and IntKind.u64 (Int.fdiv (Prod.fst y_1) ((2:Int) ^ Min.min (Int.toNat j_2) (64:Nat))) (1:Int) == (1:Int))
 (bnd (W.tableau_maker_do ((2:Int),(0:Int),[q],j_2,(0:Int),[]) t1000701 t1000702) fun y_3 =>
 k_ ((Prod.fst y_3),(Prod.fst y_3.2)))
 (k_ (t1000701,t1000702))
def tableau_maker_clear.c265542s:Shape:=⟨[(0,tb28),(1,tb5),(2,tb5),(3,tb5),(8,tb5),(10,tb5),(11,tb5)],[(1000700,tb29),(1000701,tb22),(1000702,tb30)]⟩
def tableau_maker_clear.c265542x0:Shape:=tableau_maker_clear.c265542s
def tableau_maker_clear.c265542r:Ck:=Ck.of (T:=(List (Int×(Int×(Bool))))×(List (Int×(Int×((List Int)×(Int×(Int×(List Int)))))))) tableau_maker_clear.c265542s (fun ρ x_ k_=>tableau_maker_clear.c265542 x_.1 x_.2.1 x_.2.2.2.2.2.1 x_.2.2.2.2.2.2.1 x_.2.2.2.2.2.2.2.1 k_) (fun ρ x_ r_ k_=>k_ 0 (Shape.inj tableau_maker_clear.c265542x0 (x_.1,x_.2.1,x_.2.2.1,x_.2.2.2.1,x_.2.2.2.2.1,x_.2.2.2.2.2.1,r_.1,r_.2,())))
def tableau_maker_clear.c100014 {ρ:Type} (i:Int) (q:Int) (n:Int) (j_2:Int) (t1000701:List (Int×(Int×(Bool)))) (t1000702:List (Int×(Int×((List Int)×(Int×(Int×(List Int))))))) (k_:(Int×(List (Int×(Int×(Bool))))×(List (Int×(Int×((List Int)×(Int×(Int×(List Int)))))))) ⊕ (Int×(List (Int×(Int×(Bool))))×(List (Int×(Int×((List Int)×(Int×(Int×(List Int)))))))) → Option ρ):Option ρ :=
 br (decide (j_2 < n))
 (bnd (W.tableau_maker_clear.c265542 i q j_2 t1000701 t1000702 some) fun y =>
 k_ (.inl ((IntKind.wrap IntKind.i64 (j_2 + (1:Int))),(Prod.fst y),(Prod.snd y))))
 (k_ (.inr (j_2,t1000701,t1000702)))
def tableau_maker_clear.c100014s:Shape:=tableau_maker_clear.c265542s
def tableau_maker_clear.c100014x0:Shape:=tableau_maker_clear.c265542s
def tableau_maker_clear.c100014r:Ck:=Ck.ofLoop (S:=Int×(List (Int×(Int×(Bool))))×(List (Int×(Int×((List Int)×(Int×(Int×(List Int)))))))) (T:=Int×(List (Int×(Int×(Bool))))×(List (Int×(Int×((List Int)×(Int×(Int×(List Int)))))))) tableau_maker_clear.c100014s (fun x_=>(x_.2.2.2.2.2.1,x_.2.2.2.2.2.2.1,x_.2.2.2.2.2.2.2.1)) (fun ρ x_ s_ k_=>tableau_maker_clear.c100014 x_.1 x_.2.1 x_.2.2.1 s_.1 s_.2.1 s_.2.2 k_) (fun ρ x_ r_ k_=>k_ 6 (Shape.inj tableau_maker_clear.c100014x0 (x_.1,x_.2.1,x_.2.2.1,x_.2.2.2.1,x_.2.2.2.2.1,r_.1,r_.2.1,r_.2.2,())))
def tableau_maker_clear (i:Int) (q:Int) (n:Int) (t1000701:List (Int×(Int×(Bool)))) (t1000702:List (Int×(Int×((List Int)×(Int×(Int×(List Int))))))):Option ((List (Int×(Int×(Bool))))×(List (Int×(Int×((List Int)×(Int×(Int×(List Int)))))))×Unit) :=
 bnd (iter (fun s ↦ W.tableau_maker_clear.c100001 i n (Prod.fst s) (Prod.fst (Prod.snd s)) (Prod.snd (Prod.snd s)) some) (q,t1000701,t1000702)) fun y =>
 bnd (iter (fun s ↦ W.tableau_maker_clear.c100009 i q n (Prod.fst s) (Prod.fst (Prod.snd s)) (Prod.snd (Prod.snd s)) some) (IntKind.wrap IntKind.i64 (q + (1:Int)),Prod.fst (Prod.snd y),Prod.snd (Prod.snd y))) fun y_1 =>
 bnd (iter (fun s ↦ W.tableau_maker_clear.c100014 i q n (Prod.fst s) (Prod.fst (Prod.snd s)) (Prod.snd (Prod.snd s)) some) (IntKind.wrap IntKind.i64 (q + (1:Int)),Prod.fst (Prod.snd y_1),Prod.snd (Prod.snd y_1))) fun y_2 =>
 some (Prod.fst (Prod.snd y_2),Prod.snd (Prod.snd y_2),())
def tableau_maker_clear.mc:MCallee:=⟨68,tableau_maker_clear.pre,tableau_maker_clear.post,fun x_=>tableau_maker_clear x_.1 x_.2.1 x_.2.2.1 x_.2.2.2.1 x_.2.2.2.2.1⟩
def tableau_maker_clear.G:Env:=⟨109,tab,[],[0,1,2,3,8,9,10,11,15,30,36,63,77,88,102],[1000700,1000701,1000702],[],[(100014,tableau_maker_clear.c100014r),(265542,tableau_maker_clear.c265542r),(100009,tableau_maker_clear.c100009r),(245062,tableau_maker_clear.c245062r),(9,tableau_maker_clear.c9r),(100001,tableau_maker_clear.c100001r),(212300,tableau_maker_clear.c212300r)],[(67,tableau_maker_do.mc)],tab_eqs⟩
theorem tableau_maker_clear.eq (x_:densU tableau_maker_clear.mc.pre.tys):denM tableau_maker_clear.G Try.f68 tableau_maker_clear.mc.pre tableau_maker_clear.mc.post x_ = tableau_maker_clear.mc.F x_:=by kernel_rfl
theorem tableau_maker_clear.p0:PcA tableau_maker_clear.G Try.f68 0 :=
 loop_ok (s:=tableau_maker_clear.c100001r) (by kernel_rfl) (by kernel_rfl) (loops_of (sh:=tableau_maker_clear.c100001s) (I:=fun x_ s_=>(x_.1,x_.2.1,x_.2.2.1,s_.1,s_.2.1,s_.2.2,())) (fun x_=>rfl) (fun ρ x_ s_ k_=>(nat_br (nat_bnd fun _=>nat_leaf) nat_leaf)) (fun ρ x_ t k=>(by kernel_rfl)) (fun x_ s=>by kernel_rfl))
theorem tableau_maker_clear.p1:PcA tableau_maker_clear.G Try.f68 1 :=
 join_ok (s:=tableau_maker_clear.c212300r) (by kernel_rfl) (by kernel_rfl) (sums_of (sh:=tableau_maker_clear.c212300s) (fun ρ x_ k_=>(nat_bnd fun _=>(nat_bnd fun _=>(nat_bnd fun _=>(nat_br (nat_bnd fun _=>(nat_br (nat_bnd fun _=>nat_leaf) (nat_bnd fun _=>nat_leaf))) nat_leaf))))) (fun ρ x_ t k=>(by kernel_rfl)) (fun x_=>by kernel_rfl))
theorem tableau_maker_clear.p2:PcA tableau_maker_clear.G Try.f68 2 :=
 loop_ok (s:=tableau_maker_clear.c100009r) (by kernel_rfl) (by kernel_rfl) (loops_of (sh:=tableau_maker_clear.c100009s) (I:=fun x_ s_=>(x_.1,x_.2.1,x_.2.2.1,x_.2.2.2.1,s_.1,s_.2.1,s_.2.2,())) (fun x_=>rfl) (fun ρ x_ s_ k_=>(nat_bnd fun _=>(nat_br (nat_bnd fun _=>nat_leaf) nat_leaf))) (fun ρ x_ t k=>(by kernel_rfl)) (fun x_ s=>by kernel_rfl))
theorem tableau_maker_clear.p3:PcA tableau_maker_clear.G Try.f68 3 :=
 region_ok (s:=tableau_maker_clear.c9r) (by kernel_rfl) (by kernel_rfl) (sums_of (sh:=tableau_maker_clear.c9s) (fun ρ x_ k_=>(nat_br (nat_bnd fun _=>(nat_bnd fun _=>(nat_bnd fun _=>nat_leaf))) nat_leaf)) (fun ρ x_ t k=>(by kernel_rfl)) (fun x_=>by kernel_rfl))
theorem tableau_maker_clear.p4:PcA tableau_maker_clear.G Try.f68 4 :=
 join_ok (s:=tableau_maker_clear.c245062r) (by kernel_rfl) (by kernel_rfl) (sums_of (sh:=tableau_maker_clear.c245062s) (fun ρ x_ k_=>(nat_bnd fun _=>(nat_bnd fun _=>(nat_bnd fun _=>(nat_br (nat_bnd fun _=>nat_leaf) nat_leaf))))) (fun ρ x_ t k=>(by kernel_rfl)) (fun x_=>by kernel_rfl))
theorem tableau_maker_clear.p5:PcA tableau_maker_clear.G Try.f68 5 :=
 loop_ok (s:=tableau_maker_clear.c100014r) (by kernel_rfl) (by kernel_rfl) (loops_of (sh:=tableau_maker_clear.c100014s) (I:=fun x_ s_=>(x_.1,x_.2.1,x_.2.2.1,x_.2.2.2.1,x_.2.2.2.2.1,s_.1,s_.2.1,s_.2.2,())) (fun x_=>rfl) (fun ρ x_ s_ k_=>(nat_br (nat_bnd fun _=>nat_leaf) nat_leaf)) (fun ρ x_ t k=>(by kernel_rfl)) (fun x_ s=>by kernel_rfl))
theorem tableau_maker_clear.p6:PcA tableau_maker_clear.G Try.f68 6 :=
 join_ok (s:=tableau_maker_clear.c265542r) (by kernel_rfl) (by kernel_rfl) (sums_of (sh:=tableau_maker_clear.c265542s) (fun ρ x_ k_=>(nat_bnd fun _=>(nat_bnd fun _=>(nat_bnd fun _=>(nat_br (nat_bnd fun _=>nat_leaf) nat_leaf))))) (fun ρ x_ t k=>(by kernel_rfl)) (fun x_=>by kernel_rfl))
theorem tableau_maker_clear.ok:MOk Try.prog 68 tableau_maker_clear.mc:=fnm_ok (G:=tableau_maker_clear.G) tab_ok mixed Try.func68 ⟨fns_nil,(mfns_cons tableau_maker_do.ok mfns_nil),tab_eqs_ok⟩ (m:=7) (by kernel_rfl) ⟨⟨⟨⟨⟨⟨⟨trivial,tableau_maker_clear.p0⟩,tableau_maker_clear.p1⟩,tableau_maker_clear.p2⟩,tableau_maker_clear.p3⟩,tableau_maker_clear.p4⟩,tableau_maker_clear.p5⟩,tableau_maker_clear.p6⟩ (by kernel_rfl) tableau_maker_clear.eq
abbrev tb31:SD:=.one (.val (.sl (.st (.pair (.int .i64) (.pair (.int .i64) (.pair (.sl (.int .i64)) (.pair (.int .i64) (.pair (.int .i64) (.sl (.int .i64))))))))))
abbrev tb32:SO:=.box [.own 9 0,.own 2011 0]
def tableau_Standing.c236872 {ρ:Type} (i:Int) (t30:Int) (t9:List (Int×(Int×(Bool)))) (t2011:List (Int×(Int×((List Int)×(Int×(Int×(List Int))))))) (k_:(List (Int×(Int×(Bool))))×(List (Int×(Int×((List Int)×(Int×(Int×(List Int))))))) → Option ρ):Option ρ :=
 bnd (inR (List.length t9) i) fun y =>
 bnd (idx t9 i) fun y_1 =>
 bnd (okIf (decide ((0:Int) ≤ t30))) fun y_2 =>
 br (ibits BinOp.and IntKind.u64 (Int.fdiv (Prod.fst (Prod.snd y_1)) ((2:Int) ^ Min.min (Int.toNat t30) (64:Nat))) (1:Int) == (1:Int))
 (bnd (W.tableau_maker_do ((2:Int),(0:Int),[t30],i,(0:Int),[]) t9 t2011) fun y_3 =>
 k_ ((Prod.fst y_3),(Prod.fst y_3.2)))
 (k_ (t9,t2011))
def tableau_Standing.c236872s:Shape:=⟨[(0,tb17),(1,tb5),(4,tb31),(5,tb23),(6,tb5),(16,tb5),(17,tb5),(29,tb5),(30,tb5)],[(9,tb22),(11,tb32),(2011,tb30)]⟩
def tableau_Standing.c236872x0:Shape:=tableau_Standing.c236872s
def tableau_Standing.c236872r:Ck:=Ck.of (T:=(List (Int×(Int×(Bool))))×(List (Int×(Int×((List Int)×(Int×(Int×(List Int)))))))) tableau_Standing.c236872s (fun ρ x_ k_=>tableau_Standing.c236872 x_.2.2.2.1 x_.2.2.2.2.2.2.2.1 x_.2.2.2.2.2.2.2.2.1 x_.2.2.2.2.2.2.2.2.2.1 k_) (fun ρ x_ r_ k_=>k_ 0 (Shape.inj tableau_Standing.c236872x0 (x_.1,x_.2.1,x_.2.2.1,x_.2.2.2.1,x_.2.2.2.2.1,x_.2.2.2.2.2.1,x_.2.2.2.2.2.2.1,x_.2.2.2.2.2.2.2.1,r_.1,r_.2,())))
def tableau_Standing.c100008 {ρ:Type} (i:Int) (t29:Int) (t30:Int) (t9:List (Int×(Int×(Bool)))) (t2011:List (Int×(Int×((List Int)×(Int×(Int×(List Int))))))) (k_:(Int×(List (Int×(Int×(Bool))))×(List (Int×(Int×((List Int)×(Int×(Int×(List Int)))))))) ⊕ (Int×(List (Int×(Int×(Bool))))×(List (Int×(Int×((List Int)×(Int×(Int×(List Int)))))))) → Option ρ):Option ρ :=
 br (decide (t30 < t29))
 (bnd (W.tableau_Standing.c236872 i t30 t9 t2011 some) fun y =>
 k_ (.inl ((IntKind.wrap IntKind.i64 (t30 + (1:Int))),(Prod.fst y),(Prod.snd y))))
 (k_ (.inr (t30,t9,t2011)))
def tableau_Standing.c100008s:Shape:=tableau_Standing.c236872s
def tableau_Standing.c100008x0:Shape:=tableau_Standing.c236872s
def tableau_Standing.c100008r:Ck:=Ck.ofLoop (S:=Int×(List (Int×(Int×(Bool))))×(List (Int×(Int×((List Int)×(Int×(Int×(List Int)))))))) (T:=Int×(List (Int×(Int×(Bool))))×(List (Int×(Int×((List Int)×(Int×(Int×(List Int)))))))) tableau_Standing.c100008s (fun x_=>(x_.2.2.2.2.2.2.2.1,x_.2.2.2.2.2.2.2.2.1,x_.2.2.2.2.2.2.2.2.2.1)) (fun ρ x_ s_ k_=>tableau_Standing.c100008 x_.2.2.2.1 x_.2.2.2.2.2.2.1 s_.1 s_.2.1 s_.2.2 k_) (fun ρ x_ r_ k_=>k_ 4 (Shape.inj tableau_Standing.c100008x0 (x_.1,x_.2.1,x_.2.2.1,x_.2.2.2.1,x_.2.2.2.2.1,x_.2.2.2.2.2.1,x_.2.2.2.2.2.2.1,r_.1,r_.2.1,r_.2.2,())))
def tableau_Standing.c216417 {ρ:Type} (n:Int) (t17:Int) (t9:List (Int×(Int×(Bool)))) (t2011:List (Int×(Int×((List Int)×(Int×(Int×(List Int))))))) (k_:(List (Int×(Int×(Bool))))×(List (Int×(Int×((List Int)×(Int×(Int×(List Int))))))) → Option ρ):Option ρ :=
 bnd (W.tableau_maker_clear t17 t17 n t9 t2011) fun y =>
 bnd (W.tableau_maker_do ((3:Int),(0:Int),[],t17,(0:Int),[]) (Prod.fst y) (Prod.fst y.2)) fun y_1 =>
 bnd (iter (fun s ↦ W.tableau_Standing.c100008 t17 t17 (Prod.fst s) (Prod.fst (Prod.snd s)) (Prod.snd (Prod.snd s)) some) ((0:Int),Prod.fst y_1,Prod.fst y_1.2)) fun y_2 =>
 bnd (inR (List.length (Prod.fst (Prod.snd y_2))) t17) fun y_3 =>
 bnd (idx (Prod.fst (Prod.snd y_2)) t17) fun y_4 =>
 br (Prod.snd (Prod.snd y_4))
 (bnd (W.tableau_maker_do ((2:Int),(0:Int),[],t17,(0:Int),[]) (Prod.fst (Prod.snd y_2)) (Prod.snd (Prod.snd y_2))) fun y_5 =>
 k_ ((Prod.fst y_5),(Prod.fst y_5.2)))
 (k_ ((Prod.fst (Prod.snd y_2)),(Prod.snd (Prod.snd y_2))))
def tableau_Standing.c216417s:Shape:=⟨[(0,tb17),(1,tb5),(4,tb31),(5,tb23),(16,tb5),(17,tb5)],[(9,tb22),(11,tb32),(2011,tb30)]⟩
def tableau_Standing.c216417x0:Shape:=tableau_Standing.c216417s
def tableau_Standing.c216417r:Ck:=Ck.of (T:=(List (Int×(Int×(Bool))))×(List (Int×(Int×((List Int)×(Int×(Int×(List Int)))))))) tableau_Standing.c216417s (fun ρ x_ k_=>tableau_Standing.c216417 x_.2.1 x_.2.2.2.2.1 x_.2.2.2.2.2.1 x_.2.2.2.2.2.2.1 k_) (fun ρ x_ r_ k_=>k_ 0 (Shape.inj tableau_Standing.c216417x0 (x_.1,x_.2.1,x_.2.2.1,x_.2.2.2.1,x_.2.2.2.2.1,r_.1,r_.2,())))
def tableau_Standing.c100003 {ρ:Type} (n:Int) (t16:Int) (t17:Int) (t9:List (Int×(Int×(Bool)))) (t2011:List (Int×(Int×((List Int)×(Int×(Int×(List Int))))))) (k_:(Int×(List (Int×(Int×(Bool))))×(List (Int×(Int×((List Int)×(Int×(Int×(List Int)))))))) ⊕ (Int×(List (Int×(Int×(Bool))))×(List (Int×(Int×((List Int)×(Int×(Int×(List Int)))))))) → Option ρ):Option ρ :=
 br (decide (t17 < t16))
 (bnd (W.tableau_Standing.c216417 n t17 t9 t2011 some) fun y =>
 k_ (.inl ((IntKind.wrap IntKind.i64 (t17 + (1:Int))),(Prod.fst y),(Prod.snd y))))
 (k_ (.inr (t17,t9,t2011)))
def tableau_Standing.c100003s:Shape:=tableau_Standing.c216417s
def tableau_Standing.c100003x0:Shape:=tableau_Standing.c216417s
def tableau_Standing.c100003r:Ck:=Ck.ofLoop (S:=Int×(List (Int×(Int×(Bool))))×(List (Int×(Int×((List Int)×(Int×(Int×(List Int)))))))) (T:=Int×(List (Int×(Int×(Bool))))×(List (Int×(Int×((List Int)×(Int×(Int×(List Int)))))))) tableau_Standing.c100003s (fun x_=>(x_.2.2.2.2.1,x_.2.2.2.2.2.1,x_.2.2.2.2.2.2.1)) (fun ρ x_ s_ k_=>tableau_Standing.c100003 x_.2.1 x_.2.2.2.1 s_.1 s_.2.1 s_.2.2 k_) (fun ρ x_ r_ k_=>k_ 2 (Shape.inj tableau_Standing.c100003x0 (x_.1,x_.2.1,x_.2.2.1,x_.2.2.2.1,r_.1,r_.2.1,r_.2.2,())))
def tableau_Standing (l:List (Int×(Int×(Bool)))) (n:Int):Option (List (Int×(Int×((List Int)×(Int×(Int×(List Int))))))) :=
 bnd (okIf (decide (((0:Nat) + List.length l) * (24:Nat) ≤ (140737488355328:Nat)) && decide ((0:Nat) + List.length l ≤ (140737488355328:Nat)))) fun y =>
 bnd (iter (fun s ↦ W.tableau_Standing.c100003 n (↑(List.length l):Int) (Prod.fst s) (Prod.fst (Prod.snd s)) (Prod.snd (Prod.snd s)) some) ((0:Int),l,[])) fun y_1 =>
 some (Prod.snd (Prod.snd y_1))
def tableau_Standing.ce:Go.Ql.Callee:=⟨[(.sl (.st (.pair (.int .u64) (.pair (.int .u64) .bool)))),(.int .i64)],[(.sl (.st (.pair (.int .i64) (.pair (.int .i64) (.pair (.sl (.int .i64)) (.pair (.int .i64) (.pair (.int .i64) (.sl (.int .i64)))))))))],fun x_=>tableau_Standing x_.1 x_.2⟩
def tableau_Standing.G:Env:=⟨69,tab,[],[0,1,4,5,6,7,16,17,18,29,30,31,44,59],[9,10,11,2011],[],[(100003,tableau_Standing.c100003r),(216417,tableau_Standing.c216417r),(100008,tableau_Standing.c100008r),(236872,tableau_Standing.c236872r)],[(68,tableau_maker_clear.mc),(67,tableau_maker_do.mc)],tab_eqs⟩
theorem tableau_Standing.eq (x_:dens tableau_Standing.ce.params):den tableau_Standing.G Try.f71 tableau_Standing.ce.params tableau_Standing.ce.res x_ = tableau_Standing.ce.F x_:=by kernel_rfl
theorem tableau_Standing.p0:PcA tableau_Standing.G Try.f71 0 :=
 loop_ok (s:=tableau_Standing.c100003r) (by kernel_rfl) (by kernel_rfl) (loops_of (sh:=tableau_Standing.c100003s) (I:=fun x_ s_=>(x_.1,x_.2.1,x_.2.2.1,x_.2.2.2.1,s_.1,s_.2.1,s_.2.2,())) (fun x_=>rfl) (fun ρ x_ s_ k_=>(nat_br (nat_bnd fun _=>nat_leaf) nat_leaf)) (fun ρ x_ t k=>(by kernel_rfl)) (fun x_ s=>by kernel_rfl))
theorem tableau_Standing.p1:PcA tableau_Standing.G Try.f71 1 :=
 join_ok (s:=tableau_Standing.c216417r) (by kernel_rfl) (by kernel_rfl) (sums_of (sh:=tableau_Standing.c216417s) (fun ρ x_ k_=>(nat_bnd fun _=>(nat_bnd fun _=>(nat_bnd fun _=>(nat_bnd fun _=>(nat_bnd fun _=>(nat_br (nat_bnd fun _=>nat_leaf) nat_leaf))))))) (fun ρ x_ t k=>(by kernel_rfl)) (fun x_=>by kernel_rfl))
theorem tableau_Standing.p2:PcA tableau_Standing.G Try.f71 2 :=
 loop_ok (s:=tableau_Standing.c100008r) (by kernel_rfl) (by kernel_rfl) (loops_of (sh:=tableau_Standing.c100008s) (I:=fun x_ s_=>(x_.1,x_.2.1,x_.2.2.1,x_.2.2.2.1,x_.2.2.2.2.1,x_.2.2.2.2.2.1,x_.2.2.2.2.2.2.1,s_.1,s_.2.1,s_.2.2,())) (fun x_=>rfl) (fun ρ x_ s_ k_=>(nat_br (nat_bnd fun _=>nat_leaf) nat_leaf)) (fun ρ x_ t k=>(by kernel_rfl)) (fun x_ s=>by kernel_rfl))
theorem tableau_Standing.p3:PcA tableau_Standing.G Try.f71 3 :=
 join_ok (s:=tableau_Standing.c236872r) (by kernel_rfl) (by kernel_rfl) (sums_of (sh:=tableau_Standing.c236872s) (fun ρ x_ k_=>(nat_bnd fun _=>(nat_bnd fun _=>(nat_bnd fun _=>(nat_br (nat_bnd fun _=>nat_leaf) nat_leaf))))) (fun ρ x_ t k=>(by kernel_rfl)) (fun x_=>by kernel_rfl))
theorem tableau_Standing.ok:CalleeOk Try.prog 71 tableau_Standing.ce:=fn_ok (G:=tableau_Standing.G) tab_ok mixed Try.func71 ⟨fns_nil,(mfns_cons tableau_maker_clear.ok (mfns_cons tableau_maker_do.ok mfns_nil)),tab_eqs_ok⟩ (m:=4) (by kernel_rfl) ⟨⟨⟨⟨trivial,tableau_Standing.p0⟩,tableau_Standing.p1⟩,tableau_Standing.p2⟩,tableau_Standing.p3⟩ (by kernel_rfl) tableau_Standing.eq
def circ_fault (code:Int) (t1:Int):Option (Int×Int) :=
 some (code,t1)
def circ_fault.ce:Go.Ql.Callee:=⟨[(.int .i64),(.int .i64)],[(.st (.pair (.int .i64) (.int .i64)))],fun x_=>circ_fault x_.1 x_.2⟩
def circ_fault.G:Env:=⟨8,tab,[],[0,1,4],[],[],[],[],tab_eqs⟩
theorem circ_fault.eq (x_:dens circ_fault.ce.params):den circ_fault.G Try.f80 circ_fault.ce.params circ_fault.ce.res x_ = circ_fault.ce.F x_:=by kernel_rfl
theorem circ_fault.ok:CalleeOk Try.prog 80 circ_fault.ce:=fn_ok (G:=circ_fault.G) tab_ok mixed Try.func80 ⟨fns_nil,mfns_nil,tab_eqs_ok⟩ (m:=0) (by kernel_rfl) trivial (by kernel_rfl) circ_fault.eq
def circ_turns.c1 {ρ:Type} (kind:Int) (k_:Bool → Option ρ):Option ρ :=
 br (kind == (1:Int))
 (k_ true)
 (k_ (kind == (4:Int)))
def circ_turns.c1s:Shape:=⟨[(0,tb5),(2,tb7)],[]⟩
def circ_turns.c1x0:Shape:=circ_turns.c1s
def circ_turns.c1r:Ck:=Ck.of (T:=Bool) circ_turns.c1s (fun ρ x_ k_=>circ_turns.c1 x_.1 k_) (fun ρ x_ r_ k_=>k_ 0 (Shape.inj circ_turns.c1x0 (x_.1,r_,())))
def circ_turns (kind:Int):Option (Bool) :=
 bnd (W.circ_turns.c1 kind some) fun y =>
 some y
def circ_turns.ce:Go.Ql.Callee:=⟨[(.int .i64)],[.bool],fun x_=>circ_turns x_⟩
def circ_turns.G:Env:=⟨9,tab,[],[0,2],[],[],[(1,circ_turns.c1r)],[],tab_eqs⟩
theorem circ_turns.eq (x_:dens circ_turns.ce.params):den circ_turns.G Try.f116 circ_turns.ce.params circ_turns.ce.res x_ = circ_turns.ce.F x_:=by kernel_rfl
theorem circ_turns.p0:PcA circ_turns.G Try.f116 0 :=
 region_ok (s:=circ_turns.c1r) (by kernel_rfl) (by kernel_rfl) (sums_of (sh:=circ_turns.c1s) (fun ρ x_ k_=>(nat_br nat_leaf nat_leaf)) (fun ρ x_ t k=>(by kernel_rfl)) (fun x_=>by kernel_rfl))
theorem circ_turns.ok:CalleeOk Try.prog 116 circ_turns.ce:=fn_ok (G:=circ_turns.G) tab_ok mixed Try.func116 ⟨fns_nil,mfns_nil,tab_eqs_ok⟩ (m:=1) (by kernel_rfl) ⟨trivial,circ_turns.p0⟩ (by kernel_rfl) circ_turns.eq
def circ_gate.c1 {ρ:Type} (kind:Int) (k_:Bool → Option ρ):Option ρ :=
 br (kind == (2:Int))
 (k_ true)
 (br (kind == (3:Int))
 (k_ true)
 (k_ (kind == (4:Int))))
def circ_gate.c1s:Shape:=⟨[(0,tb5),(2,tb7)],[]⟩
def circ_gate.c1x0:Shape:=circ_gate.c1s
def circ_gate.c1r:Ck:=Ck.of (T:=Bool) circ_gate.c1s (fun ρ x_ k_=>circ_gate.c1 x_.1 k_) (fun ρ x_ r_ k_=>k_ 0 (Shape.inj circ_gate.c1x0 (x_.1,r_,())))
def circ_gate (kind:Int):Option (Bool) :=
 bnd (W.circ_gate.c1 kind some) fun y =>
 some y
def circ_gate.ce:Go.Ql.Callee:=⟨[(.int .i64)],[.bool],fun x_=>circ_gate x_⟩
def circ_gate.G:Env:=⟨13,tab,[],[0,2],[],[],[(1,circ_gate.c1r)],[],tab_eqs⟩
theorem circ_gate.eq (x_:dens circ_gate.ce.params):den circ_gate.G Try.f117 circ_gate.ce.params circ_gate.ce.res x_ = circ_gate.ce.F x_:=by kernel_rfl
theorem circ_gate.p0:PcA circ_gate.G Try.f117 0 :=
 region_ok (s:=circ_gate.c1r) (by kernel_rfl) (by kernel_rfl) (sums_of (sh:=circ_gate.c1s) (fun ρ x_ k_=>(nat_br nat_leaf (nat_br nat_leaf nat_leaf))) (fun ρ x_ t k=>(by kernel_rfl)) (fun x_=>by kernel_rfl))
theorem circ_gate.ok:CalleeOk Try.prog 117 circ_gate.ce:=fn_ok (G:=circ_gate.G) tab_ok mixed Try.func117 ⟨fns_nil,mfns_nil,tab_eqs_ok⟩ (m:=1) (by kernel_rfl) ⟨trivial,circ_gate.p0⟩ (by kernel_rfl) circ_gate.eq
abbrev tb33:SD:=.one (.ref 1000100 0)
abbrev tb34:SO:=.box [.val (.int .i64),.val (.int .i64),.val (.sl (.st (.pair (.int .i64) (.pair (.int .i64) (.pair (.sl (.int .i64)) (.pair (.int .i64) (.pair (.int .i64) (.sl (.int .i64)))))))))]
abbrev tb35:SD:=.one (.aptr 5 0)
abbrev tb36:SD:=.one (.val (.sl (.int .i64)))
abbrev tb37:SO:=.arr 0 false 152 .bool
def circ_one.pre:Shape:=⟨[(0,tb25),(1,tb33)],[(1000100,tb34)]⟩
def circ_one.post:Shape:=⟨[(0,tb5)],[(1000100,tb34)]⟩
def circ_one.c1 {ρ:Type} (o0:Int) (k_:Bool → Option ρ):Option ρ :=
 br (decide (o0 < (1:Int)))
 (k_ true)
 (k_ (decide (o0 > (6:Int))))
def circ_one.c1s:Shape:=⟨[(0,tb25),(1,tb33),(2,tb2),(4,tb5)],[(2,tb26),(1000100,tb34)]⟩
def circ_one.c1x0:Shape:=⟨[(0,tb25),(1,tb33),(2,tb2),(4,tb5),(17,tb7)],[(2,tb26),(1000100,tb34)]⟩
def circ_one.c1r:Ck:=Ck.of (T:=Bool) circ_one.c1s (fun ρ x_ k_=>circ_one.c1 x_.2.2.1 k_) (fun ρ x_ r_ k_=>k_ 0 (Shape.inj circ_one.c1x0 (x_.1,x_.2.1,r_,x_.2.2)))
def circ_one.c3 {ρ:Type} (o0:Int) (o1:Int) (k_:Bool → Option ρ):Option ρ :=
 br (decide (o1 < (0:Int)))
 (k_ true)
 (br (decide (o1 > (15:Int)))
 (k_ true)
 (bnd (W.circ_turns o0) fun y =>
 br (!y)
 (k_ (o1 != (0:Int)))
 (k_ false)))
def circ_one.c3s:Shape:=circ_one.c1s
def circ_one.c3x0:Shape:=⟨[(0,tb25),(1,tb33),(2,tb2),(4,tb5),(36,tb7)],[(2,tb26),(1000100,tb34)]⟩
def circ_one.c3r:Ck:=Ck.of (T:=Bool) circ_one.c3s (fun ρ x_ k_=>circ_one.c3 x_.2.2.1 x_.2.2.2.1 k_) (fun ρ x_ r_ k_=>k_ 0 (Shape.inj circ_one.c3x0 (x_.1,x_.2.1,r_,x_.2.2)))
def circ_one.c5 {ρ:Type} (o0:Int) (o3:Int) (t10001000:Int) (k_:Bool → Option ρ):Option ρ :=
 br (decide (o3 < (0:Int)))
 (k_ true)
 (br (decide (o3 ≥ t10001000))
 (k_ true)
 (br (o0 == (1:Int))
 (k_ (o3 != (0:Int)))
 (k_ false)))
def circ_one.c5s:Shape:=circ_one.c1s
def circ_one.c5x0:Shape:=⟨[(0,tb25),(1,tb33),(2,tb2),(4,tb5),(58,tb7)],[(2,tb26),(1000100,tb34)]⟩
def circ_one.c5r:Ck:=Ck.of (T:=Bool) circ_one.c5s (fun ρ x_ k_=>circ_one.c5 x_.2.2.1 x_.2.2.2.2.2.1 x_.2.2.2.2.2.2.2.2.1 k_) (fun ρ x_ r_ k_=>k_ 0 (Shape.inj circ_one.c5x0 (x_.1,x_.2.1,r_,x_.2.2)))
def circ_one.c7 {ρ:Type} (o0:Int) (o2:List Int) (k_:Bool → Option ρ):Option ρ :=
 br (decide ((↑(List.length o2):Int) > (0:Int)))
 (bnd (W.circ_gate o0) fun y =>
 k_ (!y))
 (k_ false)
def circ_one.c7s:Shape:=circ_one.c1s
def circ_one.c7x0:Shape:=⟨[(0,tb25),(1,tb33),(2,tb2),(4,tb5),(68,tb7)],[(2,tb26),(1000100,tb34)]⟩
def circ_one.c7r:Ck:=Ck.of (T:=Bool) circ_one.c7s (fun ρ x_ k_=>circ_one.c7 x_.2.2.1 x_.2.2.2.2.1 k_) (fun ρ x_ r_ k_=>k_ 0 (Shape.inj circ_one.c7x0 (x_.1,x_.2.1,r_,x_.2.2)))
def circ_one.c14 {ρ:Type} (q:Int) (t10001000:Int) (k_:Bool → Option ρ):Option ρ :=
 br (decide (q < (0:Int)))
 (k_ true)
 (k_ (decide (q ≥ t10001000)))
def circ_one.c14s:Shape:=⟨[(0,tb25),(1,tb33),(2,tb2),(4,tb5),(5,tb35),(7,tb5),(74,tb36),(75,tb5),(76,tb5)],[(2,tb26),(5,tb37),(1000100,tb34)]⟩
def circ_one.c14x0:Shape:=⟨[(0,tb25),(1,tb33),(2,tb2),(4,tb5),(5,tb35),(7,tb5),(74,tb36),(75,tb5),(76,tb5),(80,tb7)],[(2,tb26),(5,tb37),(1000100,tb34)]⟩
def circ_one.c14r:Ck:=Ck.of (T:=Bool) circ_one.c14s (fun ρ x_ k_=>circ_one.c14 x_.2.2.1 x_.2.2.2.2.2.2.2.2.2.2.2.2.2.1 k_) (fun ρ x_ r_ k_=>k_ 0 (Shape.inj circ_one.c14x0 (x_.1,x_.2.1,x_.2.2.1,x_.2.2.2.1,x_.2.2.2.2.1,x_.2.2.2.2.2.1,r_,x_.2.2.2.2.2.2)))
def circ_one.c100012 {ρ:Type} (t74:List Int) (t75:Int) (t76:Int) (seen:List (Bool)) (t10001000:Int) (k_:(Int×(List (Bool))) ⊕ ((Int×Int×(List (Bool))) ⊕ (Int×(List (Bool)))) → Option ρ):Option ρ :=
 br (decide (t76 < t75))
 (bnd (idx t74 t76) fun y =>
 bnd (W.circ_one.c14 y t10001000 some) fun y_1 =>
 br y_1
 (k_ (.inr (.inl ((10:Int),t76,seen))))
 (bnd (okIf (decide ((0:Ty.den (Ty.int IntKind.i64)) ≤ y) && decide (y < (↑(12:Nat):Int)))) fun y_2 =>
 bnd (inR (List.length seen) y) fun y_3 =>
 bnd (idx seen y) fun y_4 =>
 br y_4
 (k_ (.inr (.inl ((12:Int),t76,seen))))
 (bnd (okIf (decide ((0:Ty.den (Ty.int IntKind.i64)) ≤ y) && decide (y < (↑(12:Nat):Int)))) fun y_5 =>
 bnd (inR (List.length seen) y) fun y_6 =>
 bnd (idx seen y) fun y_7 =>
 k_ (.inl ((IntKind.wrap IntKind.i64 (t76 + (1:Int))),(List.set seen (Int.toNat y) true))))))
 (k_ (.inr (.inr (t76,seen))))
def circ_one.c100012s:Shape:=⟨[(0,tb25),(1,tb33),(2,tb2),(4,tb5),(5,tb35),(74,tb36),(75,tb5),(76,tb5)],[(2,tb26),(5,tb37),(1000100,tb34)]⟩
def circ_one.c100012x0:Shape:=circ_one.c100012s
def circ_one.c100012x1:Shape:=circ_one.c100012s
def circ_one.c100012r:Ck:=Ck.ofLoop (S:=Int×(List (Bool))) (T:=(Int×Int×(List (Bool))) ⊕ (Int×(List (Bool)))) circ_one.c100012s (fun x_=>(x_.2.2.2.2.1,x_.2.2.2.2.2.2.2.2.2.2.2.1)) (fun ρ x_ s_ k_=>circ_one.c100012 x_.2.2.1 x_.2.2.2.1 s_.1 s_.2 x_.2.2.2.2.2.2.2.2.2.2.2.2.1 k_) (fun ρ x_ r_ k_=>sel r_ (fun r_=>k_ 1 (Shape.inj circ_one.c100012x0 (x_.1,r_.1,x_.2.2.1,x_.2.2.2.1,r_.2.1,x_.2.2.2.2.2.1,x_.2.2.2.2.2.2.1,x_.2.2.2.2.2.2.2.1,x_.2.2.2.2.2.2.2.2.1,x_.2.2.2.2.2.2.2.2.2.1,x_.2.2.2.2.2.2.2.2.2.2.1,r_.2.2,x_.2.2.2.2.2.2.2.2.2.2.2.2))) (fun r_=>k_ 2 (Shape.inj circ_one.c100012x1 (x_.1,x_.2.1,x_.2.2.1,x_.2.2.2.1,r_.1,x_.2.2.2.2.2.1,x_.2.2.2.2.2.2.1,x_.2.2.2.2.2.2.2.1,x_.2.2.2.2.2.2.2.2.1,x_.2.2.2.2.2.2.2.2.2.1,x_.2.2.2.2.2.2.2.2.2.2.1,r_.2,x_.2.2.2.2.2.2.2.2.2.2.2.2))))
def circ_one.c20 {ρ:Type} (o0:Int) (o4:Int) (t10001001:Int) (k_:Bool → Option ρ):Option ρ :=
 br (o0 == (5:Int))
 (br (decide (o4 < (0:Int)))
 (k_ true)
 (br (decide (o4 ≥ t10001001))
 (k_ true)
 (br (o0 != (5:Int))
 (k_ (o4 != (0:Int)))
 (k_ false))))
 (br (o0 != (5:Int))
 (k_ (o4 != (0:Int)))
 (k_ false))
def circ_one.c20s:Shape:=circ_one.c100012s
def circ_one.c20x0:Shape:=⟨[(0,tb25),(1,tb33),(2,tb2),(4,tb5),(5,tb35),(74,tb36),(75,tb5),(76,tb5),(124,tb7)],[(2,tb26),(5,tb37),(1000100,tb34)]⟩
def circ_one.c20r:Ck:=Ck.of (T:=Bool) circ_one.c20s (fun ρ x_ k_=>circ_one.c20 x_.2.2.2.2.2.1 x_.2.2.2.2.2.2.2.2.2.1 x_.2.2.2.2.2.2.2.2.2.2.2.2.2.1 k_) (fun ρ x_ r_ k_=>k_ 0 (Shape.inj circ_one.c20x0 (x_.1,x_.2.1,x_.2.2.1,x_.2.2.2.1,x_.2.2.2.2.1,r_,x_.2.2.2.2.2)))
def circ_one.c27 {ρ:Type} (v:Int) (t10001001:Int) (k_:Bool → Option ρ):Option ρ :=
 br (v == (0:Int))
 (k_ true)
 (br (decide (v > t10001001))
 (k_ true)
 (k_ (decide (v < IntKind.wrap IntKind.i64 ((0:Int) - t10001001)))))
def circ_one.c27s:Shape:=⟨[(0,tb25),(1,tb33),(2,tb2),(4,tb5),(5,tb35),(9,tb5),(74,tb36),(75,tb5),(76,tb5),(130,tb36),(131,tb5),(132,tb5)],[(2,tb26),(5,tb37),(1000100,tb34)]⟩
def circ_one.c27x0:Shape:=⟨[(0,tb25),(1,tb33),(2,tb2),(4,tb5),(5,tb35),(9,tb5),(74,tb36),(75,tb5),(76,tb5),(130,tb36),(131,tb5),(132,tb5),(154,tb7)],[(2,tb26),(5,tb37),(1000100,tb34)]⟩
def circ_one.c27r:Ck:=Ck.of (T:=Bool) circ_one.c27s (fun ρ x_ k_=>circ_one.c27 x_.2.2.1 x_.2.2.2.2.2.2.2.2.2.2.2.2.2.2.2.2.2.1 k_) (fun ρ x_ r_ k_=>k_ 0 (Shape.inj circ_one.c27x0 (x_.1,x_.2.1,x_.2.2.1,x_.2.2.2.1,x_.2.2.2.2.1,x_.2.2.2.2.2.1,x_.2.2.2.2.2.2.1,x_.2.2.2.2.2.2.2.1,x_.2.2.2.2.2.2.2.2.1,r_,x_.2.2.2.2.2.2.2.2.2)))
def circ_one.c100025 {ρ:Type} (t130:List Int) (t131:Int) (t132:Int) (t10001001:Int) (k_:Int ⊕ (Int ⊕ Int) → Option ρ):Option ρ :=
 br (decide (t132 < t131))
 (bnd (idx t130 t132) fun y =>
 bnd (W.circ_one.c27 y t10001001 some) fun y_1 =>
 br y_1
 (k_ (.inr (.inl t132)))
 (k_ (.inl (IntKind.wrap IntKind.i64 (t132 + (1:Int))))))
 (k_ (.inr (.inr t132)))
def circ_one.c100025s:Shape:=⟨[(0,tb25),(1,tb33),(2,tb2),(4,tb5),(5,tb35),(74,tb36),(75,tb5),(76,tb5),(130,tb36),(131,tb5),(132,tb5)],[(2,tb26),(5,tb37),(1000100,tb34)]⟩
def circ_one.c100025x0:Shape:=circ_one.c100025s
def circ_one.c100025x1:Shape:=circ_one.c100025s
def circ_one.c100025r:Ck:=Ck.ofLoop (S:=Int) (T:=Int ⊕ Int) circ_one.c100025s (fun x_=>x_.2.2.2.2.2.2.2.1) (fun ρ x_ s_ k_=>circ_one.c100025 x_.2.2.2.2.2.1 x_.2.2.2.2.2.2.1 s_ x_.2.2.2.2.2.2.2.2.2.2.2.2.2.2.2.2.1 k_) (fun ρ x_ r_ k_=>sel r_ (fun r_=>k_ 1 (Shape.inj circ_one.c100025x0 (x_.1,(14:Int),x_.2.2.1,x_.2.2.2.1,x_.2.2.2.2.1,x_.2.2.2.2.2.1,x_.2.2.2.2.2.2.1,r_,x_.2.2.2.2.2.2.2.2))) (fun r_=>k_ 5 (Shape.inj circ_one.c100025x1 (x_.1,x_.2.1,x_.2.2.1,x_.2.2.2.1,x_.2.2.2.2.1,x_.2.2.2.2.2.1,x_.2.2.2.2.2.2.1,r_,x_.2.2.2.2.2.2.2.2))))
def circ_one (o:Int×(Int×((List Int)×(Int×(Int×(List Int)))))) (t10001000:Int) (t10001001:Int) (t10001002:List (Int×(Int×((List Int)×(Int×(Int×(List Int))))))):Option (Int×Int×Int×(List (Int×(Int×((List Int)×(Int×(Int×(List Int)))))))×Unit) :=
 bnd (W.circ_one.c1 (Prod.fst o) some) fun y =>
 br y
 (some ((8:Int),t10001000,t10001001,t10001002,()))
 (bnd (W.circ_one.c3 (Prod.fst o) (Prod.fst (Prod.snd o)) some) fun y_1 =>
 br y_1
 (some ((9:Int),t10001000,t10001001,t10001002,()))
 (bnd (W.circ_one.c5 (Prod.fst o) (Prod.fst (Prod.snd (Prod.snd (Prod.snd o)))) t10001000 some) fun y_2 =>
 br y_2
 (some ((10:Int),t10001000,t10001001,t10001002,()))
 (bnd (W.circ_one.c7 (Prod.fst o) (Prod.fst (Prod.snd (Prod.snd o))) some) fun y_3 =>
 br y_3
 (some ((11:Int),t10001000,t10001001,t10001002,()))
 (bnd (okIf (decide ((0:Ty.den (Ty.int IntKind.i64)) ≤ Prod.fst (Prod.snd (Prod.snd (Prod.snd o)))) && decide (Prod.fst (Prod.snd (Prod.snd (Prod.snd o))) < (↑(12:Nat):Int)))) fun y_4 =>
 bnd (inR (List.length (List.replicate (12:Nat) false)) (Prod.fst (Prod.snd (Prod.snd (Prod.snd o))))) fun y_5 =>
 bnd (idx (List.replicate (12:Nat) false) (Prod.fst (Prod.snd (Prod.snd (Prod.snd o))))) fun y_6 =>
 bnd (iter (fun s ↦ W.circ_one.c100012 (Prod.fst (Prod.snd (Prod.snd o))) (↑(List.length (Prod.fst (Prod.snd (Prod.snd o)))):Int) (Prod.fst s) (Prod.snd s) t10001000 some) ((0:Int),List.set (List.replicate (12:Nat) false) (Int.toNat (Prod.fst (Prod.snd (Prod.snd (Prod.snd o))))) true)) fun y_7 =>
 sel y_7
 (fun u=>some (Prod.fst u,t10001000,t10001001,t10001002,()))
 (fun v=>bnd (W.circ_one.c20 (Prod.fst o) (Prod.fst (Prod.snd (Prod.snd (Prod.snd (Prod.snd o))))) t10001001 some) fun y_8 =>
 br y_8
 (some ((13:Int),t10001000,t10001001,t10001002,()))
 (br (decide ((↑(List.length (Prod.snd (Prod.snd (Prod.snd (Prod.snd (Prod.snd o)))))):Int) > (24:Int)))
 (some ((14:Int),t10001000,t10001001,t10001002,()))
 (bnd (iter (fun s ↦ W.circ_one.c100025 (Prod.snd (Prod.snd (Prod.snd (Prod.snd (Prod.snd o))))) (↑(List.length (Prod.snd (Prod.snd (Prod.snd (Prod.snd (Prod.snd o)))))):Int) s t10001001 some) (0:Int)) fun y_9 =>
 sel y_9
 (fun u_1=>some ((14:Int),t10001000,t10001001,t10001002,()))
 (fun v_1=>some ((0:Int),t10001000,t10001001,t10001002,())))))))))
def circ_one.mc:MCallee:=⟨81,circ_one.pre,circ_one.post,fun x_=>circ_one x_.1 x_.2.1 x_.2.2.1 x_.2.2.2.1⟩
def circ_one.G:Env:=⟨156,tab,[(116,circ_turns.ce),(117,circ_gate.ce)],[0,1,2,4,5,7,9,17,36,58,68,74,75,76,77,80,91,124,128,130,131,132,133,154],[5,69],[(20,[⟨[],[],[],[]⟩,⟨[0],[],[],[]⟩,⟨[1,0],[],[],[]⟩,⟨[2,1,0],[],[],[]⟩,⟨[3,2,1,0],[],[],[]⟩,⟨[4,3,2,1,0],[],[],[]⟩,⟨[5,4,3,2,1,0],[],[],[]⟩,⟨[6,5,4,3,2,1,0],[],[],[]⟩,⟨[7,6,5,4,3,2,1,0],[],[108,109,110,111],[]⟩,⟨[8,7,6,5,4,3,2,1,0],[],[108,109,110,111],[]⟩,⟨[7,6,5,4,3,2,1,0],[],[106,107],[]⟩,⟨[10,7,6,5,4,3,2,1,0],[],[106,107],[]⟩,⟨[11,10,7,6,5,4,3,2,1,0],[],[106,107],[]⟩,⟨[12,11,10,7,6,5,4,3,2,1,0],[],[106,107],[]⟩,⟨[9,8,7,6,5,4,3,2,1,0,13,12,11,10],[],[],[]⟩,⟨[7,6,5,4,3,2,1,0,14,9,8,13,12,11,10],[],[],[]⟩,⟨[3,2,1,0,15,7,6,5,4,14,9,8,13,12,11,10],[],[],[]⟩,⟨[16,3,2,1,0,15,7,6,5,4,14,9,8,13,12,11,10],[],[],[]⟩,⟨[17,16,3,2,1,0,15,7,6,5,4,14,9,8,13,12,11,10],[],[],[]⟩,⟨[18,17,16,3,2,1,0,15,7,6,5,4,14,9,8,13,12,11,10],[],[],[]⟩,⟨[19,18,17,16,3,2,1,0,15,7,6,5,4,14,9,8,13,12,11,10],[],[],[]⟩,⟨[20,19,18,17,16,3,2,1,0,15,7,6,5,4,14,9,8,13,12,11,10],[],[],[]⟩,⟨[21,20,19,18,17,16,3,2,1,0,15,7,6,5,4,14,9,8,13,12,11,10],[],[],[]⟩,⟨[22,21,20,19,18,17,16,3,2,1,0,15,7,6,5,4,14,9,8,13,12,11,10],[],[],[]⟩,⟨[23,22,21,20,19,18,17,16,3,2,1,0,15,7,6,5,4,14,9,8,13,12,11,10],[],[],[]⟩,⟨[21,20,19,18,17,16,3,2,1,0,15,7,6,5,4,14,9,8,13,12,11,10,24,23,22],[],[],[]⟩,⟨[17,16,3,2,1,0,15,7,6,5,4,14,9,8,13,12,11,10,25,21,20,19,18,24,23,22],[],[],[]⟩]),
 (5,[⟨[],[],[],[]⟩,⟨[0],[],[],[]⟩,⟨[1,0],[],[],[]⟩,⟨[2,1,0],[],[],[]⟩,⟨[3,2,1,0],[],[43,44,45,46],[]⟩,⟨[4,3,2,1,0],[],[43,44,45,46],[]⟩,⟨[3,2,1,0],[],[41,42],[]⟩,⟨[6,3,2,1,0],[],[41,42],[]⟩,⟨[7,6,3,2,1,0],[],[41,42],[]⟩,⟨[8,7,6,3,2,1,0],[],[41,42],[]⟩,⟨[5,4,3,2,1,0,9,8,7,6],[],[],[]⟩,⟨[3,2,1,0,10,5,4,9,8,7,6],[],[],[]⟩,⟨[11,3,2,1,0,10,5,4,9,8,7,6],[],[],[]⟩,⟨[12,11,3,2,1,0,10,5,4,9,8,7,6],[],[],[]⟩,⟨[13,12,11,3,2,1,0,10,5,4,9,8,7,6],[],[],[]⟩,⟨[14,13,12,11,3,2,1,0,10,5,4,9,8,7,6],[],[],[]⟩,⟨[15,14,13,12,11,3,2,1,0,10,5,4,9,8,7,6],[],[],[]⟩,⟨[16,15,14,13,12,11,3,2,1,0,10,5,4,9,8,7,6],[],[],[]⟩,⟨[17,16,15,14,13,12,11,3,2,1,0,10,5,4,9,8,7,6],[],[],[]⟩,⟨[18,17,16,15,14,13,12,11,3,2,1,0,10,5,4,9,8,7,6],[],[],[]⟩,⟨[16,15,14,13,12,11,3,2,1,0,10,5,4,9,8,7,6,19,18,17],[],[],[]⟩,⟨[12,11,3,2,1,0,10,5,4,9,8,7,6,20,16,15,14,13,19,18,17],[],[],[]⟩])],[(100025,circ_one.c100025r),(27,circ_one.c27r),(20,circ_one.c20r),(100012,circ_one.c100012r),(14,circ_one.c14r),(7,circ_one.c7r),(5,circ_one.c5r),(3,circ_one.c3r),(1,circ_one.c1r)],[],tab_eqs⟩
theorem circ_one.eq (x_:densU circ_one.mc.pre.tys):denM circ_one.G Try.f81 circ_one.mc.pre circ_one.mc.post x_ = circ_one.mc.F x_:=by kernel_rfl
theorem circ_one.p0:PcA circ_one.G Try.f81 0 :=
 region_ok (s:=circ_one.c1r) (by kernel_rfl) (by kernel_rfl) (sums_of (sh:=circ_one.c1s) (fun ρ x_ k_=>(nat_br nat_leaf nat_leaf)) (fun ρ x_ t k=>(by kernel_rfl)) (fun x_=>by kernel_rfl))
theorem circ_one.p1:PcA circ_one.G Try.f81 1 :=
 region_ok (s:=circ_one.c3r) (by kernel_rfl) (by kernel_rfl) (sums_of (sh:=circ_one.c3s) (fun ρ x_ k_=>(nat_br nat_leaf (nat_br nat_leaf (nat_bnd fun _=>(nat_br nat_leaf nat_leaf))))) (fun ρ x_ t k=>(by kernel_rfl)) (fun x_=>by kernel_rfl))
theorem circ_one.p2:PcA circ_one.G Try.f81 2 :=
 region_ok (s:=circ_one.c5r) (by kernel_rfl) (by kernel_rfl) (sums_of (sh:=circ_one.c5s) (fun ρ x_ k_=>(nat_br nat_leaf (nat_br nat_leaf (nat_br nat_leaf nat_leaf)))) (fun ρ x_ t k=>(by kernel_rfl)) (fun x_=>by kernel_rfl))
theorem circ_one.p3:PcA circ_one.G Try.f81 3 :=
 region_ok (s:=circ_one.c7r) (by kernel_rfl) (by kernel_rfl) (sums_of (sh:=circ_one.c7s) (fun ρ x_ k_=>(nat_br (nat_bnd fun _=>nat_leaf) nat_leaf)) (fun ρ x_ t k=>(by kernel_rfl)) (fun x_=>by kernel_rfl))
theorem circ_one.p4:PcA circ_one.G Try.f81 4 :=
 loop_ok (s:=circ_one.c100012r) (by kernel_rfl) (by kernel_rfl) (loops_of (sh:=circ_one.c100012s) (I:=fun x_ s_=>(x_.1,x_.2.1,x_.2.2.1,x_.2.2.2.1,s_.1,x_.2.2.2.2.2.1,x_.2.2.2.2.2.2.1,x_.2.2.2.2.2.2.2.1,x_.2.2.2.2.2.2.2.2.1,x_.2.2.2.2.2.2.2.2.2.1,x_.2.2.2.2.2.2.2.2.2.2.1,s_.2,x_.2.2.2.2.2.2.2.2.2.2.2.2)) (fun x_=>rfl) (fun ρ x_ s_ k_=>(nat_br (nat_bnd fun _=>(nat_bnd fun _=>(nat_br nat_leaf (nat_bnd fun _=>(nat_bnd fun _=>(nat_bnd fun _=>(nat_br nat_leaf (nat_bnd fun _=>(nat_bnd fun _=>(nat_bnd fun _=>nat_leaf)))))))))) nat_leaf)) (fun ρ x_ t k=>(nat_sel (fun _=>(by kernel_rfl)) (fun _=>(by kernel_rfl)))) (fun x_ s=>by kernel_rfl))
theorem circ_one.p5:PcA circ_one.G Try.f81 5 :=
 region_ok (s:=circ_one.c14r) (by kernel_rfl) (by kernel_rfl) (sums_of (sh:=circ_one.c14s) (fun ρ x_ k_=>(nat_br nat_leaf nat_leaf)) (fun ρ x_ t k=>(by kernel_rfl)) (fun x_=>by kernel_rfl))
theorem circ_one.p6:PcA circ_one.G Try.f81 6 :=
 region_ok (s:=circ_one.c20r) (by kernel_rfl) (by kernel_rfl) (sums_of (sh:=circ_one.c20s) (fun ρ x_ k_=>(nat_br (nat_br nat_leaf (nat_br nat_leaf (nat_br nat_leaf nat_leaf))) (nat_br nat_leaf nat_leaf))) (fun ρ x_ t k=>(by kernel_rfl)) (fun x_=>by kernel_rfl))
theorem circ_one.p7:PcA circ_one.G Try.f81 7 :=
 loop_ok (s:=circ_one.c100025r) (by kernel_rfl) (by kernel_rfl) (loops_of (sh:=circ_one.c100025s) (I:=fun x_ s_=>(x_.1,x_.2.1,x_.2.2.1,x_.2.2.2.1,x_.2.2.2.2.1,x_.2.2.2.2.2.1,x_.2.2.2.2.2.2.1,s_,x_.2.2.2.2.2.2.2.2)) (fun x_=>rfl) (fun ρ x_ s_ k_=>(nat_br (nat_bnd fun _=>(nat_bnd fun _=>(nat_br nat_leaf nat_leaf))) nat_leaf)) (fun ρ x_ t k=>(nat_sel (fun _=>(by kernel_rfl)) (fun _=>(by kernel_rfl)))) (fun x_ s=>by kernel_rfl))
theorem circ_one.p8:PcA circ_one.G Try.f81 8 :=
 region_ok (s:=circ_one.c27r) (by kernel_rfl) (by kernel_rfl) (sums_of (sh:=circ_one.c27s) (fun ρ x_ k_=>(nat_br nat_leaf (nat_br nat_leaf nat_leaf))) (fun ρ x_ t k=>(by kernel_rfl)) (fun x_=>by kernel_rfl))
theorem circ_one.ok:MOk Try.prog 81 circ_one.mc:=fnm_ok (G:=circ_one.G) tab_ok mixed Try.func81 ⟨(fns_cons circ_turns.ok (fns_cons circ_gate.ok fns_nil)),mfns_nil,tab_eqs_ok⟩ (m:=9) (by kernel_rfl) ⟨⟨⟨⟨⟨⟨⟨⟨⟨trivial,circ_one.p0⟩,circ_one.p1⟩,circ_one.p2⟩,circ_one.p3⟩,circ_one.p4⟩,circ_one.p5⟩,circ_one.p6⟩,circ_one.p7⟩,circ_one.p8⟩ (by kernel_rfl) circ_one.eq
abbrev tb38:SD:=.one (.val (.st (.pair (.int .i64) (.pair (.int .i64) (.sl (.st (.pair (.int .i64) (.pair (.int .i64) (.pair (.sl (.int .i64)) (.pair (.int .i64) (.pair (.int .i64) (.sl (.int .i64)))))))))))))
def circ_Check.c1 {ρ:Type} (c0:Int) (k_:Bool → Option ρ):Option ρ :=
 br (decide (c0 < (1:Int)))
 (k_ true)
 (k_ (decide (c0 > (12:Int))))
def circ_Check.c1s:Shape:=⟨[(0,tb38),(1,tb1),(2,tb2)],[(1,tb34),(2,tb19)]⟩
def circ_Check.c1x0:Shape:=⟨[(0,tb38),(1,tb1),(2,tb2),(6,tb7)],[(1,tb34),(2,tb19)]⟩
def circ_Check.c1r:Ck:=Ck.of (T:=Bool) circ_Check.c1s (fun ρ x_ k_=>circ_Check.c1 x_.2.1 k_) (fun ρ x_ r_ k_=>k_ 0 (Shape.inj circ_Check.c1x0 (x_.1,r_,x_.2)))
def circ_Check.c3 {ρ:Type} (c1:Int) (k_:Bool → Option ρ):Option ρ :=
 br (decide (c1 < (0:Int)))
 (k_ true)
 (k_ (decide (c1 > (12:Int))))
def circ_Check.c3s:Shape:=circ_Check.c1s
def circ_Check.c3x0:Shape:=⟨[(0,tb38),(1,tb1),(2,tb2),(16,tb7)],[(1,tb34),(2,tb19)]⟩
def circ_Check.c3r:Ck:=Ck.of (T:=Bool) circ_Check.c3s (fun ρ x_ k_=>circ_Check.c3 x_.2.2.1 k_) (fun ρ x_ r_ k_=>k_ 0 (Shape.inj circ_Check.c3x0 (x_.1,r_,x_.2)))
def circ_Check.c100008 {ρ:Type} (t33:List (Int×(Int×((List Int)×(Int×(Int×(List Int))))))) (t34:Int) (t35:Int) (c0:Int) (c1:Int) (c2:List (Int×(Int×((List Int)×(Int×(Int×(List Int))))))) (k_:(Int×Int×Int×(List (Int×(Int×((List Int)×(Int×(Int×(List Int)))))))) ⊕ ((Int×Int×Int×(List (Int×(Int×((List Int)×(Int×(Int×(List Int)))))))×Int×Int) ⊕ (Int×Int×Int×(List (Int×(Int×((List Int)×(Int×(Int×(List Int))))))))) → Option ρ):Option ρ :=
 br (decide (t35 < t34))
 (bnd (idx t33 t35) fun y =>
 bnd (W.circ_one (Prod.fst y,Prod.fst (Prod.snd y),Prod.fst (Prod.snd (Prod.snd y)),Prod.fst (Prod.snd (Prod.snd (Prod.snd y))),Prod.fst (Prod.snd (Prod.snd (Prod.snd (Prod.snd y)))),Prod.snd (Prod.snd (Prod.snd (Prod.snd (Prod.snd y))))) c0 c1 c2) fun y_1 =>
 br (Prod.fst y_1 != (0:Int))
 (bnd (W.circ_fault (Prod.fst y_1) t35) fun y_2 =>
 k_ (.inr (.inl (t35,(Prod.fst y_1.2),(Prod.fst y_1.2.2),(Prod.fst y_1.2.2.2),(Prod.fst y_2),(Prod.snd y_2)))))
 (k_ (.inl ((IntKind.wrap IntKind.i64 (t35 + (1:Int))),(Prod.fst y_1.2),(Prod.fst y_1.2.2),(Prod.fst y_1.2.2.2)))))
 (k_ (.inr (.inr (t35,c0,c1,c2))))
def circ_Check.c100008s:Shape:=⟨[(0,tb38),(1,tb1),(2,tb2),(33,tb31),(34,tb5),(35,tb5)],[(1,tb34),(2,tb19)]⟩
def circ_Check.c100008x0:Shape:=circ_Check.c100008s
def circ_Check.c100008x1:Shape:=circ_Check.c100008s
def circ_Check.c100008r:Ck:=Ck.ofLoop (S:=Int×Int×Int×(List (Int×(Int×((List Int)×(Int×(Int×(List Int)))))))) (T:=(Int×Int×Int×(List (Int×(Int×((List Int)×(Int×(Int×(List Int)))))))×Int×Int) ⊕ (Int×Int×Int×(List (Int×(Int×((List Int)×(Int×(Int×(List Int))))))))) circ_Check.c100008s (fun x_=>(x_.2.2.2.1,x_.2.2.2.2.1,x_.2.2.2.2.2.1,x_.2.2.2.2.2.2.1)) (fun ρ x_ s_ k_=>circ_Check.c100008 x_.2.1 x_.2.2.1 s_.1 s_.2.1 s_.2.2.1 s_.2.2.2 k_) (fun ρ x_ r_ k_=>sel r_ (fun r_=>k_ 1 (Shape.inj circ_Check.c100008x0 (x_.1,x_.2.1,x_.2.2.1,r_.1,r_.2.1,r_.2.2.1,r_.2.2.2.1,r_.2.2.2.2.1,r_.2.2.2.2.2,()))) (fun r_=>k_ 3 (Shape.inj circ_Check.c100008x1 (x_.1,x_.2.1,x_.2.2.1,r_.1,r_.2.1,r_.2.2.1,r_.2.2.2,x_.2.2.2.2.2.2.2))))
def circ_Check (c:Int×(Int×(List (Int×(Int×((List Int)×(Int×(Int×(List Int))))))))):Option (Int×Int) :=
 bnd (W.circ_Check.c1 (Prod.fst c) some) fun y =>
 br y
 (bnd (W.circ_fault (6:Int) (0:Int)) fun y_1 =>
 some (Prod.fst y_1,Prod.snd y_1))
 (bnd (W.circ_Check.c3 (Prod.fst (Prod.snd c)) some) fun y_2 =>
 br y_2
 (bnd (W.circ_fault (7:Int) (0:Int)) fun y_3 =>
 some (Prod.fst y_3,Prod.snd y_3))
 (br (decide ((↑(List.length (Prod.snd (Prod.snd c))):Int) > (4096:Int)))
 (bnd (W.circ_fault (2:Int) (0:Int)) fun y_4 =>
 some (Prod.fst y_4,Prod.snd y_4))
 (bnd (iter (fun s ↦ W.circ_Check.c100008 (Prod.snd (Prod.snd c)) (↑(List.length (Prod.snd (Prod.snd c))):Int) (Prod.fst s) (Prod.fst (Prod.snd s)) (Prod.fst (Prod.snd (Prod.snd s))) (Prod.snd (Prod.snd (Prod.snd s))) some) ((0:Int),Prod.fst c,Prod.fst (Prod.snd c),Prod.snd (Prod.snd c))) fun y_5 =>
 sel y_5
 (fun u=>some (Prod.fst (Prod.snd (Prod.snd (Prod.snd (Prod.snd u)))),Prod.snd (Prod.snd (Prod.snd (Prod.snd (Prod.snd u))))))
 (fun v=>some ((0:Int),(0:Int))))))
def circ_Check.ce:Go.Ql.Callee:=⟨[(.st (.pair (.int .i64) (.pair (.int .i64) (.sl (.st (.pair (.int .i64) (.pair (.int .i64) (.pair (.sl (.int .i64)) (.pair (.int .i64) (.pair (.int .i64) (.sl (.int .i64))))))))))))],[(.st (.pair (.int .i64) (.int .i64)))],fun x_=>circ_Check x_⟩
def circ_Check.G:Env:=⟨49,tab,[(80,circ_fault.ce)],[0,1,2,3,4,5,6,16,26,33,34,35,36,43],[],[],[(100008,circ_Check.c100008r),(3,circ_Check.c3r),(1,circ_Check.c1r)],[(81,circ_one.mc)],tab_eqs⟩
theorem circ_Check.eq (x_:dens circ_Check.ce.params):den circ_Check.G Try.f36 circ_Check.ce.params circ_Check.ce.res x_ = circ_Check.ce.F x_:=by kernel_rfl
theorem circ_Check.p0:PcA circ_Check.G Try.f36 0 :=
 region_ok (s:=circ_Check.c1r) (by kernel_rfl) (by kernel_rfl) (sums_of (sh:=circ_Check.c1s) (fun ρ x_ k_=>(nat_br nat_leaf nat_leaf)) (fun ρ x_ t k=>(by kernel_rfl)) (fun x_=>by kernel_rfl))
theorem circ_Check.p1:PcA circ_Check.G Try.f36 1 :=
 region_ok (s:=circ_Check.c3r) (by kernel_rfl) (by kernel_rfl) (sums_of (sh:=circ_Check.c3s) (fun ρ x_ k_=>(nat_br nat_leaf nat_leaf)) (fun ρ x_ t k=>(by kernel_rfl)) (fun x_=>by kernel_rfl))
theorem circ_Check.p2:PcA circ_Check.G Try.f36 2 :=
 loop_ok (s:=circ_Check.c100008r) (by kernel_rfl) (by kernel_rfl) (loops_of (sh:=circ_Check.c100008s) (I:=fun x_ s_=>(x_.1,x_.2.1,x_.2.2.1,s_.1,s_.2.1,s_.2.2.1,s_.2.2.2,x_.2.2.2.2.2.2.2)) (fun x_=>rfl) (fun ρ x_ s_ k_=>(nat_br (nat_bnd fun _=>(nat_bnd fun _=>(nat_br (nat_bnd fun _=>nat_leaf) nat_leaf))) nat_leaf)) (fun ρ x_ t k=>(nat_sel (fun _=>(by kernel_rfl)) (fun _=>(by kernel_rfl)))) (fun x_ s=>by kernel_rfl))
theorem circ_Check.ok:CalleeOk Try.prog 36 circ_Check.ce:=fn_ok (G:=circ_Check.G) tab_ok mixed Try.func36 ⟨(fns_cons circ_fault.ok fns_nil),(mfns_cons circ_one.ok mfns_nil),tab_eqs_ok⟩ (m:=3) (by kernel_rfl) ⟨⟨⟨trivial,circ_Check.p0⟩,circ_Check.p1⟩,circ_Check.p2⟩ (by kernel_rfl) circ_Check.eq
abbrev tb39:SD:=.one (.ref 5 0)
def circ_pure.c7 {ρ:Type} (o0:Int) (o5:List Int) (k_:Bool → Option ρ):Option ρ :=
 br (o0 == (5:Int))
 (k_ true)
 (br (o0 == (6:Int))
 (k_ true)
 (k_ (decide ((↑(List.length o5):Int) > (0:Int)))))
def circ_pure.c7s:Shape:=⟨[(0,tb38),(1,tb1),(2,tb2),(3,tb12),(4,tb5),(5,tb39),(13,tb31),(14,tb5),(15,tb5)],[(1,tb34),(2,tb19),(3,tb19),(5,tb26)]⟩
def circ_pure.c7x0:Shape:=⟨[(0,tb38),(1,tb1),(2,tb2),(3,tb12),(4,tb5),(5,tb39),(13,tb31),(14,tb5),(15,tb5),(33,tb7)],[(1,tb34),(2,tb19),(3,tb19),(5,tb26)]⟩
def circ_pure.c7r:Ck:=Ck.of (T:=Bool) circ_pure.c7s (fun ρ x_ k_=>circ_pure.c7 x_.2.2.2.2.2.2.2.2.2.2.2.2.1 x_.2.2.2.2.2.2.2.2.2.2.2.2.2.2.2.2.2.1 k_) (fun ρ x_ r_ k_=>k_ 0 (Shape.inj circ_pure.c7x0 (x_.1,x_.2.1,x_.2.2.1,x_.2.2.2.1,x_.2.2.2.2.1,r_,x_.2.2.2.2.2)))
def circ_pure.c100005 {ρ:Type} (t13:List (Int×(Int×((List Int)×(Int×(Int×(List Int))))))) (t14:Int) (t15:Int) (k_:Int ⊕ ((Int×Int×Int) ⊕ Int) → Option ρ):Option ρ :=
 br (decide (t15 < t14))
 (bnd (idx t13 t15) fun y =>
 bnd (W.circ_pure.c7 (Prod.fst y) (Prod.snd (Prod.snd (Prod.snd (Prod.snd (Prod.snd y))))) some) fun y_1 =>
 br y_1
 (bnd (W.circ_fault (15:Int) t15) fun y_2 =>
 k_ (.inr (.inl (t15,(Prod.fst y_2),(Prod.snd y_2)))))
 (k_ (.inl (IntKind.wrap IntKind.i64 (t15 + (1:Int))))))
 (k_ (.inr (.inr t15)))
def circ_pure.c100005s:Shape:=⟨[(0,tb38),(1,tb1),(2,tb2),(3,tb12),(13,tb31),(14,tb5),(15,tb5)],[(1,tb34),(2,tb19),(3,tb19)]⟩
def circ_pure.c100005x0:Shape:=circ_pure.c100005s
def circ_pure.c100005x1:Shape:=circ_pure.c100005s
def circ_pure.c100005r:Ck:=Ck.ofLoop (S:=Int) (T:=(Int×Int×Int) ⊕ Int) circ_pure.c100005s (fun x_=>x_.2.2.2.1) (fun ρ x_ s_ k_=>circ_pure.c100005 x_.2.1 x_.2.2.1 s_ k_) (fun ρ x_ r_ k_=>sel r_ (fun r_=>k_ 1 (Shape.inj circ_pure.c100005x0 (x_.1,x_.2.1,x_.2.2.1,r_.1,x_.2.2.2.2.1,x_.2.2.2.2.2.1,x_.2.2.2.2.2.2.1,r_.2.1,r_.2.2,x_.2.2.2.2.2.2.2.2.2))) (fun r_=>k_ 2 (Shape.inj circ_pure.c100005x1 (x_.1,x_.2.1,x_.2.2.1,r_,x_.2.2.2.2))))
def circ_pure (c:Int×(Int×(List (Int×(Int×((List Int)×(Int×(Int×(List Int))))))))):Option (Int×Int) :=
 bnd (W.circ_Check (Prod.fst c,Prod.fst (Prod.snd c),Prod.snd (Prod.snd c))) fun y =>
 br (Prod.fst y != (0:Int))
 (some (Prod.fst y,Prod.snd y))
 (bnd (iter (fun s ↦ W.circ_pure.c100005 (Prod.snd (Prod.snd c)) (↑(List.length (Prod.snd (Prod.snd c))):Int) s some) (0:Int)) fun y_1 =>
 sel y_1
 (fun u=>some (Prod.fst (Prod.snd u),Prod.snd (Prod.snd u)))
 (fun v=>some ((0:Int),(0:Int))))
def circ_pure.ce:Go.Ql.Callee:=⟨[(.st (.pair (.int .i64) (.pair (.int .i64) (.sl (.st (.pair (.int .i64) (.pair (.int .i64) (.pair (.sl (.int .i64)) (.pair (.int .i64) (.pair (.int .i64) (.sl (.int .i64))))))))))))],[(.st (.pair (.int .i64) (.int .i64)))],fun x_=>circ_pure x_⟩
def circ_pure.G:Env:=⟨38,tab,[(36,circ_Check.ce),(80,circ_fault.ce)],[0,1,2,3,4,5,10,13,14,15,16,33],[],[],[(100005,circ_pure.c100005r),(7,circ_pure.c7r)],[],tab_eqs⟩
theorem circ_pure.eq (x_:dens circ_pure.ce.params):den circ_pure.G Try.f101 circ_pure.ce.params circ_pure.ce.res x_ = circ_pure.ce.F x_:=by kernel_rfl
theorem circ_pure.p0:PcA circ_pure.G Try.f101 0 :=
 loop_ok (s:=circ_pure.c100005r) (by kernel_rfl) (by kernel_rfl) (loops_of (sh:=circ_pure.c100005s) (I:=fun x_ s_=>(x_.1,x_.2.1,x_.2.2.1,s_,x_.2.2.2.2)) (fun x_=>rfl) (fun ρ x_ s_ k_=>(nat_br (nat_bnd fun _=>(nat_bnd fun _=>(nat_br (nat_bnd fun _=>nat_leaf) nat_leaf))) nat_leaf)) (fun ρ x_ t k=>(nat_sel (fun _=>(by kernel_rfl)) (fun _=>(by kernel_rfl)))) (fun x_ s=>by kernel_rfl))
theorem circ_pure.p1:PcA circ_pure.G Try.f101 1 :=
 region_ok (s:=circ_pure.c7r) (by kernel_rfl) (by kernel_rfl) (sums_of (sh:=circ_pure.c7s) (fun ρ x_ k_=>(nat_br nat_leaf (nat_br nat_leaf nat_leaf))) (fun ρ x_ t k=>(by kernel_rfl)) (fun x_=>by kernel_rfl))
theorem circ_pure.ok:CalleeOk Try.prog 101 circ_pure.ce:=fn_ok (G:=circ_pure.G) tab_ok mixed Try.func101 ⟨(fns_cons circ_Check.ok (fns_cons circ_fault.ok fns_nil)),mfns_nil,tab_eqs_ok⟩ (m:=2) (by kernel_rfl) ⟨⟨trivial,circ_pure.p0⟩,circ_pure.p1⟩ (by kernel_rfl) circ_pure.eq
def slices_Clone_int (s:List Int):Option (List Int) :=
 br (List.isEmpty s)
 (both
 (some [])
 (bnd (okIf (decide (((0:Nat) + List.length s) * (8:Nat) ≤ (140737488355328:Nat)) && decide ((0:Nat) + List.length s ≤ (140737488355328:Nat)))) fun y =>
 some s))
 (bnd (okIf (decide (((0:Nat) + List.length s) * (8:Nat) ≤ (140737488355328:Nat)) && decide ((0:Nat) + List.length s ≤ (140737488355328:Nat)))) fun y_1 =>
 some s)
def slices_Clone_int.ce:Go.Ql.Callee:=⟨[(.sl (.int .i64))],[(.sl (.int .i64))],fun x_=>slices_Clone_int x_⟩
def slices_Clone_int.G:Env:=⟨8,tab,[],[0,2,4],[5],[],[],[],tab_eqs⟩
theorem slices_Clone_int.eq (x_:dens slices_Clone_int.ce.params):den slices_Clone_int.G Try.f139 slices_Clone_int.ce.params slices_Clone_int.ce.res x_ = slices_Clone_int.ce.F x_:=by kernel_rfl
theorem slices_Clone_int.ok:CalleeOk Try.prog 139 slices_Clone_int.ce:=fn_ok (G:=slices_Clone_int.G) tab_ok mixed Try.func139 ⟨fns_nil,mfns_nil,tab_eqs_ok⟩ (m:=0) (by kernel_rfl) trivial (by kernel_rfl) slices_Clone_int.eq
def circ_copied.c1 {ρ:Type} (o2:List Int) (o5:List Int) (k_:(List Int)×(List Int) → Option ρ):Option ρ :=
 bnd (W.slices_Clone_int o2) fun y =>
 bnd (W.slices_Clone_int o5) fun y_1 =>
 k_ (y,y_1)
def circ_copied.c1s:Shape:=⟨[(0,tb25),(1,tb1),(2,tb2)],[(1,tb26),(2,tb26)]⟩
def circ_copied.c1x0:Shape:=circ_copied.c1s
def circ_copied.c1r:Ck:=Ck.of (T:=(List Int)×(List Int)) circ_copied.c1s (fun ρ x_ k_=>circ_copied.c1 x_.2.2.2.1 x_.2.2.2.2.2.2.1 k_) (fun ρ x_ r_ k_=>k_ 0 (Shape.inj circ_copied.c1x0 (x_.1,x_.2.1,x_.2.2.1,r_.1,x_.2.2.2.2.1,x_.2.2.2.2.2.1,r_.2,x_.2.2.2.2.2.2.2)))
def circ_copied (o:Int×(Int×((List Int)×(Int×(Int×(List Int)))))):Option (Int×(Int×((List Int)×(Int×(Int×(List Int)))))) :=
 bnd (W.circ_copied.c1 (Prod.fst (Prod.snd (Prod.snd o))) (Prod.snd (Prod.snd (Prod.snd (Prod.snd (Prod.snd o))))) some) fun y =>
 some (Prod.fst o,Prod.fst (Prod.snd o),Prod.fst y,Prod.fst (Prod.snd (Prod.snd (Prod.snd o))),Prod.fst (Prod.snd (Prod.snd (Prod.snd (Prod.snd o)))),Prod.snd y)
def circ_copied.ce:Go.Ql.Callee:=⟨[(.st (.pair (.int .i64) (.pair (.int .i64) (.pair (.sl (.int .i64)) (.pair (.int .i64) (.pair (.int .i64) (.sl (.int .i64))))))))],[(.st (.pair (.int .i64) (.pair (.int .i64) (.pair (.sl (.int .i64)) (.pair (.int .i64) (.pair (.int .i64) (.sl (.int .i64))))))))],fun x_=>circ_copied x_⟩
def circ_copied.G:Env:=⟨12,tab,[(139,slices_Clone_int.ce)],[0,1,2],[],[(1,[⟨[],[],[6,7],[]⟩,⟨[0],[],[6,7],[]⟩,⟨[1,0],[],[6,7],[]⟩,⟨[],[],[3,4,5],[]⟩,⟨[3],[],[3,4,5],[]⟩,⟨[4,3,2,1,0],[],[9],[]⟩,⟨[0,1,2,3,4],[],[8],[]⟩,⟨[6,0,1,2,3,4,5],[1],[],[]⟩,⟨[0,1,2,3,4,5,6,7],[],[],[]⟩,⟨[8,0,1,2,3,4,5,6,7],[1],[],[]⟩])],[(1,circ_copied.c1r)],[],tab_eqs⟩
theorem circ_copied.eq (x_:dens circ_copied.ce.params):den circ_copied.G Try.f129 circ_copied.ce.params circ_copied.ce.res x_ = circ_copied.ce.F x_:=by kernel_rfl
theorem circ_copied.p0:PcA circ_copied.G Try.f129 0 :=
 region_ok (s:=circ_copied.c1r) (by kernel_rfl) (by kernel_rfl) (sums_of (sh:=circ_copied.c1s) (fun ρ x_ k_=>(nat_bnd fun _=>(nat_bnd fun _=>nat_leaf))) (fun ρ x_ t k=>(by kernel_rfl)) (fun x_=>by kernel_rfl))
theorem circ_copied.ok:CalleeOk Try.prog 129 circ_copied.ce:=fn_ok (G:=circ_copied.G) tab_ok mixed Try.func129 ⟨(fns_cons slices_Clone_int.ok fns_nil),mfns_nil,tab_eqs_ok⟩ (m:=1) (by kernel_rfl) ⟨trivial,circ_copied.p0⟩ (by kernel_rfl) circ_copied.eq
def circ_Inverse_1 (o:Int×(Int×((List Int)×(Int×(Int×(List Int)))))):Option (Int×(Int×((List Int)×(Int×(Int×(List Int)))))) :=
 some (Prod.fst o,Int.tmod (IntKind.wrap IntKind.i64 ((16:Int) - Prod.fst (Prod.snd o))) (16:Int),Prod.fst (Prod.snd (Prod.snd o)),Prod.fst (Prod.snd (Prod.snd (Prod.snd o))),Prod.fst (Prod.snd (Prod.snd (Prod.snd (Prod.snd o)))),Prod.snd (Prod.snd (Prod.snd (Prod.snd (Prod.snd o)))))
def circ_Inverse_1.ce:Go.Ql.Callee:=⟨[(.st (.pair (.int .i64) (.pair (.int .i64) (.pair (.sl (.int .i64)) (.pair (.int .i64) (.pair (.int .i64) (.sl (.int .i64))))))))],[(.st (.pair (.int .i64) (.pair (.int .i64) (.pair (.sl (.int .i64)) (.pair (.int .i64) (.pair (.int .i64) (.sl (.int .i64))))))))],fun x_=>circ_Inverse_1 x_⟩
def circ_Inverse_1.G:Env:=⟨9,tab,[],[0,1,2],[],[],[],[],tab_eqs⟩
theorem circ_Inverse_1.eq (x_:dens circ_Inverse_1.ce.params):den circ_Inverse_1.G Try.f103 circ_Inverse_1.ce.params circ_Inverse_1.ce.res x_ = circ_Inverse_1.ce.F x_:=by kernel_rfl
theorem circ_Inverse_1.ok:CalleeOk Try.prog 103 circ_Inverse_1.ce:=fn_ok (G:=circ_Inverse_1.G) tab_ok mixed Try.func103 ⟨fns_nil,mfns_nil,tab_eqs_ok⟩ (m:=0) (by kernel_rfl) trivial (by kernel_rfl) circ_Inverse_1.eq
abbrev tb40:SD:=.one (.fn 103)
abbrev tb41:SD:=.agg [.val (.int .i64),.val (.int .i64),.own 2 0]
abbrev tb42:SD:=.one (.ref 7 0)
abbrev tb43:SO:=.box [.val (.int .i64),.val (.int .i64),.own 3004 0]
abbrev tb44:SO:=.box [.val (.int .i64),.val (.int .i64),.own 3005 0]
def circ_each__inv.pre:Shape:=⟨[(0,tb38),(1,tb40)],[]⟩
def circ_each__inv.post:Shape:=⟨[(0,tb41)],[(2,tb30)]⟩
def circ_each__inv.c5 {ρ:Type} (o0:Int) (o1:Int) (o2:List Int) (o3:Int) (o4:Int) (o5:List Int) (t3005:List (Int×(Int×((List Int)×(Int×(Int×(List Int))))))) (k_:List (Int×(Int×((List Int)×(Int×(Int×(List Int)))))) → Option ρ):Option ρ :=
 bnd (W.circ_copied (o0,o1,o2,o3,o4,o5)) fun y =>
 bnd (W.circ_Inverse_1 y) fun y_1 =>
 bnd (okIf (decide ((List.length t3005 + (1:Nat)) * (80:Nat) ≤ (140737488355328:Nat)) && decide (List.length t3005 + (1:Nat) ≤ (140737488355328:Nat)))) fun y_2 =>
 k_ (t3005 ++ [y_1])
def circ_each__inv.c5s:Shape:=⟨[(0,tb38),(1,tb40),(2,tb2),(4,tb6),(5,tb39),(7,tb42),(14,tb31),(15,tb5),(16,tb5)],[(2,tb34),(4,tb43),(5,tb44),(7,tb26),(3004,tb30),(3005,tb30)]⟩
def circ_each__inv.c5x0:Shape:=circ_each__inv.c5s
def circ_each__inv.c5r:Ck:=Ck.of (T:=List (Int×(Int×((List Int)×(Int×(Int×(List Int))))))) circ_each__inv.c5s (fun ρ x_ k_=>circ_each__inv.c5 x_.2.2.2.2.2.2.2.2.2.2.2.1 x_.2.2.2.2.2.2.2.2.2.2.2.2.1 x_.2.2.2.2.2.2.2.2.2.2.2.2.2.1 x_.2.2.2.2.2.2.2.2.2.2.2.2.2.2.1 x_.2.2.2.2.2.2.2.2.2.2.2.2.2.2.2.1 x_.2.2.2.2.2.2.2.2.2.2.2.2.2.2.2.2.1 x_.2.2.2.2.2.2.2.2.2.2.2.2.2.2.2.2.2.2.1 k_) (fun ρ x_ r_ k_=>k_ 0 (Shape.inj circ_each__inv.c5x0 (x_.1,x_.2.1,x_.2.2.1,x_.2.2.2.1,x_.2.2.2.2.1,x_.2.2.2.2.2.1,x_.2.2.2.2.2.2.1,x_.2.2.2.2.2.2.2.1,x_.2.2.2.2.2.2.2.2.1,x_.2.2.2.2.2.2.2.2.2.1,x_.2.2.2.2.2.2.2.2.2.2.1,x_.2.2.2.2.2.2.2.2.2.2.2.1,x_.2.2.2.2.2.2.2.2.2.2.2.2.1,x_.2.2.2.2.2.2.2.2.2.2.2.2.2.1,x_.2.2.2.2.2.2.2.2.2.2.2.2.2.2.1,x_.2.2.2.2.2.2.2.2.2.2.2.2.2.2.2.1,x_.2.2.2.2.2.2.2.2.2.2.2.2.2.2.2.2.1,x_.2.2.2.2.2.2.2.2.2.2.2.2.2.2.2.2.2.1,r_,())))
def circ_each__inv.c100003 {ρ:Type} (t14:List (Int×(Int×((List Int)×(Int×(Int×(List Int))))))) (t15:Int) (t16:Int) (t3005:List (Int×(Int×((List Int)×(Int×(Int×(List Int))))))) (k_:(Int×(List (Int×(Int×((List Int)×(Int×(Int×(List Int)))))))) ⊕ (Int×(List (Int×(Int×((List Int)×(Int×(Int×(List Int)))))))) → Option ρ):Option ρ :=
 br (decide (t16 < t15))
 (bnd (idx t14 t16) fun y =>
 bnd (W.circ_each__inv.c5 (Prod.fst y) (Prod.fst (Prod.snd y)) (Prod.fst (Prod.snd (Prod.snd y))) (Prod.fst (Prod.snd (Prod.snd (Prod.snd y)))) (Prod.fst (Prod.snd (Prod.snd (Prod.snd (Prod.snd y))))) (Prod.snd (Prod.snd (Prod.snd (Prod.snd (Prod.snd y))))) t3005 some) fun y_1 =>
 k_ (.inl ((IntKind.wrap IntKind.i64 (t16 + (1:Int))),y_1)))
 (k_ (.inr (t16,t3005)))
def circ_each__inv.c100003s:Shape:=⟨[(0,tb38),(1,tb40),(2,tb2),(4,tb6),(5,tb39),(14,tb31),(15,tb5),(16,tb5)],[(2,tb34),(4,tb43),(5,tb44),(3004,tb30),(3005,tb30)]⟩
def circ_each__inv.c100003x0:Shape:=circ_each__inv.c100003s
def circ_each__inv.c100003r:Ck:=Ck.ofLoop (S:=Int×(List (Int×(Int×((List Int)×(Int×(Int×(List Int)))))))) (T:=Int×(List (Int×(Int×((List Int)×(Int×(Int×(List Int)))))))) circ_each__inv.c100003s (fun x_=>(x_.2.2.2.1,x_.2.2.2.2.2.2.2.2.2.2.2.2.1)) (fun ρ x_ s_ k_=>circ_each__inv.c100003 x_.2.1 x_.2.2.1 s_.1 s_.2 k_) (fun ρ x_ r_ k_=>k_ 2 (Shape.inj circ_each__inv.c100003x0 (x_.1,x_.2.1,x_.2.2.1,r_.1,x_.2.2.2.2.1,x_.2.2.2.2.2.1,x_.2.2.2.2.2.2.1,x_.2.2.2.2.2.2.2.1,x_.2.2.2.2.2.2.2.2.1,x_.2.2.2.2.2.2.2.2.2.1,x_.2.2.2.2.2.2.2.2.2.2.1,x_.2.2.2.2.2.2.2.2.2.2.2.1,r_.2,())))
def circ_each__inv (c:Int×(Int×(List (Int×(Int×((List Int)×(Int×(Int×(List Int))))))))):Option (Int×Int×(List (Int×(Int×((List Int)×(Int×(Int×(List Int)))))))×Unit) :=
 bnd (iter (fun s ↦ W.circ_each__inv.c100003 (Prod.snd (Prod.snd c)) (↑(List.length (Prod.snd (Prod.snd c))):Int) (Prod.fst s) (Prod.snd s) some) ((0:Int),[])) fun y =>
 some (Prod.fst c,Prod.fst (Prod.snd c),Prod.snd y,())
def circ_each__inv.mc:MCallee:=⟨102,circ_each__inv.pre,circ_each__inv.post,fun x_=>circ_each__inv x_.1⟩
def circ_each__inv.G:Env:=⟨31,tab,[(129,circ_copied.ce),(103,circ_Inverse_1.ce)],[0,1,2,4,5,7,14,15,16,17],[2,4,5,12,3002,3004,3005],[(5,[⟨[],[],[22,23,24,25,26],[26]⟩,⟨[0],[],[22,23,24,25,26],[26]⟩,⟨[],[],[20,21,23,24],[]⟩,⟨[],[],[20,21,22],[]⟩,⟨[3],[],[20,21,22],[]⟩,⟨[2,4,3],[],[20,21],[]⟩,⟨[5,2,4,3],[26],[20,21],[]⟩,⟨[1,0,6,5,2,4,3],[3005],[],[]⟩,⟨[0,1,2,3,4,5,6,7],[],[],[]⟩,⟨[8,0,1,2,3,4,5,6,7],[5],[],[]⟩])],[(100003,circ_each__inv.c100003r),(5,circ_each__inv.c5r)],[],tab_eqs⟩
theorem circ_each__inv.eq (x_:densU circ_each__inv.mc.pre.tys):denM circ_each__inv.G Try.f102 circ_each__inv.mc.pre circ_each__inv.mc.post x_ = circ_each__inv.mc.F x_:=by kernel_rfl
theorem circ_each__inv.p0:PcA circ_each__inv.G Try.f102 0 :=
 loop_ok (s:=circ_each__inv.c100003r) (by kernel_rfl) (by kernel_rfl) (loops_of (sh:=circ_each__inv.c100003s) (I:=fun x_ s_=>(x_.1,x_.2.1,x_.2.2.1,s_.1,x_.2.2.2.2.1,x_.2.2.2.2.2.1,x_.2.2.2.2.2.2.1,x_.2.2.2.2.2.2.2.1,x_.2.2.2.2.2.2.2.2.1,x_.2.2.2.2.2.2.2.2.2.1,x_.2.2.2.2.2.2.2.2.2.2.1,x_.2.2.2.2.2.2.2.2.2.2.2.1,s_.2,())) (fun x_=>rfl) (fun ρ x_ s_ k_=>(nat_br (nat_bnd fun _=>(nat_bnd fun _=>nat_leaf)) nat_leaf)) (fun ρ x_ t k=>(by kernel_rfl)) (fun x_ s=>by kernel_rfl))
theorem circ_each__inv.p1:PcA circ_each__inv.G Try.f102 1 :=
 region_ok (s:=circ_each__inv.c5r) (by kernel_rfl) (by kernel_rfl) (sums_of (sh:=circ_each__inv.c5s) (fun ρ x_ k_=>(nat_bnd fun _=>(nat_bnd fun _=>(nat_bnd fun _=>nat_leaf)))) (fun ρ x_ t k=>(by kernel_rfl)) (fun x_=>by kernel_rfl))
theorem circ_each__inv.ok:MOk Try.prog 102 circ_each__inv.mc:=fnm_ok (G:=circ_each__inv.G) tab_ok mixed Try.func102 ⟨(fns_cons circ_copied.ok (fns_cons circ_Inverse_1.ok fns_nil)),mfns_nil,tab_eqs_ok⟩ (m:=2) (by kernel_rfl) ⟨⟨trivial,circ_each__inv.p0⟩,circ_each__inv.p1⟩ (by kernel_rfl) circ_each__inv.eq
def slices_Reverse_api_Op.pre:Shape:=⟨[(0,tb14)],[(2000000,tb30)]⟩
def slices_Reverse_api_Op.post:Shape:=⟨[],[(2000000,tb30)]⟩
def slices_Reverse_api_Op.c3 {ρ:Type} (i:Int) (j:Int) (t2000000:List (Int×(Int×((List Int)×(Int×(Int×(List Int))))))) (k_:List (Int×(Int×((List Int)×(Int×(Int×(List Int)))))) → Option ρ):Option ρ :=
 bnd (inR (List.length t2000000) j) fun y =>
 bnd (idx t2000000 j) fun y_1 =>
 bnd (inR (List.length t2000000) i) fun y_2 =>
 bnd (idx t2000000 i) fun y_3 =>
 bnd (inR (List.length t2000000) i) fun y_4 =>
 bnd (idx t2000000 i) fun y_5 =>
 bnd (inR (List.length (List.set t2000000 (Int.toNat i) y_1)) j) fun y_6 =>
 bnd (idx (List.set t2000000 (Int.toNat i) y_1) j) fun y_7 =>
 k_ (List.set (List.set t2000000 (Int.toNat i) y_1) (Int.toNat j) y_3)
def slices_Reverse_api_Op.c3s:Shape:=⟨[(0,tb14),(2,tb5),(3,tb5)],[(2000000,tb30)]⟩
def slices_Reverse_api_Op.c3x0:Shape:=slices_Reverse_api_Op.c3s
def slices_Reverse_api_Op.c3r:Ck:=Ck.of (T:=List (Int×(Int×((List Int)×(Int×(Int×(List Int))))))) slices_Reverse_api_Op.c3s (fun ρ x_ k_=>slices_Reverse_api_Op.c3 x_.1 x_.2.1 x_.2.2.1 k_) (fun ρ x_ r_ k_=>k_ 0 (Shape.inj slices_Reverse_api_Op.c3x0 (x_.1,x_.2.1,r_,())))
def slices_Reverse_api_Op.c100001 {ρ:Type} (i:Int) (j:Int) (t2000000:List (Int×(Int×((List Int)×(Int×(Int×(List Int))))))) (k_:(Int×Int×(List (Int×(Int×((List Int)×(Int×(Int×(List Int)))))))) ⊕ (Int×Int×(List (Int×(Int×((List Int)×(Int×(Int×(List Int)))))))) → Option ρ):Option ρ :=
 br (decide (i < j))
 (bnd (W.slices_Reverse_api_Op.c3 i j t2000000 some) fun y =>
 k_ (.inl ((IntKind.wrap IntKind.i64 (i + (1:Int))),(IntKind.wrap IntKind.i64 (j - (1:Int))),y)))
 (k_ (.inr (i,j,t2000000)))
def slices_Reverse_api_Op.c100001s:Shape:=slices_Reverse_api_Op.c3s
def slices_Reverse_api_Op.c100001x0:Shape:=slices_Reverse_api_Op.c3s
def slices_Reverse_api_Op.c100001r:Ck:=Ck.ofLoop (S:=Int×Int×(List (Int×(Int×((List Int)×(Int×(Int×(List Int)))))))) (T:=Int×Int×(List (Int×(Int×((List Int)×(Int×(Int×(List Int)))))))) slices_Reverse_api_Op.c100001s (fun x_=>(x_.1,x_.2.1,x_.2.2.1)) (fun ρ x_ s_ k_=>slices_Reverse_api_Op.c100001 s_.1 s_.2.1 s_.2.2 k_) (fun ρ x_ r_ k_=>k_ 2 (Shape.inj slices_Reverse_api_Op.c100001x0 (r_.1,r_.2.1,r_.2.2,())))
def slices_Reverse_api_Op (t2000000:List (Int×(Int×((List Int)×(Int×(Int×(List Int))))))):Option ((List (Int×(Int×((List Int)×(Int×(Int×(List Int)))))))×Unit) :=
 bnd (iter (fun s ↦ W.slices_Reverse_api_Op.c100001 (Prod.fst s) (Prod.fst (Prod.snd s)) (Prod.snd (Prod.snd s)) some) ((0:Int),IntKind.wrap IntKind.i64 ((↑(List.length t2000000):Int) - (1:Int)),t2000000)) fun y =>
 some (Prod.snd (Prod.snd y),())
def slices_Reverse_api_Op.mc:MCallee:=⟨104,slices_Reverse_api_Op.pre,slices_Reverse_api_Op.post,fun x_=>slices_Reverse_api_Op x_.1⟩
def slices_Reverse_api_Op.G:Env:=⟨28,tab,[],[0,2,3,9],[2000000],[(3,[⟨[],[],[15,16,17,18,19,20,21,22,23,24,25],[]⟩,⟨[],[],[14,16,17,18,19,20,21,22,23,24,25],[]⟩,⟨[],[],[14,15,17,18,19,20,21,22,23,24,25,26],[2000000]⟩,⟨[],[],[14,15,16,18,19,20,21,22,23,24,25,26],[2000000]⟩,⟨[],[],[14,15,16,17,19,22,23,24,25],[]⟩,⟨[],[],[14,15,16,17,18,22,23,24,25],[]⟩,⟨[4,5],[],[14,15,16,17,22,23,24,25],[]⟩,⟨[6,4,5],[],[14,15,16,17,22,23,24,25],[]⟩,⟨[],[],[14,15,16,17,18,19,20,21,23],[]⟩,⟨[],[],[14,15,16,17,18,19,20,21,22],[]⟩,⟨[8,9],[],[14,15,16,17,18,19,20,21],[]⟩,⟨[10,8,9],[],[14,15,16,17,18,19,20,21],[]⟩,⟨[0,1,4,5,6,7,11,10,8,9],[],[16,17],[]⟩,⟨[12,0,1,4,5,6,7,11,10,8,9],[2000000],[16,17],[]⟩,⟨[2,3,0,1,4,5,6,7,8,9,10,11,12,13],[],[],[]⟩,⟨[14,2,3,0,1,4,5,6,7,8,9,10,11,12,13],[2000000],[],[]⟩])],[(100001,slices_Reverse_api_Op.c100001r),(3,slices_Reverse_api_Op.c3r)],[],tab_eqs⟩
theorem slices_Reverse_api_Op.eq (x_:densU slices_Reverse_api_Op.mc.pre.tys):denM slices_Reverse_api_Op.G Try.f104 slices_Reverse_api_Op.mc.pre slices_Reverse_api_Op.mc.post x_ = slices_Reverse_api_Op.mc.F x_:=by kernel_rfl
theorem slices_Reverse_api_Op.p0:PcA slices_Reverse_api_Op.G Try.f104 0 :=
 loop_ok (s:=slices_Reverse_api_Op.c100001r) (by kernel_rfl) (by kernel_rfl) (loops_of (sh:=slices_Reverse_api_Op.c100001s) (I:=fun x_ s_=>(s_.1,s_.2.1,s_.2.2,())) (fun x_=>rfl) (fun ρ x_ s_ k_=>(nat_br (nat_bnd fun _=>nat_leaf) nat_leaf)) (fun ρ x_ t k=>(by kernel_rfl)) (fun x_ s=>by kernel_rfl))
theorem slices_Reverse_api_Op.p1:PcA slices_Reverse_api_Op.G Try.f104 1 :=
 region_ok (s:=slices_Reverse_api_Op.c3r) (by kernel_rfl) (by kernel_rfl) (sums_of (sh:=slices_Reverse_api_Op.c3s) (fun ρ x_ k_=>(nat_bnd fun _=>(nat_bnd fun _=>(nat_bnd fun _=>(nat_bnd fun _=>(nat_bnd fun _=>(nat_bnd fun _=>(nat_bnd fun _=>(nat_bnd fun _=>nat_leaf))))))))) (fun ρ x_ t k=>(by kernel_rfl)) (fun x_=>by kernel_rfl))
theorem slices_Reverse_api_Op.ok:MOk Try.prog 104 slices_Reverse_api_Op.mc:=fnm_ok (G:=slices_Reverse_api_Op.G) tab_ok mixed Try.func104 ⟨fns_nil,mfns_nil,tab_eqs_ok⟩ (m:=2) (by kernel_rfl) ⟨⟨trivial,slices_Reverse_api_Op.p0⟩,slices_Reverse_api_Op.p1⟩ (by kernel_rfl) slices_Reverse_api_Op.eq
def circ_Inverse.c3 {ρ:Type}  (k_:Unit → Option ρ):Option ρ :=
 k_ ()
def circ_Inverse.c3s:Shape:=⟨[(0,tb38),(1,tb1),(2,tb2),(3,tb12),(4,tb6)],[(1,tb34),(2,tb34),(3,tb19),(4,tb19)]⟩
def circ_Inverse.c3x0:Shape:=circ_Inverse.c3s
def circ_Inverse.c3r:Ck:=Ck.of (T:=Unit) circ_Inverse.c3s (fun ρ x_ k_=>circ_Inverse.c3  k_) (fun ρ x_ r_ k_=>k_ 0 (Shape.inj circ_Inverse.c3x0 (x_.1,x_.2.1,x_.2.2.1,x_.2.2.2.1,(0:Int),(0:Int),[],x_.2.2.2.2.2.2.2.2.2.1,x_.2.2.2.2.2.2.2.2.2.2.1,x_.2.2.2.2.2.2.2.2.2)))
def circ_Inverse (c:Int×(Int×(List (Int×(Int×((List Int)×(Int×(Int×(List Int))))))))):Option ((Int×(Int×(List (Int×(Int×((List Int)×(Int×(Int×(List Int)))))))))×(Int×Int)) :=
 bnd (W.circ_pure (Prod.fst c,Prod.fst (Prod.snd c),Prod.snd (Prod.snd c))) fun y =>
 br (Prod.fst y != (0:Int))
 (bnd (W.circ_Inverse.c3 some) fun y_1 =>
 some (((0:Int),(0:Int),[]),Prod.fst y,Prod.snd y))
 (bnd (W.circ_each__inv (Prod.fst c,Prod.fst (Prod.snd c),Prod.snd (Prod.snd c))) fun y_2 =>
 bnd (W.slices_Reverse_api_Op (Prod.fst y_2.2.2)) fun y_3 =>
 some ((Prod.fst y_2,Prod.fst y_2.2,Prod.fst y_3),(0:Int),(0:Int)))
def circ_Inverse.ce:Go.Ql.Callee:=⟨[(.st (.pair (.int .i64) (.pair (.int .i64) (.sl (.st (.pair (.int .i64) (.pair (.int .i64) (.pair (.sl (.int .i64)) (.pair (.int .i64) (.pair (.int .i64) (.sl (.int .i64))))))))))))],[(.st (.pair (.int .i64) (.pair (.int .i64) (.sl (.st (.pair (.int .i64) (.pair (.int .i64) (.pair (.sl (.int .i64)) (.pair (.int .i64) (.pair (.int .i64) (.sl (.int .i64)))))))))))),(.st (.pair (.int .i64) (.int .i64)))],fun x_=>circ_Inverse x_⟩
def circ_Inverse.G:Env:=⟨20,tab,[(101,circ_pure.ce)],[0,1,2,3,4,5,10],[5,2014,3005],[(3,[⟨[],[],[12],[]⟩,⟨[],[],[11],[2]⟩,⟨[0],[2],[12],[]⟩,⟨[1,2,0],[3],[],[]⟩])],[(3,circ_Inverse.c3r)],[(102,circ_each__inv.mc),(104,slices_Reverse_api_Op.mc)],tab_eqs⟩
theorem circ_Inverse.eq (x_:dens circ_Inverse.ce.params):den circ_Inverse.G Try.f69 circ_Inverse.ce.params circ_Inverse.ce.res x_ = circ_Inverse.ce.F x_:=by kernel_rfl
theorem circ_Inverse.p0:PcA circ_Inverse.G Try.f69 0 :=
 region_ok (s:=circ_Inverse.c3r) (by kernel_rfl) (by kernel_rfl) (sums_of (sh:=circ_Inverse.c3s) (fun ρ x_ k_=>nat_leaf) (fun ρ x_ t k=>(by kernel_rfl)) (fun x_=>by kernel_rfl))
theorem circ_Inverse.ok:CalleeOk Try.prog 69 circ_Inverse.ce:=fn_ok (G:=circ_Inverse.G) tab_ok mixed Try.func69 ⟨(fns_cons circ_pure.ok fns_nil),(mfns_cons circ_each__inv.ok (mfns_cons slices_Reverse_api_Op.ok mfns_nil)),tab_eqs_ok⟩ (m:=1) (by kernel_rfl) ⟨trivial,circ_Inverse.p0⟩ (by kernel_rfl) circ_Inverse.eq
def code_Encoder.c3 {ρ:Type}  (k_:Unit → Option ρ):Option ρ :=
 k_ ()
def code_Encoder.c3s:Shape:=⟨[(0,tb0),(1,tb1),(2,tb2),(3,tb12),(4,tb17),(5,tb39)],[(1,tb3),(2,tb34),(3,tb19),(5,tb19)]⟩
def code_Encoder.c3x0:Shape:=code_Encoder.c3s
def code_Encoder.c3r:Ck:=Ck.of (T:=Unit) code_Encoder.c3s (fun ρ x_ k_=>code_Encoder.c3  k_) (fun ρ x_ r_ k_=>k_ 0 (Shape.inj code_Encoder.c3x0 (x_.1,x_.2.1,x_.2.2.1,x_.2.2.2.1,(0:Int),(0:Int),[],x_.2.2.2.2.2.2.2.2.2.1,x_.2.2.2.2.2.2.2.2.2.2.1,x_.2.2.2.2.2.2.2.2.2)))
def code_Encoder.c4 {ρ:Type} (l:List (Int×(Int×(Bool)))) (c0:Int) (k_:Int×Int×(List (Int×(Int×((List Int)×(Int×(Int×(List Int)))))))×Int×Int → Option ρ):Option ρ :=
 bnd (W.tableau_Standing l c0) fun y =>
 bnd (W.circ_Inverse (c0,(0:Int),y)) fun y_1 =>
 k_ ((Prod.fst (Prod.fst y_1)),(Prod.fst (Prod.snd (Prod.fst y_1))),(Prod.snd (Prod.snd (Prod.fst y_1))),(Prod.fst (Prod.snd y_1)),(Prod.snd (Prod.snd y_1)))
def code_Encoder.c4s:Shape:=code_Encoder.c3s
def code_Encoder.c4x0:Shape:=⟨[(0,tb0),(1,tb1),(2,tb2),(3,tb12),(4,tb17),(5,tb39),(6,tb8)],[(1,tb3),(2,tb34),(3,tb19),(5,tb19),(6,tb34),(7,tb19)]⟩
def code_Encoder.c4r:Ck:=Ck.of (T:=Int×Int×(List (Int×(Int×((List Int)×(Int×(Int×(List Int)))))))×Int×Int) code_Encoder.c4s (fun ρ x_ k_=>code_Encoder.c4 x_.2.1 x_.2.2.1 k_) (fun ρ x_ r_ k_=>k_ 0 (Shape.inj code_Encoder.c4x0 (x_.1,x_.2.1,x_.2.2.1,x_.2.2.2.1,x_.2.2.2.2.1,x_.2.2.2.2.2.1,x_.2.2.2.2.2.2.1,x_.2.2.2.2.2.2.2.1,x_.2.2.2.2.2.2.2.2.1,x_.2.2.2.2.2.2.2.2.2.1,x_.2.2.2.2.2.2.2.2.2.2.1,r_.1,r_.2.1,r_.2.2.1,r_.2.2.2.1,r_.2.2.2.2,())))
def code_Encoder.c5 {ρ:Type}  (k_:Unit → Option ρ):Option ρ :=
 k_ ()
def code_Encoder.c5s:Shape:=code_Encoder.c4x0
def code_Encoder.c5x0:Shape:=code_Encoder.c4x0
def code_Encoder.c5r:Ck:=Ck.of (T:=Unit) code_Encoder.c5s (fun ρ x_ k_=>code_Encoder.c5  k_) (fun ρ x_ r_ k_=>k_ 0 (Shape.inj code_Encoder.c5x0 (x_.1,x_.2.1,x_.2.2.1,x_.2.2.2.1,x_.2.2.2.2.2.2.2.2.2.2.2.1,x_.2.2.2.2.2.2.2.2.2.2.2.2.1,x_.2.2.2.2.2.2.2.2.2.2.2.2.2.1,x_.2.2.2.2.2.2.2.2.2.1,x_.2.2.2.2.2.2.2.2.2.2.1,x_.2.2.2.2.2.2.2.2.2)))
def code_Encoder (c:Int×(List (List UInt8))):Option ((Int×(Int×(List (Int×(Int×((List Int)×(Int×(Int×(List Int)))))))))×(Int×Int)) :=
 bnd (W.code_read (Prod.fst c,Prod.snd c)) fun y =>
 br (Prod.fst (Prod.snd y) != (0:Int))
 (bnd (W.code_Encoder.c3 some) fun y_1 =>
 some (((0:Int),(0:Int),[]),Prod.fst (Prod.snd y),Prod.snd (Prod.snd y)))
 (bnd (W.code_Encoder.c4 (Prod.fst y) (Prod.fst c) some) fun y_2 =>
 bnd (W.code_Encoder.c5 some) fun y_3 =>
 some ((Prod.fst y_2,Prod.fst (Prod.snd y_2),Prod.fst (Prod.snd (Prod.snd y_2))),Prod.fst (Prod.snd y),Prod.snd (Prod.snd y)))
def code_Encoder.ce:Go.Ql.Callee:=⟨[(.st (.pair (.int .i64) (.sl .str)))],[(.st (.pair (.int .i64) (.pair (.int .i64) (.sl (.st (.pair (.int .i64) (.pair (.int .i64) (.pair (.sl (.int .i64)) (.pair (.int .i64) (.pair (.int .i64) (.sl (.int .i64)))))))))))),(.st (.pair (.int .i64) (.int .i64)))],fun x_=>code_Encoder x_⟩
def code_Encoder.G:Env:=⟨31,tab,[(70,code_read.ce),(71,tableau_Standing.ce),(69,circ_Inverse.ce)],[0,1,2,3,4,5,6,15],[],[(5,[⟨[],[],[30],[]⟩,⟨[],[],[29],[2]⟩,⟨[0],[2],[30],[]⟩,⟨[1,2,0],[3],[],[]⟩]),
 (4,[⟨[],[],[21,22,23,24,6,7],[6,7]⟩,⟨[0],[],[21,22,23,24,6,7],[6,7]⟩,⟨[],[],[19,20,22,23,6,7],[6,7]⟩,⟨[],[],[19,20,21,6,7],[6,7]⟩,⟨[3],[],[19,20,21,6,7],[6,7]⟩,⟨[2,4,3],[],[19,20,6,7],[6,7]⟩,⟨[1,0,5,2,4,3],[],[6,7],[6,7]⟩,⟨[6,1,0,5,2,4,3],[],[6,7],[6,7]⟩,⟨[7,6,1,0,5,2,4,3],[],[6,7],[6,7]⟩,⟨[8,7,6,1,0,5,2,4,3],[],[28,6,7],[6,7]⟩,⟨[8,7,6,1,0,5,2,4,3],[],[27,6,7],[6,7]⟩,⟨[],[6],[19,20,21,22,23,24,25,26,18,27,28,7],[7]⟩,⟨[],[7],[19,20,21,22,23,24,25,26,18,27,28,6],[6]⟩,⟨[11,9,8,7,6,1,0,5,2,4,3,12],[6],[28],[]⟩,⟨[12,10,8,7,6,1,0,5,2,4,3,13,11,9],[7],[],[]⟩]),
 (3,[⟨[],[],[17],[]⟩,⟨[],[],[16],[2]⟩,⟨[0],[2],[17],[]⟩,⟨[1,2,0],[3],[],[]⟩])],[(5,code_Encoder.c5r),(4,code_Encoder.c4r),(3,code_Encoder.c3r)],[],tab_eqs⟩
theorem code_Encoder.eq (x_:dens code_Encoder.ce.params):den code_Encoder.G Try.f27 code_Encoder.ce.params code_Encoder.ce.res x_ = code_Encoder.ce.F x_:=by kernel_rfl
theorem code_Encoder.p0:PcA code_Encoder.G Try.f27 0 :=
 region_ok (s:=code_Encoder.c3r) (by kernel_rfl) (by kernel_rfl) (sums_of (sh:=code_Encoder.c3s) (fun ρ x_ k_=>nat_leaf) (fun ρ x_ t k=>(by kernel_rfl)) (fun x_=>by kernel_rfl))
theorem code_Encoder.p1:PcA code_Encoder.G Try.f27 1 :=
 region_ok (s:=code_Encoder.c4r) (by kernel_rfl) (by kernel_rfl) (sums_of (sh:=code_Encoder.c4s) (fun ρ x_ k_=>(nat_bnd fun _=>(nat_bnd fun _=>nat_leaf))) (fun ρ x_ t k=>(by kernel_rfl)) (fun x_=>by kernel_rfl))
theorem code_Encoder.p2:PcA code_Encoder.G Try.f27 2 :=
 region_ok (s:=code_Encoder.c5r) (by kernel_rfl) (by kernel_rfl) (sums_of (sh:=code_Encoder.c5s) (fun ρ x_ k_=>nat_leaf) (fun ρ x_ t k=>(by kernel_rfl)) (fun x_=>by kernel_rfl))
theorem code_Encoder.ok:CalleeOk Try.prog 27 code_Encoder.ce:=fn_ok (G:=code_Encoder.G) tab_ok mixed Try.func27 ⟨(fns_cons code_read.ok (fns_cons tableau_Standing.ok (fns_cons circ_Inverse.ok fns_nil))),mfns_nil,tab_eqs_ok⟩ (m:=3) (by kernel_rfl) ⟨⟨⟨trivial,code_Encoder.p0⟩,code_Encoder.p1⟩,code_Encoder.p2⟩ (by kernel_rfl) code_Encoder.eq
def R_rfault (code:Int) (t1:Int):Option (Int×Int) :=
 some (code,t1)
def R_rfault.ce:Go.Ql.Callee:=⟨[(.int .i64),(.int .i64)],[(.st (.pair (.int .i64) (.int .i64)))],fun x_=>R_rfault x_.1 x_.2⟩
def R_rfault.G:Env:=⟨8,tab,[],[0,1,4],[],[],[],[],tab_eqs⟩
theorem R_rfault.eq (x_:dens R_rfault.ce.params):den R_rfault.G Try.f44 R_rfault.ce.params R_rfault.ce.res x_ = R_rfault.ce.F x_:=by kernel_rfl
theorem R_rfault.ok:CalleeOk Try.prog 44 R_rfault.ce:=fn_ok (G:=R_rfault.G) tab_ok mixed Try.func44 ⟨fns_nil,mfns_nil,tab_eqs_ok⟩ (m:=0) (by kernel_rfl) trivial (by kernel_rfl) R_rfault.eq
abbrev tb45:SO:=.box [.val .bool,.val .str]
def R_IsPauli.c1 {ρ:Type} (text:List UInt8) (n:Int) (k_:Bool → Option ρ):Option ρ :=
 br (decide (n < (1:Int)))
 (k_ true)
 (br ((↑(List.length text):Int) != IntKind.wrap IntKind.i64 (n + (1:Int)))
 (k_ true)
 (bnd (idx text (0:Int)) fun y =>
 br ((↑(UInt8.toNat y):Int) != (43:Int))
 (bnd (idx text (0:Int)) fun y_1 =>
 k_ ((↑(UInt8.toNat y_1):Int) != (45:Int)))
 (k_ false)))
def R_IsPauli.c1s:Shape:=⟨[(0,tb4),(1,tb5),(4,tb6),(5,tb7)],[(4,tb45)]⟩
def R_IsPauli.c1x0:Shape:=⟨[(0,tb4),(1,tb5),(4,tb6),(5,tb7),(25,tb7)],[(4,tb45)]⟩
def R_IsPauli.c1r:Ck:=Ck.of (T:=Bool) R_IsPauli.c1s (fun ρ x_ k_=>R_IsPauli.c1 x_.1 x_.2.1 k_) (fun ρ x_ r_ k_=>k_ 0 (Shape.inj R_IsPauli.c1x0 (x_.1,x_.2.1,x_.2.2.1,r_,x_.2.2.2)))
def R_IsPauli.c6 {ρ:Type} (text:List UInt8) (i:Int) (k_:Bool → Option ρ):Option ρ :=
 bnd (idx text i) fun y =>
 br ((↑(UInt8.toNat y):Int) != (73:Int))
 (bnd (idx text i) fun y_1 =>
 br ((↑(UInt8.toNat y_1):Int) != (88:Int))
 (bnd (idx text i) fun y_2 =>
 br ((↑(UInt8.toNat y_2):Int) != (89:Int))
 (bnd (idx text i) fun y_3 =>
 k_ ((↑(UInt8.toNat y_3):Int) != (90:Int)))
 (k_ false))
 (k_ false))
 (k_ false)
def R_IsPauli.c6s:Shape:=⟨[(0,tb4),(1,tb5),(4,tb6),(5,tb7),(6,tb5)],[(4,tb45)]⟩
def R_IsPauli.c6x0:Shape:=⟨[(0,tb4),(1,tb5),(4,tb6),(5,tb7),(6,tb5),(53,tb7)],[(4,tb45)]⟩
def R_IsPauli.c6r:Ck:=Ck.of (T:=Bool) R_IsPauli.c6s (fun ρ x_ k_=>R_IsPauli.c6 x_.1 x_.2.2.2.1 k_) (fun ρ x_ r_ k_=>k_ 0 (Shape.inj R_IsPauli.c6x0 (x_.1,x_.2.1,x_.2.2.1,x_.2.2.2.1,r_,x_.2.2.2.2)))
def R_IsPauli.c100004 {ρ:Type} (text:List UInt8) (n:Int) (i:Int) (k_:Int ⊕ (Int ⊕ Int) → Option ρ):Option ρ :=
 br (decide (i ≤ n))
 (bnd (W.R_IsPauli.c6 text i some) fun y =>
 br y
 (k_ (.inr (.inl i)))
 (k_ (.inl (IntKind.wrap IntKind.i64 (i + (1:Int))))))
 (k_ (.inr (.inr i)))
def R_IsPauli.c100004s:Shape:=R_IsPauli.c6s
def R_IsPauli.c100004x0:Shape:=R_IsPauli.c6s
def R_IsPauli.c100004x1:Shape:=R_IsPauli.c6s
def R_IsPauli.c100004r:Ck:=Ck.ofLoop (S:=Int) (T:=Int ⊕ Int) R_IsPauli.c100004s (fun x_=>x_.2.2.2.1) (fun ρ x_ s_ k_=>R_IsPauli.c100004 x_.1 x_.2.1 s_ k_) (fun ρ x_ r_ k_=>sel r_ (fun r_=>k_ 1 (Shape.inj R_IsPauli.c100004x0 (x_.1,x_.2.1,false,r_,false,[],()))) (fun r_=>k_ 2 (Shape.inj R_IsPauli.c100004x1 (x_.1,x_.2.1,x_.2.2.1,r_,x_.2.2.2.2))))
def R_IsPauli.c8 {ρ:Type} (text:List UInt8) (k_:Bool → Option ρ):Option ρ :=
 bnd (idx text (0:Int)) fun y =>
 bnd (okIf (decide ((1:Int) ≤ (↑(List.length text):Int)) && decide ((↑(List.length text):Int) ≤ (↑(List.length text):Int)))) fun y_1 =>
 k_ ((↑(UInt8.toNat y):Int) == (45:Int))
def R_IsPauli.c8s:Shape:=R_IsPauli.c6s
def R_IsPauli.c8x0:Shape:=R_IsPauli.c6s
def R_IsPauli.c8r:Ck:=Ck.of (T:=Bool) R_IsPauli.c8s (fun ρ x_ k_=>R_IsPauli.c8 x_.1 k_) (fun ρ x_ r_ k_=>k_ 0 (Shape.inj R_IsPauli.c8x0 (x_.1,x_.2.1,true,x_.2.2.2.1,r_,(List.drop (1:Nat) (List.take (Int.toNat (↑(List.length x_.1):Int)) x_.1)),())))
def R_IsPauli (text:List UInt8) (n:Int):Option (((Bool)×(List UInt8))×(Bool)) :=
 bnd (W.R_IsPauli.c1 text n some) fun y =>
 br y
 (some ((false,[]),false))
 (bnd (iter (fun s ↦ W.R_IsPauli.c100004 text n s some) (1:Int)) fun y_1 =>
 sel y_1
 (fun u=>some ((false,[]),false))
 (fun v=>bnd (W.R_IsPauli.c8 text some) fun y_2 =>
 some ((y_2,List.drop (1:Nat) (List.take (Int.toNat (↑(List.length text):Int)) text)),true)))
def R_IsPauli.ce:Go.Ql.Callee:=⟨[.str,(.int .i64)],[(.st (.pair .bool .str)),.bool],fun x_=>R_IsPauli x_.1 x_.2⟩
def R_IsPauli.G:Env:=⟨61,tab,[],[0,1,4,5,6,25,29,53],[],[(8,[⟨[],[],[58,59],[]⟩,⟨[0],[],[58,59],[]⟩,⟨[1,0],[],[58,59],[]⟩,⟨[],[],[55,56,57],[]⟩,⟨[3],[],[55,56,57],[]⟩,⟨[2,1,0,4,3],[],[],[]⟩,⟨[5,2,1,0,4,3],[4],[],[]⟩,⟨[6,5,2,1,0,4,3],[],[],[]⟩])],[(8,R_IsPauli.c8r),(100004,R_IsPauli.c100004r),(6,R_IsPauli.c6r),(1,R_IsPauli.c1r)],[],tab_eqs⟩
theorem R_IsPauli.eq (x_:dens R_IsPauli.ce.params):den R_IsPauli.G Try.f15 R_IsPauli.ce.params R_IsPauli.ce.res x_ = R_IsPauli.ce.F x_:=by kernel_rfl
theorem R_IsPauli.p0:PcA R_IsPauli.G Try.f15 0 :=
 region_ok (s:=R_IsPauli.c1r) (by kernel_rfl) (by kernel_rfl) (sums_of (sh:=R_IsPauli.c1s) (fun ρ x_ k_=>(nat_br nat_leaf (nat_br nat_leaf (nat_bnd fun _=>(nat_br (nat_bnd fun _=>nat_leaf) nat_leaf))))) (fun ρ x_ t k=>(by kernel_rfl)) (fun x_=>by kernel_rfl))
theorem R_IsPauli.p1:PcA R_IsPauli.G Try.f15 1 :=
 loop_ok (s:=R_IsPauli.c100004r) (by kernel_rfl) (by kernel_rfl) (loops_of (sh:=R_IsPauli.c100004s) (I:=fun x_ s_=>(x_.1,x_.2.1,x_.2.2.1,s_,x_.2.2.2.2)) (fun x_=>rfl) (fun ρ x_ s_ k_=>(nat_br (nat_bnd fun _=>(nat_br nat_leaf nat_leaf)) nat_leaf)) (fun ρ x_ t k=>(nat_sel (fun _=>(by kernel_rfl)) (fun _=>(by kernel_rfl)))) (fun x_ s=>by kernel_rfl))
theorem R_IsPauli.p2:PcA R_IsPauli.G Try.f15 2 :=
 region_ok (s:=R_IsPauli.c6r) (by kernel_rfl) (by kernel_rfl) (sums_of (sh:=R_IsPauli.c6s) (fun ρ x_ k_=>(nat_bnd fun _=>(nat_br (nat_bnd fun _=>(nat_br (nat_bnd fun _=>(nat_br (nat_bnd fun _=>nat_leaf) nat_leaf)) nat_leaf)) nat_leaf))) (fun ρ x_ t k=>(by kernel_rfl)) (fun x_=>by kernel_rfl))
theorem R_IsPauli.p3:PcA R_IsPauli.G Try.f15 3 :=
 region_ok (s:=R_IsPauli.c8r) (by kernel_rfl) (by kernel_rfl) (sums_of (sh:=R_IsPauli.c8s) (fun ρ x_ k_=>(nat_bnd fun _=>(nat_bnd fun _=>nat_leaf))) (fun ρ x_ t k=>(by kernel_rfl)) (fun x_=>by kernel_rfl))
theorem R_IsPauli.ok:CalleeOk Try.prog 15 R_IsPauli.ce:=fn_ok (G:=R_IsPauli.G) tab_ok mixed Try.func15 ⟨fns_nil,mfns_nil,tab_eqs_ok⟩ (m:=4) (by kernel_rfl) ⟨⟨⟨⟨trivial,R_IsPauli.p0⟩,R_IsPauli.p1⟩,R_IsPauli.p2⟩,R_IsPauli.p3⟩ (by kernel_rfl) R_IsPauli.eq
abbrev tb46:SD:=.one (.own 3 0)
abbrev tb47:SO:=.arr 0 false 9 .str
def R_bare.c100003 {ρ:Type} (gens:List (List UInt8)) (i:Int) (out:List (List UInt8)) (k_:(Int×(List (List UInt8))) ⊕ (Int×(List (List UInt8))) → Option ρ):Option ρ :=
 br (decide (i < (↑(List.length gens):Int)))
 (bnd (idx gens i) fun y =>
 bnd (okIf (decide ((1:Int) ≤ (↑(List.length y):Int)) && decide ((↑(List.length y):Int) ≤ (↑(List.length y):Int)))) fun y_1 =>
 bnd (okIf (decide ((List.length out + (1:Nat)) * (16:Nat) ≤ (140737488355328:Nat)) && decide (List.length out + (1:Nat) ≤ (140737488355328:Nat)))) fun y_2 =>
 k_ (.inl ((IntKind.wrap IntKind.i64 (i + (1:Int))),(out ++ [List.drop (1:Nat) (List.take (Int.toNat (↑(List.length y):Int)) y)]))))
 (k_ (.inr (i,out)))
def R_bare.c100003s:Shape:=⟨[(0,tb21),(2,tb21),(3,tb46),(4,tb5)],[(3,tb47)]⟩
def R_bare.c100003x0:Shape:=R_bare.c100003s
def R_bare.c100003r:Ck:=Ck.ofLoop (S:=Int×(List (List UInt8))) (T:=Int×(List (List UInt8))) R_bare.c100003s (fun x_=>(x_.2.2.1,x_.2.2.2.1)) (fun ρ x_ s_ k_=>R_bare.c100003 x_.1 s_.1 s_.2 k_) (fun ρ x_ r_ k_=>k_ 2 (Shape.inj R_bare.c100003x0 (x_.1,x_.2.1,r_.1,r_.2,())))
def R_bare (gens:List (List UInt8)):Option (List (List UInt8)) :=
 bnd (iter (fun s ↦ W.R_bare.c100003 gens (Prod.fst s) (Prod.snd s) some) ((0:Int),[])) fun y =>
 some (Prod.snd y)
def R_bare.ce:Go.Ql.Callee:=⟨[(.sl .str)],[(.sl .str)],fun x_=>R_bare x_⟩
def R_bare.G:Env:=⟨20,tab,[],[0,2,3,4,8],[3],[],[(100003,R_bare.c100003r)],[],tab_eqs⟩
theorem R_bare.eq (x_:dens R_bare.ce.params):den R_bare.G Try.f72 R_bare.ce.params R_bare.ce.res x_ = R_bare.ce.F x_:=by kernel_rfl
theorem R_bare.p0:PcA R_bare.G Try.f72 0 :=
 loop_ok (s:=R_bare.c100003r) (by kernel_rfl) (by kernel_rfl) (loops_of (sh:=R_bare.c100003s) (I:=fun x_ s_=>(x_.1,x_.2.1,s_.1,s_.2,())) (fun x_=>rfl) (fun ρ x_ s_ k_=>(nat_br (nat_bnd fun _=>(nat_bnd fun _=>(nat_bnd fun _=>nat_leaf))) nat_leaf)) (fun ρ x_ t k=>(by kernel_rfl)) (fun x_ s=>by kernel_rfl))
theorem R_bare.ok:CalleeOk Try.prog 72 R_bare.ce:=fn_ok (G:=R_bare.G) tab_ok mixed Try.func72 ⟨fns_nil,mfns_nil,tab_eqs_ok⟩ (m:=1) (by kernel_rfl) ⟨trivial,R_bare.p0⟩ (by kernel_rfl) R_bare.eq
def R_Apart.c5 {ρ:Type} (a:List UInt8) (b:List UInt8) (i:Int) (k_:Bool → Option ρ):Option ρ :=
 bnd (idx a i) fun y =>
 br ((↑(UInt8.toNat y):Int) != (73:Int))
 (bnd (idx b i) fun y_1 =>
 br ((↑(UInt8.toNat y_1):Int) != (73:Int))
 (bnd (idx a i) fun y_2 =>
 bnd (idx b i) fun y_3 =>
 k_ ((↑(UInt8.toNat y_2):Int) != (↑(UInt8.toNat y_3):Int)))
 (k_ false))
 (k_ false)
def R_Apart.c5s:Shape:=⟨[(0,tb4),(1,tb4),(4,tb7),(5,tb5),(6,tb5)],[]⟩
def R_Apart.c5x0:Shape:=⟨[(0,tb4),(1,tb4),(4,tb7),(5,tb5),(6,tb5),(31,tb7)],[]⟩
def R_Apart.c5r:Ck:=Ck.of (T:=Bool) R_Apart.c5s (fun ρ x_ k_=>R_Apart.c5 x_.1 x_.2.1 x_.2.2.2.2.1 k_) (fun ρ x_ r_ k_=>k_ 0 (Shape.inj R_Apart.c5x0 (x_.1,x_.2.1,x_.2.2.1,x_.2.2.2.1,x_.2.2.2.2.1,r_,())))
def R_Apart.c220486 {ρ:Type} (a:List UInt8) (b:List UInt8) (n:Int) (i:Int) (k_:Int → Option ρ):Option ρ :=
 bnd (W.R_Apart.c5 a b i some) fun y =>
 br y
 (k_ (IntKind.wrap IntKind.i64 (n + (1:Int))))
 (k_ n)
def R_Apart.c220486s:Shape:=R_Apart.c5s
def R_Apart.c220486x0:Shape:=R_Apart.c5s
def R_Apart.c220486r:Ck:=Ck.of (T:=Int) R_Apart.c220486s (fun ρ x_ k_=>R_Apart.c220486 x_.1 x_.2.1 x_.2.2.2.1 x_.2.2.2.2.1 k_) (fun ρ x_ r_ k_=>k_ 0 (Shape.inj R_Apart.c220486x0 (x_.1,x_.2.1,x_.2.2.1,r_,x_.2.2.2.2)))
def R_Apart.c100003 {ρ:Type} (a:List UInt8) (b:List UInt8) (n:Int) (i:Int) (k_:(Int×Int) ⊕ (Int×Int) → Option ρ):Option ρ :=
 br (decide (i < (↑(List.length a):Int)))
 (bnd (W.R_Apart.c220486 a b n i some) fun y =>
 k_ (.inl (y,(IntKind.wrap IntKind.i64 (i + (1:Int))))))
 (k_ (.inr (n,i)))
def R_Apart.c100003s:Shape:=R_Apart.c5s
def R_Apart.c100003x0:Shape:=R_Apart.c5s
def R_Apart.c100003r:Ck:=Ck.ofLoop (S:=Int×Int) (T:=Int×Int) R_Apart.c100003s (fun x_=>(x_.2.2.2.1,x_.2.2.2.2.1)) (fun ρ x_ s_ k_=>R_Apart.c100003 x_.1 x_.2.1 s_.1 s_.2 k_) (fun ρ x_ r_ k_=>k_ 2 (Shape.inj R_Apart.c100003x0 (x_.1,x_.2.1,x_.2.2.1,r_.1,r_.2,())))
def R_Apart (a:List UInt8) (b:List UInt8):Option (Bool) :=
 bnd (iter (fun s ↦ W.R_Apart.c100003 a b (Prod.fst s) (Prod.snd s) some) ((0:Int),(0:Int))) fun y =>
 some (Int.tmod (Prod.fst y) (2:Int) == (1:Int))
def R_Apart.ce:Go.Ql.Callee:=⟨[.str,.str],[.bool],fun x_=>R_Apart x_.1 x_.2⟩
def R_Apart.G:Env:=⟨37,tab,[],[0,1,4,5,6,10,31],[],[(5,[⟨[],[],[14],[]⟩,⟨[],[],[13],[]⟩,⟨[0,1],[],[],[]⟩,⟨[2,0,1],[],[],[]⟩,⟨[3,2,0,1],[],[],[]⟩,⟨[4,3,2,0,1],[],[19],[]⟩,⟨[4,3,2,0,1],[],[18],[]⟩,⟨[5,4,3,2,0,1,6],[],[],[]⟩,⟨[7,5,4,3,2,0,1,6],[],[],[]⟩,⟨[4,3,2,0,1,8,7,5,6],[],[],[]⟩,⟨[9,4,3,2,0,1,8,7,5,6],[],[],[]⟩,⟨[10,9,4,3,2,0,1,8,7,5,6],[],[25,27,28,29],[]⟩,⟨[10,9,4,3,2,0,1,8,7,5,6],[],[24,27,28,29],[]⟩,⟨[11,10,9,4,3,2,0,1,8,7,5,6,12],[],[27,28,29],[]⟩,⟨[10,9,4,3,2,0,1,8,7,5,6],[],[24,25,26,28],[]⟩,⟨[10,9,4,3,2,0,1,8,7,5,6],[],[24,25,26,27],[]⟩,⟨[14,10,9,4,3,2,0,1,8,7,5,6,15],[],[24,25,26],[]⟩,⟨[13,11,10,9,4,3,2,0,1,8,7,5,6,12,16,14,15],[],[],[]⟩,⟨[10,9,4,3,2,0,1,8,7,5,6,17,13,11,12,16,14,15],[],[],[]⟩])],[(100003,R_Apart.c100003r),(220486,R_Apart.c220486r),(5,R_Apart.c5r)],[],tab_eqs⟩
theorem R_Apart.eq (x_:dens R_Apart.ce.params):den R_Apart.G Try.f73 R_Apart.ce.params R_Apart.ce.res x_ = R_Apart.ce.F x_:=by kernel_rfl
theorem R_Apart.p0:PcA R_Apart.G Try.f73 0 :=
 loop_ok (s:=R_Apart.c100003r) (by kernel_rfl) (by kernel_rfl) (loops_of (sh:=R_Apart.c100003s) (I:=fun x_ s_=>(x_.1,x_.2.1,x_.2.2.1,s_.1,s_.2,())) (fun x_=>rfl) (fun ρ x_ s_ k_=>(nat_br (nat_bnd fun _=>nat_leaf) nat_leaf)) (fun ρ x_ t k=>(by kernel_rfl)) (fun x_ s=>by kernel_rfl))
theorem R_Apart.p1:PcA R_Apart.G Try.f73 1 :=
 join_ok (s:=R_Apart.c220486r) (by kernel_rfl) (by kernel_rfl) (sums_of (sh:=R_Apart.c220486s) (fun ρ x_ k_=>(nat_bnd fun _=>(nat_br nat_leaf nat_leaf))) (fun ρ x_ t k=>(by kernel_rfl)) (fun x_=>by kernel_rfl))
theorem R_Apart.p2:PcA R_Apart.G Try.f73 2 :=
 region_ok (s:=R_Apart.c5r) (by kernel_rfl) (by kernel_rfl) (sums_of (sh:=R_Apart.c5s) (fun ρ x_ k_=>(nat_bnd fun _=>(nat_br (nat_bnd fun _=>(nat_br (nat_bnd fun _=>(nat_bnd fun _=>nat_leaf)) nat_leaf)) nat_leaf))) (fun ρ x_ t k=>(by kernel_rfl)) (fun x_=>by kernel_rfl))
theorem R_Apart.ok:CalleeOk Try.prog 73 R_Apart.ce:=fn_ok (G:=R_Apart.G) tab_ok mixed Try.func73 ⟨fns_nil,mfns_nil,tab_eqs_ok⟩ (m:=3) (by kernel_rfl) ⟨⟨⟨trivial,R_Apart.p0⟩,R_Apart.p1⟩,R_Apart.p2⟩ (by kernel_rfl) R_Apart.eq
def R_lettersTimes.c8 {ρ:Type} (a:List UInt8) (b:List UInt8) (i:Int) (k_:Bool → Option ρ):Option ρ :=
 bnd (idx a i) fun y =>
 bnd (idx b i) fun y_1 =>
 k_ ((↑(UInt8.toNat y):Int) == (↑(UInt8.toNat y_1):Int))
def R_lettersTimes.c8s:Shape:=⟨[(0,tb4),(1,tb4),(4,tb4),(5,tb4),(6,tb5),(7,tb4)],[]⟩
def R_lettersTimes.c8x0:Shape:=⟨[(0,tb4),(1,tb4),(4,tb4),(5,tb4),(6,tb5),(7,tb4),(35,tb7)],[]⟩
def R_lettersTimes.c8r:Ck:=Ck.of (T:=Bool) R_lettersTimes.c8s (fun ρ x_ k_=>R_lettersTimes.c8 x_.1 x_.2.1 x_.2.2.2.2.1 k_) (fun ρ x_ r_ k_=>k_ 0 (Shape.inj R_lettersTimes.c8x0 (x_.1,x_.2.1,x_.2.2.1,x_.2.2.2.1,x_.2.2.2.2.1,x_.2.2.2.2.2.1,r_,())))
def R_lettersTimes.c15 {ρ:Type} (a:List UInt8) (b:List UInt8) (i:Int) (t8:Int) (k_:Bool → Option ρ):Option ρ :=
 bnd (idx (Array.toList (ByteArray.data (ByteArray.mk #[(88:UInt8),(89:UInt8),(90:UInt8)]))) t8) fun y =>
 bnd (idx a i) fun y_1 =>
 br ((↑(UInt8.toNat y):Int) != (↑(UInt8.toNat y_1):Int))
 (bnd (idx (Array.toList (ByteArray.data (ByteArray.mk #[(88:UInt8),(89:UInt8),(90:UInt8)]))) t8) fun y_2 =>
 bnd (idx b i) fun y_3 =>
 k_ ((↑(UInt8.toNat y_2):Int) != (↑(UInt8.toNat y_3):Int)))
 (k_ false)
def R_lettersTimes.c15s:Shape:=⟨[(0,tb4),(1,tb4),(4,tb4),(5,tb4),(6,tb5),(7,tb4),(8,tb5)],[]⟩
def R_lettersTimes.c15x0:Shape:=⟨[(0,tb4),(1,tb4),(4,tb4),(5,tb4),(6,tb5),(7,tb4),(8,tb5),(57,tb7)],[]⟩
def R_lettersTimes.c15r:Ck:=Ck.of (T:=Bool) R_lettersTimes.c15s (fun ρ x_ k_=>R_lettersTimes.c15 x_.1 x_.2.1 x_.2.2.2.2.1 x_.2.2.2.2.2.2.1 k_) (fun ρ x_ r_ k_=>k_ 0 (Shape.inj R_lettersTimes.c15x0 (x_.1,x_.2.1,x_.2.2.1,x_.2.2.2.1,x_.2.2.2.2.1,x_.2.2.2.2.2.1,x_.2.2.2.2.2.2.1,r_,())))
def R_lettersTimes.c261446 {ρ:Type} (a:List UInt8) (b:List UInt8) (i:Int) (c:List UInt8) (t8:Int) (k_:List UInt8 → Option ρ):Option ρ :=
 bnd (W.R_lettersTimes.c15 a b i t8 some) fun y =>
 br y
 (bnd (okIf (decide ((0:Int) ≤ t8) && decide (t8 ≤ IntKind.wrap IntKind.i64 (t8 + (1:Int))) && decide (IntKind.wrap IntKind.i64 (t8 + (1:Int)) ≤ (↑(List.length (Array.toList (ByteArray.data (ByteArray.mk #[(88:UInt8),(89:UInt8),(90:UInt8)])))):Int)))) fun y_1 =>
 k_ (List.drop (Int.toNat t8) (List.take (Int.toNat (IntKind.wrap IntKind.i64 (t8 + (1:Int)))) (Array.toList (ByteArray.data (ByteArray.mk #[(88:UInt8),(89:UInt8),(90:UInt8)]))))))
 (k_ c)
def R_lettersTimes.c261446s:Shape:=R_lettersTimes.c15s
def R_lettersTimes.c261446x0:Shape:=R_lettersTimes.c15s
def R_lettersTimes.c261446r:Ck:=Ck.of (T:=List UInt8) R_lettersTimes.c261446s (fun ρ x_ k_=>R_lettersTimes.c261446 x_.1 x_.2.1 x_.2.2.2.2.1 x_.2.2.2.2.2.1 x_.2.2.2.2.2.2.1 k_) (fun ρ x_ r_ k_=>k_ 0 (Shape.inj R_lettersTimes.c261446x0 (x_.1,x_.2.1,x_.2.2.1,x_.2.2.2.1,x_.2.2.2.2.1,r_,x_.2.2.2.2.2.2)))
def R_lettersTimes.c100013 {ρ:Type} (a:List UInt8) (b:List UInt8) (i:Int) (c:List UInt8) (t8:Int) (k_:((List UInt8)×Int) ⊕ ((List UInt8)×Int) → Option ρ):Option ρ :=
 br (decide (t8 < (3:Int)))
 (bnd (W.R_lettersTimes.c261446 a b i c t8 some) fun y =>
 k_ (.inl (y,(IntKind.wrap IntKind.i64 (t8 + (1:Int))))))
 (k_ (.inr (c,t8)))
def R_lettersTimes.c100013s:Shape:=R_lettersTimes.c15s
def R_lettersTimes.c100013x0:Shape:=R_lettersTimes.c15s
def R_lettersTimes.c100013r:Ck:=Ck.ofLoop (S:=(List UInt8)×Int) (T:=(List UInt8)×Int) R_lettersTimes.c100013s (fun x_=>(x_.2.2.2.2.2.1,x_.2.2.2.2.2.2.1)) (fun ρ x_ s_ k_=>R_lettersTimes.c100013 x_.1 x_.2.1 x_.2.2.2.2.1 s_.1 s_.2 k_) (fun ρ x_ r_ k_=>k_ 4 (Shape.inj R_lettersTimes.c100013x0 (x_.1,x_.2.1,x_.2.2.1,x_.2.2.2.1,x_.2.2.2.2.1,r_.1,r_.2,())))
def R_lettersTimes.c224608 {ρ:Type} (a:List UInt8) (b:List UInt8) (i:Int) (c:List UInt8) (k_:List UInt8 → Option ρ):Option ρ :=
 bnd (idx a i) fun y =>
 br ((↑(UInt8.toNat y):Int) == (73:Int))
 (bnd (okIf (decide ((0:Int) ≤ i) && decide (i ≤ IntKind.wrap IntKind.i64 (i + (1:Int))) && decide (IntKind.wrap IntKind.i64 (i + (1:Int)) ≤ (↑(List.length b):Int)))) fun y_1 =>
 k_ (List.drop (Int.toNat i) (List.take (Int.toNat (IntKind.wrap IntKind.i64 (i + (1:Int)))) b)))
 (bnd (W.R_lettersTimes.c8 a b i some) fun y_2 =>
 br y_2
 (k_ (Array.toList (ByteArray.data (ByteArray.mk #[(73:UInt8)]))))
 (bnd (idx b i) fun y_3 =>
 br ((↑(UInt8.toNat y_3):Int) != (73:Int))
 (bnd (iter (fun s ↦ W.R_lettersTimes.c100013 a b i (Prod.fst s) (Prod.snd s) some) (Array.toList (ByteArray.data (ByteArray.mk #[(88:UInt8)])),(0:Int))) fun y_4 =>
 k_ (Prod.fst y_4))
 (k_ c)))
def R_lettersTimes.c224608s:Shape:=R_lettersTimes.c8s
def R_lettersTimes.c224608x0:Shape:=R_lettersTimes.c8s
def R_lettersTimes.c224608r:Ck:=Ck.of (T:=List UInt8) R_lettersTimes.c224608s (fun ρ x_ k_=>R_lettersTimes.c224608 x_.1 x_.2.1 x_.2.2.2.2.1 x_.2.2.2.2.2.1 k_) (fun ρ x_ r_ k_=>k_ 0 (Shape.inj R_lettersTimes.c224608x0 (x_.1,x_.2.1,x_.2.2.1,x_.2.2.2.1,x_.2.2.2.2.1,r_,())))
def R_lettersTimes.c100003 {ρ:Type} (a:List UInt8) (b:List UInt8) (out:List UInt8) (i:Int) (k_:((List UInt8)×Int) ⊕ ((List UInt8)×Int) → Option ρ):Option ρ :=
 br (decide (i < (↑(List.length a):Int)))
 (bnd (okIf (decide ((0:Int) ≤ i) && decide (i ≤ IntKind.wrap IntKind.i64 (i + (1:Int))) && decide (IntKind.wrap IntKind.i64 (i + (1:Int)) ≤ (↑(List.length a):Int)))) fun y =>
 bnd (W.R_lettersTimes.c224608 a b i (List.drop (Int.toNat i) (List.take (Int.toNat (IntKind.wrap IntKind.i64 (i + (1:Int)))) a)) some) fun y_1 =>
 bnd (okIf (decide (List.length out + List.length y_1 ≤ (9223372036854775807:Nat)))) fun y_2 =>
 k_ (.inl ((out ++ y_1),(IntKind.wrap IntKind.i64 (i + (1:Int))))))
 (k_ (.inr (out,i)))
def R_lettersTimes.c100003s:Shape:=⟨[(0,tb4),(1,tb4),(4,tb4),(5,tb4),(6,tb5)],[]⟩
def R_lettersTimes.c100003x0:Shape:=R_lettersTimes.c100003s
def R_lettersTimes.c100003r:Ck:=Ck.ofLoop (S:=(List UInt8)×Int) (T:=(List UInt8)×Int) R_lettersTimes.c100003s (fun x_=>(x_.2.2.2.1,x_.2.2.2.2.1)) (fun ρ x_ s_ k_=>R_lettersTimes.c100003 x_.1 x_.2.1 s_.1 s_.2 k_) (fun ρ x_ r_ k_=>k_ 2 (Shape.inj R_lettersTimes.c100003x0 (x_.1,x_.2.1,x_.2.2.1,r_.1,r_.2,())))
def R_lettersTimes (a:List UInt8) (b:List UInt8):Option (List UInt8) :=
 bnd (iter (fun s ↦ W.R_lettersTimes.c100003 a b (Prod.fst s) (Prod.snd s) some) (Array.toList (ByteArray.data (ByteArray.mk #[])),(0:Int))) fun y =>
 some (Prod.fst y)
def R_lettersTimes.ce:Go.Ql.Callee:=⟨[.str,.str],[.str],fun x_=>R_lettersTimes x_.1 x_.2⟩
def R_lettersTimes.G:Env:=⟨66,tab,[],[0,1,4,5,6,7,8,12,23,35,39,41,57],[],[(15,[⟨[],[],[46,47,48],[]⟩,⟨[0],[],[46,47,48],[]⟩,⟨[],[],[44,45,47],[]⟩,⟨[],[],[44,45,46],[]⟩,⟨[2,3],[],[44,45],[]⟩,⟨[1,0,4,2,3],[],[],[]⟩,⟨[5,1,0,4,2,3],[],[],[]⟩,⟨[6,5,1,0,4,2,3],[],[53,54,55],[]⟩,⟨[7,6,5,1,0,4,2,3],[],[53,54,55],[]⟩,⟨[6,5,1,0,4,2,3],[],[51,52,54],[]⟩,⟨[6,5,1,0,4,2,3],[],[51,52,53],[]⟩,⟨[9,6,5,1,0,4,2,3,10],[],[51,52],[]⟩,⟨[8,7,6,5,1,0,4,2,3,11,9,10],[],[],[]⟩,⟨[6,5,1,0,4,2,3,12,8,7,11,9,10],[],[],[]⟩]),
 (8,[⟨[],[],[30,32,33,34],[]⟩,⟨[],[],[29,32,33,34],[]⟩,⟨[0,1],[],[32,33,34],[]⟩,⟨[],[],[29,30,31,33],[]⟩,⟨[],[],[29,30,31,32],[]⟩,⟨[3,4],[],[29,30,31],[]⟩,⟨[2,0,1,5,3,4],[],[],[]⟩])],[(100003,R_lettersTimes.c100003r),(224608,R_lettersTimes.c224608r),(100013,R_lettersTimes.c100013r),(261446,R_lettersTimes.c261446r),(15,R_lettersTimes.c15r),(8,R_lettersTimes.c8r)],[],tab_eqs⟩
theorem R_lettersTimes.eq (x_:dens R_lettersTimes.ce.params):den R_lettersTimes.G Try.f110 R_lettersTimes.ce.params R_lettersTimes.ce.res x_ = R_lettersTimes.ce.F x_:=by kernel_rfl
theorem R_lettersTimes.p0:PcA R_lettersTimes.G Try.f110 0 :=
 loop_ok (s:=R_lettersTimes.c100003r) (by kernel_rfl) (by kernel_rfl) (loops_of (sh:=R_lettersTimes.c100003s) (I:=fun x_ s_=>(x_.1,x_.2.1,x_.2.2.1,s_.1,s_.2,())) (fun x_=>rfl) (fun ρ x_ s_ k_=>(nat_br (nat_bnd fun _=>(nat_bnd fun _=>(nat_bnd fun _=>nat_leaf))) nat_leaf)) (fun ρ x_ t k=>(by kernel_rfl)) (fun x_ s=>by kernel_rfl))
theorem R_lettersTimes.p1:PcA R_lettersTimes.G Try.f110 1 :=
 join_ok (s:=R_lettersTimes.c224608r) (by kernel_rfl) (by kernel_rfl) (sums_of (sh:=R_lettersTimes.c224608s) (fun ρ x_ k_=>(nat_bnd fun _=>(nat_br (nat_bnd fun _=>nat_leaf) (nat_bnd fun _=>(nat_br nat_leaf (nat_bnd fun _=>(nat_br (nat_bnd fun _=>nat_leaf) nat_leaf))))))) (fun ρ x_ t k=>(by kernel_rfl)) (fun x_=>by kernel_rfl))
theorem R_lettersTimes.p2:PcA R_lettersTimes.G Try.f110 2 :=
 region_ok (s:=R_lettersTimes.c8r) (by kernel_rfl) (by kernel_rfl) (sums_of (sh:=R_lettersTimes.c8s) (fun ρ x_ k_=>(nat_bnd fun _=>(nat_bnd fun _=>nat_leaf))) (fun ρ x_ t k=>(by kernel_rfl)) (fun x_=>by kernel_rfl))
theorem R_lettersTimes.p3:PcA R_lettersTimes.G Try.f110 3 :=
 loop_ok (s:=R_lettersTimes.c100013r) (by kernel_rfl) (by kernel_rfl) (loops_of (sh:=R_lettersTimes.c100013s) (I:=fun x_ s_=>(x_.1,x_.2.1,x_.2.2.1,x_.2.2.2.1,x_.2.2.2.2.1,s_.1,s_.2,())) (fun x_=>rfl) (fun ρ x_ s_ k_=>(nat_br (nat_bnd fun _=>nat_leaf) nat_leaf)) (fun ρ x_ t k=>(by kernel_rfl)) (fun x_ s=>by kernel_rfl))
theorem R_lettersTimes.p4:PcA R_lettersTimes.G Try.f110 4 :=
 join_ok (s:=R_lettersTimes.c261446r) (by kernel_rfl) (by kernel_rfl) (sums_of (sh:=R_lettersTimes.c261446s) (fun ρ x_ k_=>(nat_bnd fun _=>(nat_br (nat_bnd fun _=>nat_leaf) nat_leaf))) (fun ρ x_ t k=>(by kernel_rfl)) (fun x_=>by kernel_rfl))
theorem R_lettersTimes.p5:PcA R_lettersTimes.G Try.f110 5 :=
 region_ok (s:=R_lettersTimes.c15r) (by kernel_rfl) (by kernel_rfl) (sums_of (sh:=R_lettersTimes.c15s) (fun ρ x_ k_=>(nat_bnd fun _=>(nat_bnd fun _=>(nat_br (nat_bnd fun _=>(nat_bnd fun _=>nat_leaf)) nat_leaf)))) (fun ρ x_ t k=>(by kernel_rfl)) (fun x_=>by kernel_rfl))
theorem R_lettersTimes.ok:CalleeOk Try.prog 110 R_lettersTimes.ce:=fn_ok (G:=R_lettersTimes.G) tab_ok mixed Try.func110 ⟨fns_nil,mfns_nil,tab_eqs_ok⟩ (m:=6) (by kernel_rfl) ⟨⟨⟨⟨⟨⟨trivial,R_lettersTimes.p0⟩,R_lettersTimes.p1⟩,R_lettersTimes.p2⟩,R_lettersTimes.p3⟩,R_lettersTimes.p4⟩,R_lettersTimes.p5⟩ (by kernel_rfl) R_lettersTimes.eq
end
end W
end
