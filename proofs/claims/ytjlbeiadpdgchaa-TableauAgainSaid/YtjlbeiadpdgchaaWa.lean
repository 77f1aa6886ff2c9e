/- Lifted functions, part 1: each with its contract. -/
import Derived.Test.YtjlbeiadpdgchaaCa
import Derived.Test.YtjlbeiadpdgchaaProg
set_option linter.all false
section
set_option maxHeartbeats 4000000
set_option maxRecDepth 100000
set_option linter.unusedVariables false
namespace W
open Go Go.Ql Go.Proofs
noncomputable section
abbrev tb1:SD:=.one (.ref 1 0)
abbrev tb2:SD:=.one (.ref 2 0)
abbrev tb4:SD:=.one (.val .str)
abbrev tb5:SD:=.one (.val (.int .i64))
abbrev tb6:SD:=.one (.ref 4 0)
abbrev tb7:SD:=.one (.val .bool)
abbrev tb8:SD:=.one (.ref 6 0)
abbrev tb9:SO:=.box [.val (.int .u64),.val (.int .u64),.val .bool]
abbrev tb10:SD:=.one (.val (.int .u32))
def jO.c1 {ρ:Type} (x:Int) (k_:Int→Option ρ):Option ρ:=
 bnd (idx (Array.toList (ByteArray.data (ByteArray.mk (List.toArray (List.append (List.append [(0:UInt8),(1:UInt8),(1:UInt8),(2:UInt8),(1:UInt8),(2:UInt8),(2:UInt8),(3:UInt8),(1:UInt8),(2:UInt8),(2:UInt8),(3:UInt8),(2:UInt8),(3:UInt8),(3:UInt8),(4:UInt8),(1:UInt8),(2:UInt8),(2:UInt8),(3:UInt8),(2:UInt8),(3:UInt8),(3:UInt8),(4:UInt8),(2:UInt8),(3:UInt8),(3:UInt8),(4:UInt8),(3:UInt8),(4:UInt8),(4:UInt8),(5:UInt8),(1:UInt8),(2:UInt8),(2:UInt8),(3:UInt8),(2:UInt8),(3:UInt8),(3:UInt8),(4:UInt8),(2:UInt8),(3:UInt8),(3:UInt8),(4:UInt8),(3:UInt8),(4:UInt8),(4:UInt8),(5:UInt8),(2:UInt8),(3:UInt8),(3:UInt8),(4:UInt8),(3:UInt8),(4:UInt8),(4:UInt8),(5:UInt8),(3:UInt8),(4:UInt8),(4:UInt8),(5:UInt8),(4:UInt8),(5:UInt8),(5:UInt8),(6:UInt8)] [(1:UInt8),(2:UInt8),(2:UInt8),(3:UInt8),(2:UInt8),(3:UInt8),(3:UInt8),(4:UInt8),(2:UInt8),(3:UInt8),(3:UInt8),(4:UInt8),(3:UInt8),(4:UInt8),(4:UInt8),(5:UInt8),(2:UInt8),(3:UInt8),(3:UInt8),(4:UInt8),(3:UInt8),(4:UInt8),(4:UInt8),(5:UInt8),(3:UInt8),(4:UInt8),(4:UInt8),(5:UInt8),(4:UInt8),(5:UInt8),(5:UInt8),(6:UInt8),(2:UInt8),(3:UInt8),(3:UInt8),(4:UInt8),(3:UInt8),(4:UInt8),(4:UInt8),(5:UInt8),(3:UInt8),(4:UInt8),(4:UInt8),(5:UInt8),(4:UInt8),(5:UInt8),(5:UInt8),(6:UInt8),(3:UInt8),(4:UInt8),(4:UInt8),(5:UInt8),(4:UInt8),(5:UInt8),(5:UInt8),(6:UInt8),(4:UInt8),(5:UInt8),(5:UInt8),(6:UInt8),(5:UInt8),(6:UInt8),(6:UInt8),(7:UInt8)]) (List.append [(1:UInt8),(2:UInt8),(2:UInt8),(3:UInt8),(2:UInt8),(3:UInt8),(3:UInt8),(4:UInt8),(2:UInt8),(3:UInt8),(3:UInt8),(4:UInt8),(3:UInt8),(4:UInt8),(4:UInt8),(5:UInt8),(2:UInt8),(3:UInt8),(3:UInt8),(4:UInt8),(3:UInt8),(4:UInt8),(4:UInt8),(5:UInt8),(3:UInt8),(4:UInt8),(4:UInt8),(5:UInt8),(4:UInt8),(5:UInt8),(5:UInt8),(6:UInt8),(2:UInt8),(3:UInt8),(3:UInt8),(4:UInt8),(3:UInt8),(4:UInt8),(4:UInt8),(5:UInt8),(3:UInt8),(4:UInt8),(4:UInt8),(5:UInt8),(4:UInt8),(5:UInt8),(5:UInt8),(6:UInt8),(3:UInt8),(4:UInt8),(4:UInt8),(5:UInt8),(4:UInt8),(5:UInt8),(5:UInt8),(6:UInt8),(4:UInt8),(5:UInt8),(5:UInt8),(6:UInt8),(5:UInt8),(6:UInt8),(6:UInt8),(7:UInt8)] [(2:UInt8),(3:UInt8),(3:UInt8),(4:UInt8),(3:UInt8),(4:UInt8),(4:UInt8),(5:UInt8),(3:UInt8),(4:UInt8),(4:UInt8),(5:UInt8),(4:UInt8),(5:UInt8),(5:UInt8),(6:UInt8),(3:UInt8),(4:UInt8),(4:UInt8),(5:UInt8),(4:UInt8),(5:UInt8),(5:UInt8),(6:UInt8),(4:UInt8),(5:UInt8),(5:UInt8),(6:UInt8),(5:UInt8),(6:UInt8),(6:UInt8),(7:UInt8),(3:UInt8),(4:UInt8),(4:UInt8),(5:UInt8),(4:UInt8),(5:UInt8),(5:UInt8),(6:UInt8),(4:UInt8),(5:UInt8),(5:UInt8),(6:UInt8),(5:UInt8),(6:UInt8),(6:UInt8),(7:UInt8),(4:UInt8),(5:UInt8),(5:UInt8),(6:UInt8),(5:UInt8),(6:UInt8),(6:UInt8),(7:UInt8),(5:UInt8),(6:UInt8),(6:UInt8),(7:UInt8),(6:UInt8),(7:UInt8),(7:UInt8),(8:UInt8)])))))) (Int.fdiv x ((2:Int) ^ (24:Nat)))) fun y=>
 bnd (idx (Array.toList (ByteArray.data (ByteArray.mk (List.toArray (List.append (List.append [(0:UInt8),(1:UInt8),(1:UInt8),(2:UInt8),(1:UInt8),(2:UInt8),(2:UInt8),(3:UInt8),(1:UInt8),(2:UInt8),(2:UInt8),(3:UInt8),(2:UInt8),(3:UInt8),(3:UInt8),(4:UInt8),(1:UInt8),(2:UInt8),(2:UInt8),(3:UInt8),(2:UInt8),(3:UInt8),(3:UInt8),(4:UInt8),(2:UInt8),(3:UInt8),(3:UInt8),(4:UInt8),(3:UInt8),(4:UInt8),(4:UInt8),(5:UInt8),(1:UInt8),(2:UInt8),(2:UInt8),(3:UInt8),(2:UInt8),(3:UInt8),(3:UInt8),(4:UInt8),(2:UInt8),(3:UInt8),(3:UInt8),(4:UInt8),(3:UInt8),(4:UInt8),(4:UInt8),(5:UInt8),(2:UInt8),(3:UInt8),(3:UInt8),(4:UInt8),(3:UInt8),(4:UInt8),(4:UInt8),(5:UInt8),(3:UInt8),(4:UInt8),(4:UInt8),(5:UInt8),(4:UInt8),(5:UInt8),(5:UInt8),(6:UInt8)] [(1:UInt8),(2:UInt8),(2:UInt8),(3:UInt8),(2:UInt8),(3:UInt8),(3:UInt8),(4:UInt8),(2:UInt8),(3:UInt8),(3:UInt8),(4:UInt8),(3:UInt8),(4:UInt8),(4:UInt8),(5:UInt8),(2:UInt8),(3:UInt8),(3:UInt8),(4:UInt8),(3:UInt8),(4:UInt8),(4:UInt8),(5:UInt8),(3:UInt8),(4:UInt8),(4:UInt8),(5:UInt8),(4:UInt8),(5:UInt8),(5:UInt8),(6:UInt8),(2:UInt8),(3:UInt8),(3:UInt8),(4:UInt8),(3:UInt8),(4:UInt8),(4:UInt8),(5:UInt8),(3:UInt8),(4:UInt8),(4:UInt8),(5:UInt8),(4:UInt8),(5:UInt8),(5:UInt8),(6:UInt8),(3:UInt8),(4:UInt8),(4:UInt8),(5:UInt8),(4:UInt8),(5:UInt8),(5:UInt8),(6:UInt8),(4:UInt8),(5:UInt8),(5:UInt8),(6:UInt8),(5:UInt8),(6:UInt8),(6:UInt8),(7:UInt8)]) (List.append [(1:UInt8),(2:UInt8),(2:UInt8),(3:UInt8),(2:UInt8),(3:UInt8),(3:UInt8),(4:UInt8),(2:UInt8),(3:UInt8),(3:UInt8),(4:UInt8),(3:UInt8),(4:UInt8),(4:UInt8),(5:UInt8),(2:UInt8),(3:UInt8),(3:UInt8),(4:UInt8),(3:UInt8),(4:UInt8),(4:UInt8),(5:UInt8),(3:UInt8),(4:UInt8),(4:UInt8),(5:UInt8),(4:UInt8),(5:UInt8),(5:UInt8),(6:UInt8),(2:UInt8),(3:UInt8),(3:UInt8),(4:UInt8),(3:UInt8),(4:UInt8),(4:UInt8),(5:UInt8),(3:UInt8),(4:UInt8),(4:UInt8),(5:UInt8),(4:UInt8),(5:UInt8),(5:UInt8),(6:UInt8),(3:UInt8),(4:UInt8),(4:UInt8),(5:UInt8),(4:UInt8),(5:UInt8),(5:UInt8),(6:UInt8),(4:UInt8),(5:UInt8),(5:UInt8),(6:UInt8),(5:UInt8),(6:UInt8),(6:UInt8),(7:UInt8)] [(2:UInt8),(3:UInt8),(3:UInt8),(4:UInt8),(3:UInt8),(4:UInt8),(4:UInt8),(5:UInt8),(3:UInt8),(4:UInt8),(4:UInt8),(5:UInt8),(4:UInt8),(5:UInt8),(5:UInt8),(6:UInt8),(3:UInt8),(4:UInt8),(4:UInt8),(5:UInt8),(4:UInt8),(5:UInt8),(5:UInt8),(6:UInt8),(4:UInt8),(5:UInt8),(5:UInt8),(6:UInt8),(5:UInt8),(6:UInt8),(6:UInt8),(7:UInt8),(3:UInt8),(4:UInt8),(4:UInt8),(5:UInt8),(4:UInt8),(5:UInt8),(5:UInt8),(6:UInt8),(4:UInt8),(5:UInt8),(5:UInt8),(6:UInt8),(5:UInt8),(6:UInt8),(6:UInt8),(7:UInt8),(4:UInt8),(5:UInt8),(5:UInt8),(6:UInt8),(5:UInt8),(6:UInt8),(6:UInt8),(7:UInt8),(5:UInt8),(6:UInt8),(6:UInt8),(7:UInt8),(6:UInt8),(7:UInt8),(7:UInt8),(8:UInt8)])))))) (ibits BinOp.and IntKind.u32 (Int.fdiv x ((2:Int) ^ (16:Nat))) (255:Int))) fun y_1=>
 bnd (idx (Array.toList (ByteArray.data (ByteArray.mk (List.toArray (List.append (List.append [(0:UInt8),(1:UInt8),(1:UInt8),(2:UInt8),(1:UInt8),(2:UInt8),(2:UInt8),(3:UInt8),(1:UInt8),(2:UInt8),(2:UInt8),(3:UInt8),(2:UInt8),(3:UInt8),(3:UInt8),(4:UInt8),(1:UInt8),(2:UInt8),(2:UInt8),(3:UInt8),(2:UInt8),(3:UInt8),(3:UInt8),(4:UInt8),(2:UInt8),(3:UInt8),(3:UInt8),(4:UInt8),(3:UInt8),(4:UInt8),(4:UInt8),(5:UInt8),(1:UInt8),(2:UInt8),(2:UInt8),(3:UInt8),(2:UInt8),(3:UInt8),(3:UInt8),(4:UInt8),(2:UInt8),(3:UInt8),(3:UInt8),(4:UInt8),(3:UInt8),(4:UInt8),(4:UInt8),(5:UInt8),(2:UInt8),(3:UInt8),(3:UInt8),(4:UInt8),(3:UInt8),(4:UInt8),(4:UInt8),(5:UInt8),(3:UInt8),(4:UInt8),(4:UInt8),(5:UInt8),(4:UInt8),(5:UInt8),(5:UInt8),(6:UInt8)] [(1:UInt8),(2:UInt8),(2:UInt8),(3:UInt8),(2:UInt8),(3:UInt8),(3:UInt8),(4:UInt8),(2:UInt8),(3:UInt8),(3:UInt8),(4:UInt8),(3:UInt8),(4:UInt8),(4:UInt8),(5:UInt8),(2:UInt8),(3:UInt8),(3:UInt8),(4:UInt8),(3:UInt8),(4:UInt8),(4:UInt8),(5:UInt8),(3:UInt8),(4:UInt8),(4:UInt8),(5:UInt8),(4:UInt8),(5:UInt8),(5:UInt8),(6:UInt8),(2:UInt8),(3:UInt8),(3:UInt8),(4:UInt8),(3:UInt8),(4:UInt8),(4:UInt8),(5:UInt8),(3:UInt8),(4:UInt8),(4:UInt8),(5:UInt8),(4:UInt8),(5:UInt8),(5:UInt8),(6:UInt8),(3:UInt8),(4:UInt8),(4:UInt8),(5:UInt8),(4:UInt8),(5:UInt8),(5:UInt8),(6:UInt8),(4:UInt8),(5:UInt8),(5:UInt8),(6:UInt8),(5:UInt8),(6:UInt8),(6:UInt8),(7:UInt8)]) (List.append [(1:UInt8),(2:UInt8),(2:UInt8),(3:UInt8),(2:UInt8),(3:UInt8),(3:UInt8),(4:UInt8),(2:UInt8),(3:UInt8),(3:UInt8),(4:UInt8),(3:UInt8),(4:UInt8),(4:UInt8),(5:UInt8),(2:UInt8),(3:UInt8),(3:UInt8),(4:UInt8),(3:UInt8),(4:UInt8),(4:UInt8),(5:UInt8),(3:UInt8),(4:UInt8),(4:UInt8),(5:UInt8),(4:UInt8),(5:UInt8),(5:UInt8),(6:UInt8),(2:UInt8),(3:UInt8),(3:UInt8),(4:UInt8),(3:UInt8),(4:UInt8),(4:UInt8),(5:UInt8),(3:UInt8),(4:UInt8),(4:UInt8),(5:UInt8),(4:UInt8),(5:UInt8),(5:UInt8),(6:UInt8),(3:UInt8),(4:UInt8),(4:UInt8),(5:UInt8),(4:UInt8),(5:UInt8),(5:UInt8),(6:UInt8),(4:UInt8),(5:UInt8),(5:UInt8),(6:UInt8),(5:UInt8),(6:UInt8),(6:UInt8),(7:UInt8)] [(2:UInt8),(3:UInt8),(3:UInt8),(4:UInt8),(3:UInt8),(4:UInt8),(4:UInt8),(5:UInt8),(3:UInt8),(4:UInt8),(4:UInt8),(5:UInt8),(4:UInt8),(5:UInt8),(5:UInt8),(6:UInt8),(3:UInt8),(4:UInt8),(4:UInt8),(5:UInt8),(4:UInt8),(5:UInt8),(5:UInt8),(6:UInt8),(4:UInt8),(5:UInt8),(5:UInt8),(6:UInt8),(5:UInt8),(6:UInt8),(6:UInt8),(7:UInt8),(3:UInt8),(4:UInt8),(4:UInt8),(5:UInt8),(4:UInt8),(5:UInt8),(5:UInt8),(6:UInt8),(4:UInt8),(5:UInt8),(5:UInt8),(6:UInt8),(5:UInt8),(6:UInt8),(6:UInt8),(7:UInt8),(4:UInt8),(5:UInt8),(5:UInt8),(6:UInt8),(5:UInt8),(6:UInt8),(6:UInt8),(7:UInt8),(5:UInt8),(6:UInt8),(6:UInt8),(7:UInt8),(6:UInt8),(7:UInt8),(7:UInt8),(8:UInt8)])))))) (ibits BinOp.and IntKind.u32 (Int.fdiv x ((2:Int) ^ (8:Nat))) (255:Int))) fun y_2=>
 bnd (idx (Array.toList (ByteArray.data (ByteArray.mk (List.toArray (List.append (List.append [(0:UInt8),(1:UInt8),(1:UInt8),(2:UInt8),(1:UInt8),(2:UInt8),(2:UInt8),(3:UInt8),(1:UInt8),(2:UInt8),(2:UInt8),(3:UInt8),(2:UInt8),(3:UInt8),(3:UInt8),(4:UInt8),(1:UInt8),(2:UInt8),(2:UInt8),(3:UInt8),(2:UInt8),(3:UInt8),(3:UInt8),(4:UInt8),(2:UInt8),(3:UInt8),(3:UInt8),(4:UInt8),(3:UInt8),(4:UInt8),(4:UInt8),(5:UInt8),(1:UInt8),(2:UInt8),(2:UInt8),(3:UInt8),(2:UInt8),(3:UInt8),(3:UInt8),(4:UInt8),(2:UInt8),(3:UInt8),(3:UInt8),(4:UInt8),(3:UInt8),(4:UInt8),(4:UInt8),(5:UInt8),(2:UInt8),(3:UInt8),(3:UInt8),(4:UInt8),(3:UInt8),(4:UInt8),(4:UInt8),(5:UInt8),(3:UInt8),(4:UInt8),(4:UInt8),(5:UInt8),(4:UInt8),(5:UInt8),(5:UInt8),(6:UInt8)] [(1:UInt8),(2:UInt8),(2:UInt8),(3:UInt8),(2:UInt8),(3:UInt8),(3:UInt8),(4:UInt8),(2:UInt8),(3:UInt8),(3:UInt8),(4:UInt8),(3:UInt8),(4:UInt8),(4:UInt8),(5:UInt8),(2:UInt8),(3:UInt8),(3:UInt8),(4:UInt8),(3:UInt8),(4:UInt8),(4:UInt8),(5:UInt8),(3:UInt8),(4:UInt8),(4:UInt8),(5:UInt8),(4:UInt8),(5:UInt8),(5:UInt8),(6:UInt8),(2:UInt8),(3:UInt8),(3:UInt8),(4:UInt8),(3:UInt8),(4:UInt8),(4:UInt8),(5:UInt8),(3:UInt8),(4:UInt8),(4:UInt8),(5:UInt8),(4:UInt8),(5:UInt8),(5:UInt8),(6:UInt8),(3:UInt8),(4:UInt8),(4:UInt8),(5:UInt8),(4:UInt8),(5:UInt8),(5:UInt8),(6:UInt8),(4:UInt8),(5:UInt8),(5:UInt8),(6:UInt8),(5:UInt8),(6:UInt8),(6:UInt8),(7:UInt8)]) (List.append [(1:UInt8),(2:UInt8),(2:UInt8),(3:UInt8),(2:UInt8),(3:UInt8),(3:UInt8),(4:UInt8),(2:UInt8),(3:UInt8),(3:UInt8),(4:UInt8),(3:UInt8),(4:UInt8),(4:UInt8),(5:UInt8),(2:UInt8),(3:UInt8),(3:UInt8),(4:UInt8),(3:UInt8),(4:UInt8),(4:UInt8),(5:UInt8),(3:UInt8),(4:UInt8),(4:UInt8),(5:UInt8),(4:UInt8),(5:UInt8),(5:UInt8),(6:UInt8),(2:UInt8),(3:UInt8),(3:UInt8),(4:UInt8),(3:UInt8),(4:UInt8),(4:UInt8),(5:UInt8),(3:UInt8),(4:UInt8),(4:UInt8),(5:UInt8),(4:UInt8),(5:UInt8),(5:UInt8),(6:UInt8),(3:UInt8),(4:UInt8),(4:UInt8),(5:UInt8),(4:UInt8),(5:UInt8),(5:UInt8),(6:UInt8),(4:UInt8),(5:UInt8),(5:UInt8),(6:UInt8),(5:UInt8),(6:UInt8),(6:UInt8),(7:UInt8)] [(2:UInt8),(3:UInt8),(3:UInt8),(4:UInt8),(3:UInt8),(4:UInt8),(4:UInt8),(5:UInt8),(3:UInt8),(4:UInt8),(4:UInt8),(5:UInt8),(4:UInt8),(5:UInt8),(5:UInt8),(6:UInt8),(3:UInt8),(4:UInt8),(4:UInt8),(5:UInt8),(4:UInt8),(5:UInt8),(5:UInt8),(6:UInt8),(4:UInt8),(5:UInt8),(5:UInt8),(6:UInt8),(5:UInt8),(6:UInt8),(6:UInt8),(7:UInt8),(3:UInt8),(4:UInt8),(4:UInt8),(5:UInt8),(4:UInt8),(5:UInt8),(5:UInt8),(6:UInt8),(4:UInt8),(5:UInt8),(5:UInt8),(6:UInt8),(5:UInt8),(6:UInt8),(6:UInt8),(7:UInt8),(4:UInt8),(5:UInt8),(5:UInt8),(6:UInt8),(5:UInt8),(6:UInt8),(6:UInt8),(7:UInt8),(5:UInt8),(6:UInt8),(6:UInt8),(7:UInt8),(6:UInt8),(7:UInt8),(7:UInt8),(8:UInt8)])))))) (ibits BinOp.and IntKind.u32 x (255:Int))) fun y_3=>
 k_ (IntKind.wrap IntKind.i64 (IntKind.wrap IntKind.u8 (IntKind.wrap IntKind.u8 (IntKind.wrap IntKind.u8 ((↑(UInt8.toNat y):Int)+(↑(UInt8.toNat y_1):Int))+(↑(UInt8.toNat y_2):Int))+(↑(UInt8.toNat y_3):Int))))
def jO.c1s:Shape:=⟨[(0,tb10),(2,tb5)],[]⟩
def jO.c1x0:Shape:=jO.c1s
def jO.c1r:Ck:=Ck.of (T:=Int) jO.c1s (fun ρ x_ k_=>jO.c1 x_.1 k_) (fun ρ x_ r_ k_=>k_ 0 (Shape.inj jO.c1x0 (x_.1,r_,())))
def jO (x:Int):Option Int:=
 bnd (W.jO.c1 x some) fun y=>
 some y
def jO.ce:Go.Ql.Callee:=⟨[(.int .u32)],[(.int .i64)],fun x_=>jO x_⟩
def jO.G:Env:=⟨21,tab,[],[0,2],[],[(1,[⟨[],[],[6,7,8,9,11,12,13,14,16,17,18],[]⟩,⟨[0],[],[6,7,8,9,11,12,13,14,16,17,18],[]⟩,⟨[1,0],[],[6,7,8,9,11,12,13,14,16,17,18],[]⟩,⟨[],[],[3,4,5,11,12,13,14,16,17,18],[]⟩,⟨[3],[],[3,4,5,11,12,13,14,16,17,18],[]⟩,⟨[4,3],[],[3,4,5,11,12,13,14,16,17,18],[]⟩,⟨[5,4,3],[],[3,4,5,11,12,13,14,16,17,18],[]⟩,⟨[2,1,0,6,5,4,3],[],[11,12,13,14,16,17,18],[]⟩,⟨[],[],[3,4,5,6,7,8,9,10,16,17,18],[]⟩,⟨[8],[],[3,4,5,6,7,8,9,10,16,17,18],[]⟩,⟨[9,8],[],[3,4,5,6,7,8,9,10,16,17,18],[]⟩,⟨[10,9,8],[],[3,4,5,6,7,8,9,10,16,17,18],[]⟩,⟨[7,2,1,0,6,5,4,3,11,10,9,8],[],[16,17,18],[]⟩,⟨[],[],[3,4,5,6,7,8,9,10,11,12,13,14,15],[]⟩,⟨[13],[],[3,4,5,6,7,8,9,10,11,12,13,14,15],[]⟩,⟨[14,13],[],[3,4,5,6,7,8,9,10,11,12,13,14,15],[]⟩,⟨[12,7,2,1,0,6,5,4,3,11,10,9,8,15,14,13],[],[],[]⟩,⟨[16,12,7,2,1,0,6,5,4,3,11,10,9,8,15,14,13],[],[],[]⟩,⟨[17,16,12,7,2,1,0,6,5,4,3,11,10,9,8,15,14,13],[],[],[]⟩])],[(1,jO.c1r)],[],tab_eqs⟩
theorem jO.eq (x_:dens jO.ce.params):den jO.G Try.f135 jO.ce.params jO.ce.res x_=jO.ce.F x_:=by kernel_rfl
theorem jO.p0:PcA jO.G Try.f135 0:=
 region_ok (s:=jO.c1r) (by kernel_rfl) (by kernel_rfl) (sums_of (sh:=jO.c1s) (fun ρ x_ k_=>(nat_bnd fun _=>(nat_bnd fun _=>(nat_bnd fun _=>(nat_bnd fun _=>nat_leaf))))) (fun ρ x_ t k=>(by kernel_rfl)) (fun x_=>by kernel_rfl))
theorem jO.ok:CalleeOk Try.prog 135 jO.ce:=fn_ok (G:=jO.G) tab_ok mixed Try.func135 ⟨fns_nil,mfns_nil,tab_eqs_ok⟩ (m:=1) (by kernel_rfl) ⟨trivial,jO.p0⟩ (by kernel_rfl) jO.eq
def Jp (x:Int):Option Int:=
 some (ibits BinOp.and IntKind.i64 (IntKind.wrap IntKind.i64 (IntKind.wrap IntKind.u64 (IntKind.wrap IntKind.u64 (IntKind.wrap IntKind.u64 (ibits BinOp.and IntKind.u64 (IntKind.wrap IntKind.u64 (Int.fdiv (IntKind.wrap IntKind.u64 (ibits BinOp.and IntKind.u64 (Int.fdiv (IntKind.wrap IntKind.u64 (ibits BinOp.and IntKind.u64 (Int.fdiv x ((2:Int) ^ (1:Nat))) (6148914691236517205:Int)+ibits BinOp.and IntKind.u64 x (6148914691236517205:Int))) ((2:Int) ^ (2:Nat))) (3689348814741910323:Int)+ibits BinOp.and IntKind.u64 (IntKind.wrap IntKind.u64 (ibits BinOp.and IntKind.u64 (Int.fdiv x ((2:Int) ^ (1:Nat))) (6148914691236517205:Int)+ibits BinOp.and IntKind.u64 x (6148914691236517205:Int))) (3689348814741910323:Int))) ((2:Int) ^ (4:Nat))+IntKind.wrap IntKind.u64 (ibits BinOp.and IntKind.u64 (Int.fdiv (IntKind.wrap IntKind.u64 (ibits BinOp.and IntKind.u64 (Int.fdiv x ((2:Int) ^ (1:Nat))) (6148914691236517205:Int)+ibits BinOp.and IntKind.u64 x (6148914691236517205:Int))) ((2:Int) ^ (2:Nat))) (3689348814741910323:Int)+ibits BinOp.and IntKind.u64 (IntKind.wrap IntKind.u64 (ibits BinOp.and IntKind.u64 (Int.fdiv x ((2:Int) ^ (1:Nat))) (6148914691236517205:Int)+ibits BinOp.and IntKind.u64 x (6148914691236517205:Int))) (3689348814741910323:Int)))) (1085102592571150095:Int)+Int.fdiv (ibits BinOp.and IntKind.u64 (IntKind.wrap IntKind.u64 (Int.fdiv (IntKind.wrap IntKind.u64 (ibits BinOp.and IntKind.u64 (Int.fdiv (IntKind.wrap IntKind.u64 (ibits BinOp.and IntKind.u64 (Int.fdiv x ((2:Int) ^ (1:Nat))) (6148914691236517205:Int)+ibits BinOp.and IntKind.u64 x (6148914691236517205:Int))) ((2:Int) ^ (2:Nat))) (3689348814741910323:Int)+ibits BinOp.and IntKind.u64 (IntKind.wrap IntKind.u64 (ibits BinOp.and IntKind.u64 (Int.fdiv x ((2:Int) ^ (1:Nat))) (6148914691236517205:Int)+ibits BinOp.and IntKind.u64 x (6148914691236517205:Int))) (3689348814741910323:Int))) ((2:Int) ^ (4:Nat))+IntKind.wrap IntKind.u64 (ibits BinOp.and IntKind.u64 (Int.fdiv (IntKind.wrap IntKind.u64 (ibits BinOp.and IntKind.u64 (Int.fdiv x ((2:Int) ^ (1:Nat))) (6148914691236517205:Int)+ibits BinOp.and IntKind.u64 x (6148914691236517205:Int))) ((2:Int) ^ (2:Nat))) (3689348814741910323:Int)+ibits BinOp.and IntKind.u64 (IntKind.wrap IntKind.u64 (ibits BinOp.and IntKind.u64 (Int.fdiv x ((2:Int) ^ (1:Nat))) (6148914691236517205:Int)+ibits BinOp.and IntKind.u64 x (6148914691236517205:Int))) (3689348814741910323:Int)))) (1085102592571150095:Int)) ((2:Int) ^ (8:Nat)))+Int.fdiv (IntKind.wrap IntKind.u64 (ibits BinOp.and IntKind.u64 (IntKind.wrap IntKind.u64 (Int.fdiv (IntKind.wrap IntKind.u64 (ibits BinOp.and IntKind.u64 (Int.fdiv (IntKind.wrap IntKind.u64 (ibits BinOp.and IntKind.u64 (Int.fdiv x ((2:Int) ^ (1:Nat))) (6148914691236517205:Int)+ibits BinOp.and IntKind.u64 x (6148914691236517205:Int))) ((2:Int) ^ (2:Nat))) (3689348814741910323:Int)+ibits BinOp.and IntKind.u64 (IntKind.wrap IntKind.u64 (ibits BinOp.and IntKind.u64 (Int.fdiv x ((2:Int) ^ (1:Nat))) (6148914691236517205:Int)+ibits BinOp.and IntKind.u64 x (6148914691236517205:Int))) (3689348814741910323:Int))) ((2:Int) ^ (4:Nat))+IntKind.wrap IntKind.u64 (ibits BinOp.and IntKind.u64 (Int.fdiv (IntKind.wrap IntKind.u64 (ibits BinOp.and IntKind.u64 (Int.fdiv x ((2:Int) ^ (1:Nat))) (6148914691236517205:Int)+ibits BinOp.and IntKind.u64 x (6148914691236517205:Int))) ((2:Int) ^ (2:Nat))) (3689348814741910323:Int)+ibits BinOp.and IntKind.u64 (IntKind.wrap IntKind.u64 (ibits BinOp.and IntKind.u64 (Int.fdiv x ((2:Int) ^ (1:Nat))) (6148914691236517205:Int)+ibits BinOp.and IntKind.u64 x (6148914691236517205:Int))) (3689348814741910323:Int)))) (1085102592571150095:Int)+Int.fdiv (ibits BinOp.and IntKind.u64 (IntKind.wrap IntKind.u64 (Int.fdiv (IntKind.wrap IntKind.u64 (ibits BinOp.and IntKind.u64 (Int.fdiv (IntKind.wrap IntKind.u64 (ibits BinOp.and IntKind.u64 (Int.fdiv x ((2:Int) ^ (1:Nat))) (6148914691236517205:Int)+ibits BinOp.and IntKind.u64 x (6148914691236517205:Int))) ((2:Int) ^ (2:Nat))) (3689348814741910323:Int)+ibits BinOp.and IntKind.u64 (IntKind.wrap IntKind.u64 (ibits BinOp.and IntKind.u64 (Int.fdiv x ((2:Int) ^ (1:Nat))) (6148914691236517205:Int)+ibits BinOp.and IntKind.u64 x (6148914691236517205:Int))) (3689348814741910323:Int))) ((2:Int) ^ (4:Nat))+IntKind.wrap IntKind.u64 (ibits BinOp.and IntKind.u64 (Int.fdiv (IntKind.wrap IntKind.u64 (ibits BinOp.and IntKind.u64 (Int.fdiv x ((2:Int) ^ (1:Nat))) (6148914691236517205:Int)+ibits BinOp.and IntKind.u64 x (6148914691236517205:Int))) ((2:Int) ^ (2:Nat))) (3689348814741910323:Int)+ibits BinOp.and IntKind.u64 (IntKind.wrap IntKind.u64 (ibits BinOp.and IntKind.u64 (Int.fdiv x ((2:Int) ^ (1:Nat))) (6148914691236517205:Int)+ibits BinOp.and IntKind.u64 x (6148914691236517205:Int))) (3689348814741910323:Int)))) (1085102592571150095:Int)) ((2:Int) ^ (8:Nat)))) ((2:Int) ^ (16:Nat)))+Int.fdiv (IntKind.wrap IntKind.u64 (IntKind.wrap IntKind.u64 (ibits BinOp.and IntKind.u64 (IntKind.wrap IntKind.u64 (Int.fdiv (IntKind.wrap IntKind.u64 (ibits BinOp.and IntKind.u64 (Int.fdiv (IntKind.wrap IntKind.u64 (ibits BinOp.and IntKind.u64 (Int.fdiv x ((2:Int) ^ (1:Nat))) (6148914691236517205:Int)+ibits BinOp.and IntKind.u64 x (6148914691236517205:Int))) ((2:Int) ^ (2:Nat))) (3689348814741910323:Int)+ibits BinOp.and IntKind.u64 (IntKind.wrap IntKind.u64 (ibits BinOp.and IntKind.u64 (Int.fdiv x ((2:Int) ^ (1:Nat))) (6148914691236517205:Int)+ibits BinOp.and IntKind.u64 x (6148914691236517205:Int))) (3689348814741910323:Int))) ((2:Int) ^ (4:Nat))+IntKind.wrap IntKind.u64 (ibits BinOp.and IntKind.u64 (Int.fdiv (IntKind.wrap IntKind.u64 (ibits BinOp.and IntKind.u64 (Int.fdiv x ((2:Int) ^ (1:Nat))) (6148914691236517205:Int)+ibits BinOp.and IntKind.u64 x (6148914691236517205:Int))) ((2:Int) ^ (2:Nat))) (3689348814741910323:Int)+ibits BinOp.and IntKind.u64 (IntKind.wrap IntKind.u64 (ibits BinOp.and IntKind.u64 (Int.fdiv x ((2:Int) ^ (1:Nat))) (6148914691236517205:Int)+ibits BinOp.and IntKind.u64 x (6148914691236517205:Int))) (3689348814741910323:Int)))) (1085102592571150095:Int)+Int.fdiv (ibits BinOp.and IntKind.u64 (IntKind.wrap IntKind.u64 (Int.fdiv (IntKind.wrap IntKind.u64 (ibits BinOp.and IntKind.u64 (Int.fdiv (IntKind.wrap IntKind.u64 (ibits BinOp.and IntKind.u64 (Int.fdiv x ((2:Int) ^ (1:Nat))) (6148914691236517205:Int)+ibits BinOp.and IntKind.u64 x (6148914691236517205:Int))) ((2:Int) ^ (2:Nat))) (3689348814741910323:Int)+ibits BinOp.and IntKind.u64 (IntKind.wrap IntKind.u64 (ibits BinOp.and IntKind.u64 (Int.fdiv x ((2:Int) ^ (1:Nat))) (6148914691236517205:Int)+ibits BinOp.and IntKind.u64 x (6148914691236517205:Int))) (3689348814741910323:Int))) ((2:Int) ^ (4:Nat))+IntKind.wrap IntKind.u64 (ibits BinOp.and IntKind.u64 (Int.fdiv (IntKind.wrap IntKind.u64 (ibits BinOp.and IntKind.u64 (Int.fdiv x ((2:Int) ^ (1:Nat))) (6148914691236517205:Int)+ibits BinOp.and IntKind.u64 x (6148914691236517205:Int))) ((2:Int) ^ (2:Nat))) (3689348814741910323:Int)+ibits BinOp.and IntKind.u64 (IntKind.wrap IntKind.u64 (ibits BinOp.and IntKind.u64 (Int.fdiv x ((2:Int) ^ (1:Nat))) (6148914691236517205:Int)+ibits BinOp.and IntKind.u64 x (6148914691236517205:Int))) (3689348814741910323:Int)))) (1085102592571150095:Int)) ((2:Int) ^ (8:Nat)))+Int.fdiv (IntKind.wrap IntKind.u64 (ibits BinOp.and IntKind.u64 (IntKind.wrap IntKind.u64 (Int.fdiv (IntKind.wrap IntKind.u64 (ibits BinOp.and IntKind.u64 (Int.fdiv (IntKind.wrap IntKind.u64 (ibits BinOp.and IntKind.u64 (Int.fdiv x ((2:Int) ^ (1:Nat))) (6148914691236517205:Int)+ibits BinOp.and IntKind.u64 x (6148914691236517205:Int))) ((2:Int) ^ (2:Nat))) (3689348814741910323:Int)+ibits BinOp.and IntKind.u64 (IntKind.wrap IntKind.u64 (ibits BinOp.and IntKind.u64 (Int.fdiv x ((2:Int) ^ (1:Nat))) (6148914691236517205:Int)+ibits BinOp.and IntKind.u64 x (6148914691236517205:Int))) (3689348814741910323:Int))) ((2:Int) ^ (4:Nat))+IntKind.wrap IntKind.u64 (ibits BinOp.and IntKind.u64 (Int.fdiv (IntKind.wrap IntKind.u64 (ibits BinOp.and IntKind.u64 (Int.fdiv x ((2:Int) ^ (1:Nat))) (6148914691236517205:Int)+ibits BinOp.and IntKind.u64 x (6148914691236517205:Int))) ((2:Int) ^ (2:Nat))) (3689348814741910323:Int)+ibits BinOp.and IntKind.u64 (IntKind.wrap IntKind.u64 (ibits BinOp.and IntKind.u64 (Int.fdiv x ((2:Int) ^ (1:Nat))) (6148914691236517205:Int)+ibits BinOp.and IntKind.u64 x (6148914691236517205:Int))) (3689348814741910323:Int)))) (1085102592571150095:Int)+Int.fdiv (ibits BinOp.and IntKind.u64 (IntKind.wrap IntKind.u64 (Int.fdiv (IntKind.wrap IntKind.u64 (ibits BinOp.and IntKind.u64 (Int.fdiv (IntKind.wrap IntKind.u64 (ibits BinOp.and IntKind.u64 (Int.fdiv x ((2:Int) ^ (1:Nat))) (6148914691236517205:Int)+ibits BinOp.and IntKind.u64 x (6148914691236517205:Int))) ((2:Int) ^ (2:Nat))) (3689348814741910323:Int)+ibits BinOp.and IntKind.u64 (IntKind.wrap IntKind.u64 (ibits BinOp.and IntKind.u64 (Int.fdiv x ((2:Int) ^ (1:Nat))) (6148914691236517205:Int)+ibits BinOp.and IntKind.u64 x (6148914691236517205:Int))) (3689348814741910323:Int))) ((2:Int) ^ (4:Nat))+IntKind.wrap IntKind.u64 (ibits BinOp.and IntKind.u64 (Int.fdiv (IntKind.wrap IntKind.u64 (ibits BinOp.and IntKind.u64 (Int.fdiv x ((2:Int) ^ (1:Nat))) (6148914691236517205:Int)+ibits BinOp.and IntKind.u64 x (6148914691236517205:Int))) ((2:Int) ^ (2:Nat))) (3689348814741910323:Int)+ibits BinOp.and IntKind.u64 (IntKind.wrap IntKind.u64 (ibits BinOp.and IntKind.u64 (Int.fdiv x ((2:Int) ^ (1:Nat))) (6148914691236517205:Int)+ibits BinOp.and IntKind.u64 x (6148914691236517205:Int))) (3689348814741910323:Int)))) (1085102592571150095:Int)) ((2:Int) ^ (8:Nat)))) ((2:Int) ^ (16:Nat)))) ((2:Int) ^ (32:Nat))))) (127:Int))
def Jp.ce:Go.Ql.Callee:=⟨[(.int .u64)],[(.int .i64)],fun x_=>Jp x_⟩
def Jp.G:Env:=⟨35,tab,[],[0,2],[],[],[],[],tab_eqs⟩
theorem Jp.eq (x_:dens Jp.ce.params):den Jp.G Try.f136 Jp.ce.params Jp.ce.res x_=Jp.ce.F x_:=by kernel_rfl
theorem Jp.ok:CalleeOk Try.prog 136 Jp.ce:=fn_ok (G:=Jp.G) tab_ok mixed Try.func136 ⟨fns_nil,mfns_nil,tab_eqs_ok⟩ (m:=0) (by kernel_rfl) trivial (by kernel_rfl) Jp.eq
def Jh (x:Int):Option Int:=
 bnd (W.Jp x) fun y=>
 some y
def Jh.ce:Go.Ql.Callee:=⟨[(.int .u64)],[(.int .i64)],fun x_=>Jh x_⟩
def Jh.G:Env:=⟨8,tab,[(135,jO.ce),(136,Jp.ce)],[0,2],[],[],[],[],tab_eqs⟩
theorem Jh.eq (x_:dens Jh.ce.params):den Jh.G Try.f118 Jh.ce.params Jh.ce.res x_=Jh.ce.F x_:=by kernel_rfl
theorem Jh.ok:CalleeOk Try.prog 118 Jh.ce:=fn_ok (G:=Jh.G) tab_ok mixed Try.func118 ⟨(fns_cons jO.ok (fns_cons Jp.ok fns_nil)),mfns_nil,tab_eqs_ok⟩ (m:=0) (by kernel_rfl) trivial (by kernel_rfl) Jh.eq
abbrev tb11:SD:=.one (.val (.st (.pair (.int .u64) (.pair (.int .u64) .bool))))
abbrev tb12:SD:=.one (.ref 3 0)
def jx.c1 {ρ:Type} (p0:Int) (p1:Int) (o0:Int) (o1:Int) (k_:Bool→Option ρ):Option ρ:=
 bnd (W.Jh (ibits BinOp.and IntKind.u64 p0 o1)) fun y=>
 bnd (W.Jh (ibits BinOp.and IntKind.u64 p1 o0)) fun y_1=>
 k_ (ibits BinOp.and IntKind.i64 y (1:Int) != ibits BinOp.and IntKind.i64 y_1 (1:Int))
def jx.c1s:Shape:=⟨[(0,tb11),(1,tb11),(2,tb2),(3,tb12),(4,tb7)],[(2,tb9),(3,tb9)]⟩
def jx.c1x0:Shape:=jx.c1s
def jx.c1r:Ck:=Ck.of (T:=Bool) jx.c1s (fun ρ x_ k_=>jx.c1 x_.2.2.2.1 x_.2.2.2.2.1 x_.2.2.2.2.2.2.1 x_.2.2.2.2.2.2.2.1 k_) (fun ρ x_ r_ k_=>k_ 0 (Shape.inj jx.c1x0 (x_.1,x_.2.1,r_,x_.2.2.2)))
def jx (p:Int×(Int×(Bool))) (o:Int×(Int×(Bool))):Option (Bool):=
 bnd (W.jx.c1 p.1 p.2.1 o.1 o.2.1 some) fun y=>
 some y
def jx.ce:Go.Ql.Callee:=⟨[(.st (.pair (.int .u64) (.pair (.int .u64) .bool))),(.st (.pair (.int .u64) (.pair (.int .u64) .bool)))],[.bool],fun x_=>jx x_.1 x_.2⟩
def jx.G:Env:=⟨20,tab,[(118,Jh.ce)],[0,1,2,3,4],[],[(1,[⟨[],[],[7,8,12,13,14,15,16],[]⟩,⟨[0],[],[7,8,12,13,14,15,16],[]⟩,⟨[],[],[5,6,12,13,14,15,16],[]⟩,⟨[2],[],[5,6,12,13,14,15,16],[]⟩,⟨[1,0,3,2],[],[12,13,14,15,16],[]⟩,⟨[4,1,0,3,2],[],[12,13,14,15,16],[]⟩,⟨[5,4,1,0,3,2],[],[12,13,14,15,16,17,18],[]⟩,⟨[],[],[5,6,7,8,9,10,11,14,15],[]⟩,⟨[7],[],[5,6,7,8,9,10,11,14,15],[]⟩,⟨[],[],[5,6,7,8,9,10,11,12,13],[]⟩,⟨[9],[],[5,6,7,8,9,10,11,12,13],[]⟩,⟨[8,7,10,9],[],[5,6,7,8,9,10,11],[]⟩,⟨[11,8,7,10,9,5,4,1,0,3,2],[],[11],[]⟩,⟨[12,11,8,7,10,9,5,4,1,0,3,2],[],[11],[]⟩,⟨[6,5,4,1,0,3,2,13,12,11,8,7,10,9],[],[],[]⟩,⟨[14,6,5,4,1,0,3,2,13,12,11,8,7,10,9],[],[],[]⟩])],[(1,jx.c1r)],[],tab_eqs⟩
theorem jx.eq (x_:dens jx.ce.params):den jx.G Try.f85 jx.ce.params jx.ce.res x_=jx.ce.F x_:=by kernel_rfl
theorem jx.p0:PcA jx.G Try.f85 0:=
 region_ok (s:=jx.c1r) (by kernel_rfl) (by kernel_rfl) (sums_of (sh:=jx.c1s) (fun ρ x_ k_=>(nat_bnd fun _=>(nat_bnd fun _=>nat_leaf))) (fun ρ x_ t k=>(by kernel_rfl)) (fun x_=>by kernel_rfl))
theorem jx.ok:CalleeOk Try.prog 85 jx.ce:=fn_ok (G:=jx.G) tab_ok mixed Try.func85 ⟨(fns_cons Jh.ok fns_nil),mfns_nil,tab_eqs_ok⟩ (m:=1) (by kernel_rfl) ⟨trivial,jx.p0⟩ (by kernel_rfl) jx.eq
abbrev tb13:SD:=.one (.val (.int .u64))
abbrev tb14:SD:=.one (.own 2000000 0)
abbrev tb17:SD:=.one (.val (.sl (.st (.pair (.int .u64) (.pair (.int .u64) .bool)))))
abbrev tb19:SO:=.box [.val (.int .i64),.val (.int .i64)]
abbrev tb20:SD:=.one (.own 5 0)
abbrev tb21:SD:=.one (.val (.sl .str))
abbrev tb22:SO:=.arr 0 false 80 (.st (.pair (.int .u64) (.pair (.int .u64) .bool)))
abbrev tb23:SD:=.one (.ref 11 0)
abbrev tb25:SD:=.one (.val (.st (.pair (.int .i64) (.pair (.int .i64) (.pair (.sl (.int .i64)) (.pair (.int .i64) (.pair (.int .i64) (.sl (.int .i64)))))))))
abbrev tb26:SO:=.box [.val (.int .i64),.val (.int .i64),.val (.sl (.int .i64)),.val (.int .i64),.val (.int .i64),.val (.sl (.int .i64))]
abbrev tb27:SD:=.one (.ref 8 0)
def ja.self.pre:Shape:=⟨[(0,tb11),(1,tb25)],[]⟩
def ja.self.post:Shape:=⟨[(0,tb11)],[]⟩
class ja.Self where
 F:densU ja.self.pre.tys→Option (densU ja.self.post.tys)
 ok:MOk Try.prog 57 ⟨57,ja.self.pre,ja.self.post,F⟩
section
variable [ja.Self]
def ja.self (x_:densU ja.self.pre.tys):Option (densU ja.self.post.tys):=ja.Self.F x_
def ja.self.mc:MCallee:=⟨57,ja.self.pre,ja.self.post,fun x_=>ja.self x_⟩
theorem ja.self.ok:MOk Try.prog 57 ja.self.mc:=ja.Self.ok
def ja.pre:Shape:=⟨[(0,tb11),(1,tb25)],[]⟩
def ja.post:Shape:=⟨[(0,tb11)],[]⟩
def ja.c2 {ρ:Type} (q:Int) (k_:Unit→Option ρ):Option ρ:=
 bnd (okIf (decide ((0:Int)≤q))) fun y=>
 bnd (okIf (decide ((0:Int)≤q))) fun y_1=>
 k_ ()
def ja.c2s:Shape:=⟨[(0,tb11),(1,tb25),(2,tb2),(3,tb12),(4,tb6),(5,tb13)],[(2,tb9),(3,tb26),(4,tb9)]⟩
def ja.c2x0:Shape:=⟨[(0,tb11),(1,tb25),(2,tb2),(3,tb12),(4,tb6),(5,tb13),(6,tb13),(7,tb13)],[(2,tb9),(3,tb26),(4,tb9)]⟩
def ja.c2r:Ck:=Ck.of (T:=Unit) ja.c2s (fun ρ x_ k_=>ja.c2 x_.2.2.1 k_) (fun ρ x_ r_ k_=>k_ 0 (Shape.inj ja.c2x0 (x_.1,x_.2.1,x_.2.2.1,(ibits BinOp.and IntKind.u64 (Int.fdiv x_.2.2.2.1 ((2:Int) ^ Min.min (Int.toNat x_.2.2.1) (64:Nat))) (1:Int)),(ibits BinOp.and IntKind.u64 (Int.fdiv x_.2.2.2.2.1 ((2:Int) ^ Min.min (Int.toNat x_.2.2.1) (64:Nat))) (1:Int)),x_.2.2.2)))
def ja.c216391 {ρ:Type} (q:Int) (x:Int) (z:Int) (p0:Int) (p1:Int) (k_:Int×Int→Option ρ):Option ρ:=
 br (x != z)
 (bnd (okIf (decide ((0:Int)≤q))) fun y=>
 bnd (okIf (decide ((0:Int)≤q))) fun y_1=>
 k_ ((ibits BinOp.xor IntKind.u64 p0 (IntKind.wrap IntKind.u64 ((1:Int)*(2:Int) ^ Min.min (Int.toNat q) (64:Nat)))),(ibits BinOp.xor IntKind.u64 p1 (IntKind.wrap IntKind.u64 ((1:Int)*(2:Int) ^ Min.min (Int.toNat q) (64:Nat))))))
 (k_ (p0,p1))
def ja.c216391s:Shape:=ja.c2x0
def ja.c216391x0:Shape:=ja.c2x0
def ja.c216391r:Ck:=Ck.of (T:=Int×Int) ja.c216391s (fun ρ x_ k_=>ja.c216391 x_.2.2.1 x_.2.2.2.1 x_.2.2.2.2.1 x_.2.2.2.2.2.1 x_.2.2.2.2.2.2.1 k_) (fun ρ x_ r_ k_=>k_ 0 (Shape.inj ja.c216391x0 (x_.1,x_.2.1,x_.2.2.1,x_.2.2.2.1,x_.2.2.2.2.1,r_.1,r_.2,x_.2.2.2.2.2.2.2)))
def ja.c8 {ρ:Type} (o0:Int) (o2:List Int) (k_:Bool→Option ρ):Option ρ:=
 br (o0 == (4:Int))
 (k_ ((↑(List.length o2):Int) == (0:Int)))
 (k_ false)
def ja.c8s:Shape:=ja.c2x0
def ja.c8x0:Shape:=⟨[(0,tb11),(1,tb25),(2,tb2),(3,tb12),(4,tb6),(5,tb13),(6,tb13),(7,tb13),(52,tb7)],[(2,tb9),(3,tb26),(4,tb9)]⟩
def ja.c8r:Ck:=Ck.of (T:=Bool) ja.c8s (fun ρ x_ k_=>ja.c8 x_.2.2.2.2.2.2.2.2.1 x_.2.2.2.2.2.2.2.2.2.2.1 k_) (fun ρ x_ r_ k_=>k_ 0 (Shape.inj ja.c8x0 (x_.1,x_.2.1,x_.2.2.1,x_.2.2.2.1,x_.2.2.2.2.1,r_,x_.2.2.2.2.2)))
def ja.c11 {ρ:Type} (q:Int) (k_:Unit→Option ρ):Option ρ:=
 bnd (okIf (decide ((0:Int)≤q))) fun y=>
 bnd (okIf (decide ((0:Int)≤q))) fun y_1=>
 k_ ()
def ja.c11s:Shape:=⟨[(0,tb11),(1,tb25),(2,tb2),(3,tb12),(4,tb6),(5,tb13),(6,tb13),(7,tb13),(64,tb5),(65,tb5)],[(2,tb9),(3,tb26),(4,tb9)]⟩
def ja.c11x0:Shape:=ja.c11s
def ja.c11r:Ck:=Ck.of (T:=Unit) ja.c11s (fun ρ x_ k_=>ja.c11 x_.2.2.1 k_) (fun ρ x_ r_ k_=>k_ 0 (Shape.inj ja.c11x0 (x_.1,x_.2.1,x_.2.2.1,(ibits BinOp.and IntKind.u64 (Int.fdiv x_.2.2.2.2.2.2.2.1 ((2:Int) ^ Min.min (Int.toNat x_.2.2.1) (64:Nat))) (1:Int)),(ibits BinOp.and IntKind.u64 (Int.fdiv x_.2.2.2.2.2.2.2.2.1 ((2:Int) ^ Min.min (Int.toNat x_.2.2.1) (64:Nat))) (1:Int)),x_.2.2.2.2.2)))
def ja.c100010 {ρ:Type} (q:Int) (x:Int) (z:Int) (t64:Int) (t65:Int) (p0:Int) (p1:Int) (p2:Bool) (k_:(Int×Int×Int×Int×(Bool))⊕(Int×Int×Int×Int×(Bool))→Option ρ):Option ρ:=
 br (decide (t65 < t64))
 (bnd (W.ja.c11 q some) fun y=>
 bnd (okIf (decide ((0:Int)≤q))) fun y_1=>
 k_ (.inl ((ibits BinOp.and IntKind.u64 (Int.fdiv p0 ((2:Int) ^ Min.min (Int.toNat q) (64:Nat))) (1:Int)),(ibits BinOp.and IntKind.u64 (Int.fdiv p1 ((2:Int) ^ Min.min (Int.toNat q) (64:Nat))) (1:Int)),(IntKind.wrap IntKind.i64 (t65+(1:Int))),(ibits BinOp.xor IntKind.u64 p1 (IntKind.wrap IntKind.u64 (ibits BinOp.and IntKind.u64 (Int.fdiv p0 ((2:Int) ^ Min.min (Int.toNat q) (64:Nat))) (1:Int)*(2:Int) ^ Min.min (Int.toNat q) (64:Nat)))),(!p2 == (ibits BinOp.and IntKind.u64 (ibits BinOp.and IntKind.u64 (Int.fdiv p0 ((2:Int) ^ Min.min (Int.toNat q) (64:Nat))) (1:Int)) (ibits BinOp.and IntKind.u64 (Int.fdiv p1 ((2:Int) ^ Min.min (Int.toNat q) (64:Nat))) (1:Int)) == (1:Int))))))
 (k_ (.inr (x,z,t65,p1,p2)))
def ja.c100010s:Shape:=ja.c11s
def ja.c100010x0:Shape:=ja.c11s
def ja.c100010r:Ck:=Ck.ofLoop (S:=Int×Int×Int×Int×(Bool)) (T:=Int×Int×Int×Int×(Bool)) ja.c100010s (fun x_=>(x_.2.2.2.1,x_.2.2.2.2.1,x_.2.2.2.2.2.2.1,x_.2.2.2.2.2.2.2.2.1,x_.2.2.2.2.2.2.2.2.2.1)) (fun ρ x_ s_ k_=>ja.c100010 x_.2.2.1 s_.1 s_.2.1 x_.2.2.2.2.2.1 s_.2.2.1 x_.2.2.2.2.2.2.2.1 s_.2.2.2.1 s_.2.2.2.2 k_) (fun ρ x_ r_ k_=>k_ 3 (Shape.inj ja.c100010x0 (x_.1,x_.2.1,x_.2.2.1,r_.1,r_.2.1,x_.2.2.2.2.2.1,r_.2.2.1,x_.2.2.2.2.2.2.2.1,r_.2.2.2.1,r_.2.2.2.2,x_.2.2.2.2.2.2.2.2.2.2)))
def ja.c15 {ρ:Type} (o0:Int) (o1:Int) (k_:Bool→Option ρ):Option ρ:=
 br (o0 == (4:Int))
 (k_ (o1 == (8:Int)))
 (k_ false)
def ja.c15s:Shape:=ja.c2x0
def ja.c15x0:Shape:=⟨[(0,tb11),(1,tb25),(2,tb2),(3,tb12),(4,tb6),(5,tb13),(6,tb13),(7,tb13),(93,tb7)],[(2,tb9),(3,tb26),(4,tb9)]⟩
def ja.c15r:Ck:=Ck.of (T:=Bool) ja.c15s (fun ρ x_ k_=>ja.c15 x_.2.2.2.2.2.2.2.2.1 x_.2.2.2.2.2.2.2.2.2.1 k_) (fun ρ x_ r_ k_=>k_ 0 (Shape.inj ja.c15x0 (x_.1,x_.2.1,x_.2.2.1,x_.2.2.2.1,x_.2.2.2.2.1,r_,x_.2.2.2.2.2)))
def ja.c17 {ρ:Type} (p0:Int) (p1:Int) (p2:Bool) (o2:List Int) (o3:Int) (h0:Int) (h1:Int) (h2:List Int) (h3:Int) (h4:Int) (h5:List Int) (k_:Int×Int×(Bool)→Option ρ):Option ρ:=
 bnd (W.ja.self ((p0,p1,p2),(h0,h1,h2,h3,h4,h5),())) fun y=>
 bnd (W.ja.self (y.1,((2:Int),(0:Int),o2,o3,(0:Int),[]),())) fun y_1=>
 bnd (W.ja.self (y_1.1,(h0,h1,h2,h3,h4,h5),())) fun y_2=>
 k_ (y_2.1.1,y_2.1.2.1,y_2.1.2.2)
def ja.c17s:Shape:=⟨[(0,tb11),(1,tb25),(2,tb2),(3,tb12),(4,tb6),(5,tb13),(6,tb13),(7,tb13),(8,tb27)],[(2,tb9),(3,tb26),(4,tb9),(8,tb26)]⟩
def ja.c17x0:Shape:=ja.c17s
def ja.c17r:Ck:=Ck.of (T:=Int×Int×(Bool)) ja.c17s (fun ρ x_ k_=>ja.c17 x_.2.2.2.2.2.1 x_.2.2.2.2.2.2.1 x_.2.2.2.2.2.2.2.1 x_.2.2.2.2.2.2.2.2.2.2.1 x_.2.2.2.2.2.2.2.2.2.2.2.1 x_.2.2.2.2.2.2.2.2.2.2.2.2.2.2.2.2.2.1 x_.2.2.2.2.2.2.2.2.2.2.2.2.2.2.2.2.2.2.1 x_.2.2.2.2.2.2.2.2.2.2.2.2.2.2.2.2.2.2.2.1 x_.2.2.2.2.2.2.2.2.2.2.2.2.2.2.2.2.2.2.2.2.1 x_.2.2.2.2.2.2.2.2.2.2.2.2.2.2.2.2.2.2.2.2.2.1 x_.2.2.2.2.2.2.2.2.2.2.2.2.2.2.2.2.2.2.2.2.2.2.1 k_) (fun ρ x_ r_ k_=>k_ 0 (Shape.inj ja.c17x0 (x_.1,x_.2.1,x_.2.2.1,x_.2.2.2.1,x_.2.2.2.2.1,r_.1,r_.2.1,r_.2.2,x_.2.2.2.2.2.2.2.2)))
def ja.c18 {ρ:Type} (o0:Int) (o2:List Int) (k_:Bool→Option ρ):Option ρ:=
 br (o0 == (2:Int))
 (k_ ((↑(List.length o2):Int) == (0:Int)))
 (k_ false)
def ja.c18s:Shape:=ja.c2x0
def ja.c18x0:Shape:=⟨[(0,tb11),(1,tb25),(2,tb2),(3,tb12),(4,tb6),(5,tb13),(6,tb13),(7,tb13),(116,tb7)],[(2,tb9),(3,tb26),(4,tb9)]⟩
def ja.c18r:Ck:=Ck.of (T:=Bool) ja.c18s (fun ρ x_ k_=>ja.c18 x_.2.2.2.2.2.2.2.2.1 x_.2.2.2.2.2.2.2.2.2.2.1 k_) (fun ρ x_ r_ k_=>k_ 0 (Shape.inj ja.c18x0 (x_.1,x_.2.1,x_.2.2.1,x_.2.2.2.1,x_.2.2.2.2.1,r_,x_.2.2.2.2.2)))
def ja.c22 {ρ:Type} (c:Int) (k_:Unit→Option ρ):Option ρ:=
 bnd (okIf (decide ((0:Int)≤c))) fun y=>
 bnd (okIf (decide ((0:Int)≤c))) fun y_1=>
 k_ ()
def ja.c22s:Shape:=⟨[(0,tb11),(1,tb25),(2,tb2),(3,tb12),(4,tb6),(5,tb13),(6,tb13),(7,tb13),(9,tb13)],[(2,tb9),(3,tb26),(4,tb9)]⟩
def ja.c22x0:Shape:=⟨[(0,tb11),(1,tb25),(2,tb2),(3,tb12),(4,tb6),(5,tb13),(6,tb13),(7,tb13),(9,tb13),(10,tb13),(11,tb13)],[(2,tb9),(3,tb26),(4,tb9)]⟩
def ja.c22r:Ck:=Ck.of (T:=Unit) ja.c22s (fun ρ x_ k_=>ja.c22 x_.2.2.2.2.2.1 k_) (fun ρ x_ r_ k_=>k_ 0 (Shape.inj ja.c22x0 (x_.1,x_.2.1,x_.2.2.1,x_.2.2.2.1,x_.2.2.2.2.1,x_.2.2.2.2.2.1,(ibits BinOp.and IntKind.u64 (Int.fdiv x_.2.2.2.2.2.2.1 ((2:Int) ^ Min.min (Int.toNat x_.2.2.2.2.2.1) (64:Nat))) (1:Int)),(ibits BinOp.and IntKind.u64 (Int.fdiv x_.2.2.2.2.2.2.2.1 ((2:Int) ^ Min.min (Int.toNat x_.2.2.2.2.2.1) (64:Nat))) (1:Int)),x_.2.2.2.2.2.2)))
def ja.c23 {ρ:Type} (x:Int) (z:Int) (cx:Int) (cz:Int) (p2:Bool) (k_:Bool→Option ρ):Option ρ:=
 br (ibits BinOp.and IntKind.u64 cx z == (1:Int))
 (k_ (!p2 == (x == cz)))
 (k_ (!p2 == false))
def ja.c23s:Shape:=ja.c22x0
def ja.c23x0:Shape:=ja.c22x0
def ja.c23r:Ck:=Ck.of (T:=Bool) ja.c23s (fun ρ x_ k_=>ja.c23 x_.2.2.2.1 x_.2.2.2.2.1 x_.2.2.2.2.2.2.1 x_.2.2.2.2.2.2.2.1 x_.2.2.2.2.2.2.2.2.2.2.1 k_) (fun ρ x_ r_ k_=>k_ 0 (Shape.inj ja.c23x0 (x_.1,x_.2.1,x_.2.2.1,x_.2.2.2.1,x_.2.2.2.2.1,x_.2.2.2.2.2.1,x_.2.2.2.2.2.2.1,x_.2.2.2.2.2.2.2.1,x_.2.2.2.2.2.2.2.2.1,x_.2.2.2.2.2.2.2.2.2.1,r_,x_.2.2.2.2.2.2.2.2.2.2.2)))
def ja.c212345 {ρ:Type} (q:Int) (x:Int) (z:Int) (p0:Int) (p1:Int) (p2:Bool) (o0:Int) (o1:Int) (o2:List Int) (o3:Int) (k_:Int×Int×Int×Int×(Bool)→Option ρ):Option ρ:=
 br (o0 == (3:Int))
 (bnd (W.ja.c216391 q x z p0 p1 some) fun y=>
 k_ (x,z,y.1,y.2,(!p2 == (ibits BinOp.and IntKind.u64 x z == (1:Int)))))
 (bnd (W.ja.c8 o0 o2 some) fun y_1=>
 br y_1
 (bnd (iter (fun s↦W.ja.c100010 q s.1 s.2.1 (IntKind.wrap IntKind.i64 (Int.tdiv o1 (4:Int))) s.2.2.1 p0 s.2.2.2.1 s.2.2.2.2 some) (x,z,(0:Int),p1,p2)) fun y_2=>
 k_ (y_2.1,y_2.2.1,p0,y_2.2.2.2.1,y_2.2.2.2.2))
 (bnd (W.ja.c15 o0 o1 some) fun y_3=>
 br y_3
 (bnd (W.ja.c17 p0 p1 p2 o2 o3 (3:Int) (0:Int) [] o3 (0:Int) [] some) fun y_4=>
 k_ (x,z,y_4.1,y_4.2.1,y_4.2.2))
 (bnd (W.ja.c18 o0 o2 some) fun y_5=>
 br y_5
 (k_ (x,z,p0,p1,(!p2 == (z == (1:Int)))))
 (br (o0 == (2:Int))
 (bnd (idx o2 (0:Int)) fun y_6=>
 bnd (W.ja.c22 (IntKind.wrap IntKind.u64 y_6) some) fun y_7=>
 bnd (W.ja.c23 x z (ibits BinOp.and IntKind.u64 (Int.fdiv p0 ((2:Int) ^ Min.min (Int.toNat (IntKind.wrap IntKind.u64 y_6)) (64:Nat))) (1:Int)) (ibits BinOp.and IntKind.u64 (Int.fdiv p1 ((2:Int) ^ Min.min (Int.toNat (IntKind.wrap IntKind.u64 y_6)) (64:Nat))) (1:Int)) p2 some) fun y_8=>
 bnd (okIf (decide ((0:Int)≤q))) fun y_9=>
 bnd (okIf (decide ((0:Int)≤IntKind.wrap IntKind.u64 y_6))) fun y_10=>
 k_ (x,z,(ibits BinOp.xor IntKind.u64 p0 (IntKind.wrap IntKind.u64 (ibits BinOp.and IntKind.u64 (Int.fdiv p0 ((2:Int) ^ Min.min (Int.toNat (IntKind.wrap IntKind.u64 y_6)) (64:Nat))) (1:Int)*(2:Int) ^ Min.min (Int.toNat q) (64:Nat)))),(ibits BinOp.xor IntKind.u64 p1 (IntKind.wrap IntKind.u64 (z*(2:Int) ^ Min.min (Int.toNat (IntKind.wrap IntKind.u64 y_6)) (64:Nat)))),y_8))
 (k_ (x,z,p0,p1,p2))))))
def ja.c212345s:Shape:=ja.c2x0
def ja.c212345x0:Shape:=ja.c2x0
def ja.c212345r:Ck:=Ck.of (T:=Int×Int×Int×Int×(Bool)) ja.c212345s (fun ρ x_ k_=>ja.c212345 x_.2.2.1 x_.2.2.2.1 x_.2.2.2.2.1 x_.2.2.2.2.2.1 x_.2.2.2.2.2.2.1 x_.2.2.2.2.2.2.2.1 x_.2.2.2.2.2.2.2.2.1 x_.2.2.2.2.2.2.2.2.2.1 x_.2.2.2.2.2.2.2.2.2.2.1 x_.2.2.2.2.2.2.2.2.2.2.2.1 k_) (fun ρ x_ r_ k_=>k_ 0 (Shape.inj ja.c212345x0 (x_.1,x_.2.1,x_.2.2.1,r_.1,r_.2.1,r_.2.2.1,r_.2.2.2.1,r_.2.2.2.2,x_.2.2.2.2.2.2.2.2)))
def ja (p:Int×(Int×(Bool))) (o:Int×(Int×((List Int)×(Int×(Int×(List Int)))))):Option ((Int×(Int×(Bool)))×Unit):=
 bnd (W.ja.c2 (IntKind.wrap IntKind.u64 o.2.2.2.1) some) fun y=>
 bnd (W.ja.c212345 (IntKind.wrap IntKind.u64 o.2.2.2.1) (ibits BinOp.and IntKind.u64 (Int.fdiv p.1 ((2:Int) ^ Min.min (Int.toNat (IntKind.wrap IntKind.u64 o.2.2.2.1)) (64:Nat))) (1:Int)) (ibits BinOp.and IntKind.u64 (Int.fdiv p.2.1 ((2:Int) ^ Min.min (Int.toNat (IntKind.wrap IntKind.u64 o.2.2.2.1)) (64:Nat))) (1:Int)) p.1 p.2.1 p.2.2 o.1 o.2.1 o.2.2.1 o.2.2.2.1 some) fun y_1=>
 some ((y_1.2.2.1,y_1.2.2.2.1,y_1.2.2.2.2),())
def ja.mc:MCallee:=⟨57,ja.pre,ja.post,fun x_=>ja x_.1 x_.2.1⟩
def ja.G:Env:=⟨179,tab,[],[0,1,2,3,4,5,6,7,8,9,10,11,25,31,52,64,65,66,93,116,132],[],[(22,[⟨[],[],[143,146,147,148,149,150],[]⟩,⟨[0],[],[143,146,147,148,149,150],[]⟩,⟨[],[],[141,142,146,147,148,149,150],[]⟩,⟨[1,0,2],[],[146,147,148,149,150],[]⟩,⟨[3,1,0,2],[],[146,147,148,149,150],[]⟩,⟨[],[],[141,142,143,144,145,148,10],[]⟩,⟨[5],[],[141,142,143,144,145,148,10],[]⟩,⟨[],[],[141,142,143,144,145,146,147,10],[]⟩,⟨[6,5,7],[],[141,142,143,144,145,10],[]⟩,⟨[8,6,5,7],[],[141,142,143,144,145,10],[]⟩,⟨[4,3,1,0,2],[],[146,147,148,149,150],[]⟩,⟨[9,8,6,5,7,10,4,3,1,0,2],[],[],[]⟩]),
 (17,[⟨[],[],[106,108,109,110,111,112,114],[]⟩,⟨[],[],[105,108,109,110,111,112,114],[]⟩,⟨[0,1],[],[108,109,110,111,112,114],[]⟩,⟨[],[],[105,106,107,110,111,114],[]⟩,⟨[3],[],[105,106,107,110,111,114],[]⟩,⟨[],[],[105,106,107,108,109,114],[]⟩,⟨[5],[],[105,106,107,108,109,114],[]⟩,⟨[4,3,6,5],[],[105,106,107,114],[]⟩,⟨[2,0,1,7,4,3,6,5],[],[114],[]⟩,⟨[],[],[105,106,107,108,109,110,111,112,113],[]⟩,⟨[8,2,0,1,7,4,3,6,5,9],[],[],[]⟩,⟨[10,8,2,0,1,7,4,3,6,5,9],[2],[],[]⟩]),
 (11,[⟨[],[],[69,72,73,74,75,76],[]⟩,⟨[0],[],[69,72,73,74,75,76],[]⟩,⟨[],[],[67,68,72,73,74,75,76],[]⟩,⟨[1,0,2],[],[72,73,74,75,76],[]⟩,⟨[3,1,0,2],[],[72,73,74,75,76],[]⟩,⟨[],[],[67,68,69,70,71,74,6],[]⟩,⟨[5],[],[67,68,69,70,71,74,6],[]⟩,⟨[],[],[67,68,69,70,71,72,73,6],[]⟩,⟨[6,5,7],[],[67,68,69,70,71,6],[]⟩,⟨[8,6,5,7],[],[67,68,69,70,71,6],[]⟩,⟨[4,3,1,0,2],[],[72,73,74,75,76],[]⟩,⟨[9,8,6,5,7,10,4,3,1,0,2],[],[],[]⟩]),
 (2,[⟨[],[],[17,20,21,22,23,24],[]⟩,⟨[0],[],[17,20,21,22,23,24],[]⟩,⟨[],[],[15,16,20,21,22,23,24],[]⟩,⟨[1,0,2],[],[20,21,22,23,24],[]⟩,⟨[3,1,0,2],[],[20,21,22,23,24],[]⟩,⟨[],[],[15,16,17,18,19,22,6],[]⟩,⟨[5],[],[15,16,17,18,19,22,6],[]⟩,⟨[],[],[15,16,17,18,19,20,21,6],[]⟩,⟨[6,5,7],[],[15,16,17,18,19,6],[]⟩,⟨[8,6,5,7],[],[15,16,17,18,19,6],[]⟩,⟨[4,3,1,0,2],[],[20,21,22,23,24],[]⟩,⟨[9,8,6,5,7,10,4,3,1,0,2],[],[],[]⟩])],[(212345,ja.c212345r),(23,ja.c23r),(22,ja.c22r),(18,ja.c18r),(17,ja.c17r),(15,ja.c15r),(100010,ja.c100010r),(11,ja.c11r),(8,ja.c8r),(216391,ja.c216391r),(2,ja.c2r)],[(57,ja.self.mc)],tab_eqs⟩
theorem ja.eq (x_:densU ja.mc.pre.tys):denM ja.G Try.f57 ja.mc.pre ja.mc.post x_=ja.mc.F x_:=by kernel_rfl
theorem ja.p0:PcA ja.G Try.f57 0:=
 region_ok (s:=ja.c2r) (by kernel_rfl) (by kernel_rfl) (sums_of (sh:=ja.c2s) (fun ρ x_ k_=>(nat_bnd fun _=>(nat_bnd fun _=>nat_leaf))) (fun ρ x_ t k=>(by kernel_rfl)) (fun x_=>by kernel_rfl))
theorem ja.p1:PcA ja.G Try.f57 1:=
 join_ok (s:=ja.c212345r) (by kernel_rfl) (by kernel_rfl) (sums_of (sh:=ja.c212345s) (fun ρ x_ k_=>(nat_br (nat_bnd fun _=>nat_leaf) (nat_bnd fun _=>(nat_br (nat_bnd fun _=>nat_leaf) (nat_bnd fun _=>(nat_br (nat_bnd fun _=>nat_leaf) (nat_bnd fun _=>(nat_br nat_leaf (nat_br (nat_bnd fun _=>(nat_bnd fun _=>(nat_bnd fun _=>(nat_bnd fun _=>(nat_bnd fun _=>nat_leaf))))) nat_leaf))))))))) (fun ρ x_ t k=>(by kernel_rfl)) (fun x_=>by kernel_rfl))
theorem ja.p2:PcA ja.G Try.f57 2:=
 join_ok (s:=ja.c216391r) (by kernel_rfl) (by kernel_rfl) (sums_of (sh:=ja.c216391s) (fun ρ x_ k_=>(nat_br (nat_bnd fun _=>(nat_bnd fun _=>nat_leaf)) nat_leaf)) (fun ρ x_ t k=>(by kernel_rfl)) (fun x_=>by kernel_rfl))
theorem ja.p3:PcA ja.G Try.f57 3:=
 region_ok (s:=ja.c8r) (by kernel_rfl) (by kernel_rfl) (sums_of (sh:=ja.c8s) (fun ρ x_ k_=>(nat_br nat_leaf nat_leaf)) (fun ρ x_ t k=>(by kernel_rfl)) (fun x_=>by kernel_rfl))
theorem ja.p4:PcA ja.G Try.f57 4:=
 loop_ok (s:=ja.c100010r) (by kernel_rfl) (by kernel_rfl) (loops_of (sh:=ja.c100010s) (I:=fun x_ s_=>(x_.1,x_.2.1,x_.2.2.1,s_.1,s_.2.1,x_.2.2.2.2.2.1,s_.2.2.1,x_.2.2.2.2.2.2.2.1,s_.2.2.2.1,s_.2.2.2.2,x_.2.2.2.2.2.2.2.2.2.2)) (fun x_=>rfl) (fun ρ x_ s_ k_=>(nat_br (nat_bnd fun _=>(nat_bnd fun _=>nat_leaf)) nat_leaf)) (fun ρ x_ t k=>(by kernel_rfl)) (fun x_ s=>by kernel_rfl))
theorem ja.p5:PcA ja.G Try.f57 5:=
 region_ok (s:=ja.c11r) (by kernel_rfl) (by kernel_rfl) (sums_of (sh:=ja.c11s) (fun ρ x_ k_=>(nat_bnd fun _=>(nat_bnd fun _=>nat_leaf))) (fun ρ x_ t k=>(by kernel_rfl)) (fun x_=>by kernel_rfl))
theorem ja.p6:PcA ja.G Try.f57 6:=
 region_ok (s:=ja.c15r) (by kernel_rfl) (by kernel_rfl) (sums_of (sh:=ja.c15s) (fun ρ x_ k_=>(nat_br nat_leaf nat_leaf)) (fun ρ x_ t k=>(by kernel_rfl)) (fun x_=>by kernel_rfl))
theorem ja.p7:PcA ja.G Try.f57 7:=
 region_ok (s:=ja.c17r) (by kernel_rfl) (by kernel_rfl) (sums_of (sh:=ja.c17s) (fun ρ x_ k_=>(nat_bnd fun _=>(nat_bnd fun _=>(nat_bnd fun _=>nat_leaf)))) (fun ρ x_ t k=>(by kernel_rfl)) (fun x_=>by kernel_rfl))
theorem ja.p8:PcA ja.G Try.f57 8:=
 region_ok (s:=ja.c18r) (by kernel_rfl) (by kernel_rfl) (sums_of (sh:=ja.c18s) (fun ρ x_ k_=>(nat_br nat_leaf nat_leaf)) (fun ρ x_ t k=>(by kernel_rfl)) (fun x_=>by kernel_rfl))
theorem ja.p9:PcA ja.G Try.f57 9:=
 region_ok (s:=ja.c22r) (by kernel_rfl) (by kernel_rfl) (sums_of (sh:=ja.c22s) (fun ρ x_ k_=>(nat_bnd fun _=>(nat_bnd fun _=>nat_leaf))) (fun ρ x_ t k=>(by kernel_rfl)) (fun x_=>by kernel_rfl))
theorem ja.p10:PcA ja.G Try.f57 10:=
 region_ok (s:=ja.c23r) (by kernel_rfl) (by kernel_rfl) (sums_of (sh:=ja.c23s) (fun ρ x_ k_=>(nat_br nat_leaf nat_leaf)) (fun ρ x_ t k=>(by kernel_rfl)) (fun x_=>by kernel_rfl))
theorem ja.ok:MOk Try.prog 57 ja.mc:=fnm_ok (G:=ja.G) tab_ok mixed Try.func57 ⟨fns_nil,(mfns_cons ja.self.ok mfns_nil),tab_eqs_ok⟩ (m:=11) (by kernel_rfl) ⟨⟨⟨⟨⟨⟨⟨⟨⟨⟨⟨trivial,ja.p0⟩,ja.p1⟩,ja.p2⟩,ja.p3⟩,ja.p4⟩,ja.p5⟩,ja.p6⟩,ja.p7⟩,ja.p8⟩,ja.p9⟩,ja.p10⟩ (by kernel_rfl) ja.eq
end
@[reducible] def ja.fuel:Nat→ja.Self
 | 0=>⟨fun _=>none,⟨⟨Try.f57,Try.func57,by kernel_rfl,by kernel_rfl⟩,fun _ _ _ _ _ _ _ hy=>by cases hy⟩⟩
 | n+1=>⟨fun x_=>(@ja.mc (ja.fuel n)).F x_,@ja.ok (ja.fuel n)⟩
def Js (x_:densU ja.self.pre.tys):Option (densU ja.self.post.tys):=(ja.fuel (3)).F x_
def Js.mc:MCallee:=⟨57,ja.self.pre,ja.self.post,fun x_=>Js x_⟩
theorem Js.ok:MOk Try.prog 57 Js.mc:=mok_diag (F:=fun n=>(ja.fuel n).F) (fun n=>(ja.fuel n).ok) (fun x_=>3)
abbrev tb28:SD:=.one (.ref 1000700 0)
abbrev tb29:SO:=.box [.own 1000701 0,.own 1000702 0]
abbrev tb30:SO:=.arr 0 false 53 (.st (.pair (.int .i64) (.pair (.int .i64) (.pair (.sl (.int .i64)) (.pair (.int .i64) (.pair (.int .i64) (.sl (.int .i64))))))))
def jl.pre:Shape:=⟨[(0,tb28),(1,tb25)],[(1000700,tb29),(1000701,tb22),(1000702,tb30)]⟩
def jl.post:Shape:=⟨[],[(1000701,tb22),(1000702,tb30),(1000700,tb29)]⟩
def jl.c4 {ρ:Type} (i:Int) (o0:Int) (o1:Int) (o2:List Int) (o3:Int) (o4:Int) (o5:List Int) (t1000701:List (Int×(Int×(Bool)))) (k_:List (Int×(Int×(Bool)))→Option ρ):Option ρ:=
 bnd (inR (List.length t1000701) i) fun y=>
 bnd (idx t1000701 i) fun y_1=>
 bnd (W.Js (y_1,(o0,o1,o2,o3,o4,o5),())) fun y_2=>
 bnd (inR (List.length t1000701) i) fun y_3=>
 bnd (idx t1000701 i) fun y_4=>
 k_ (List.set t1000701 (Int.toNat i) y_2.1)
def jl.c4s:Shape:=⟨[(0,tb28),(1,tb25),(3,tb12),(4,tb5),(9,tb5),(10,tb5)],[(3,tb26),(1000700,tb29),(1000701,tb22),(1000702,tb30)]⟩
def jl.c4x0:Shape:=jl.c4s
def jl.c4r:Ck:=Ck.of (T:=List (Int×(Int×(Bool)))) jl.c4s (fun ρ x_ k_=>jl.c4 x_.2.1 x_.2.2.2.2.1 x_.2.2.2.2.2.1 x_.2.2.2.2.2.2.1 x_.2.2.2.2.2.2.2.1 x_.2.2.2.2.2.2.2.2.1 x_.2.2.2.2.2.2.2.2.2.1 x_.2.2.2.2.2.2.2.2.2.2.1 k_) (fun ρ x_ r_ k_=>k_ 0 (Shape.inj jl.c4x0 (x_.1,x_.2.1,x_.2.2.1,x_.2.2.2.1,x_.2.2.2.2.1,x_.2.2.2.2.2.1,x_.2.2.2.2.2.2.1,x_.2.2.2.2.2.2.2.1,x_.2.2.2.2.2.2.2.2.1,x_.2.2.2.2.2.2.2.2.2.1,r_,x_.2.2.2.2.2.2.2.2.2.2.2)))
def jl.c100002 {ρ:Type} (t9:Int) (t10:Int) (o0:Int) (o1:Int) (o2:List Int) (o3:Int) (o4:Int) (o5:List Int) (t1000701:List (Int×(Int×(Bool)))) (k_:(Int×(List (Int×(Int×(Bool)))))⊕(Int×(List (Int×(Int×(Bool)))))→Option ρ):Option ρ:=
 br (decide (t10 < t9))
 (bnd (W.jl.c4 t10 o0 o1 o2 o3 o4 o5 t1000701 some) fun y=>
 k_ (.inl ((IntKind.wrap IntKind.i64 (t10+(1:Int))),y)))
 (k_ (.inr (t10,t1000701)))
def jl.c100002s:Shape:=⟨[(0,tb28),(1,tb25),(3,tb12),(9,tb5),(10,tb5)],[(3,tb26),(1000700,tb29),(1000701,tb22),(1000702,tb30)]⟩
def jl.c100002x0:Shape:=jl.c100002s
def jl.c100002r:Ck:=Ck.ofLoop (S:=Int×(List (Int×(Int×(Bool))))) (T:=Int×(List (Int×(Int×(Bool))))) jl.c100002s (fun x_=>(x_.2.2.1,x_.2.2.2.2.2.2.2.2.2.1)) (fun ρ x_ s_ k_=>jl.c100002 x_.2.1 s_.1 x_.2.2.2.1 x_.2.2.2.2.1 x_.2.2.2.2.2.1 x_.2.2.2.2.2.2.1 x_.2.2.2.2.2.2.2.1 x_.2.2.2.2.2.2.2.2.1 s_.2 k_) (fun ρ x_ r_ k_=>k_ 2 (Shape.inj jl.c100002x0 (x_.1,x_.2.1,r_.1,x_.2.2.2.1,x_.2.2.2.2.1,x_.2.2.2.2.2.1,x_.2.2.2.2.2.2.1,x_.2.2.2.2.2.2.2.1,x_.2.2.2.2.2.2.2.2.1,r_.2,x_.2.2.2.2.2.2.2.2.2.2)))
def jl.c6 {ρ:Type} (o0:Int) (o1:Int) (o2:List Int) (o3:Int) (o4:Int) (o5:List Int) (t1000702:List (Int×(Int×((List Int)×(Int×(Int×(List Int))))))) (k_:Unit→Option ρ):Option ρ:=
 bnd (okIf (decide ((List.length t1000702+(1:Nat))*(80:Nat)≤(140737488355328:Nat)) && decide (List.length t1000702+(1:Nat)≤(140737488355328:Nat)))) fun y=>
 k_ ()
def jl.c6s:Shape:=jl.c100002s
def jl.c6x0:Shape:=jl.c100002s
def jl.c6r:Ck:=Ck.of (T:=Unit) jl.c6s (fun ρ x_ k_=>jl.c6 x_.2.2.2.1 x_.2.2.2.2.1 x_.2.2.2.2.2.1 x_.2.2.2.2.2.2.1 x_.2.2.2.2.2.2.2.1 x_.2.2.2.2.2.2.2.2.1 x_.2.2.2.2.2.2.2.2.2.2.1 k_) (fun ρ x_ r_ k_=>k_ 0 (Shape.inj jl.c6x0 (x_.1,x_.2.1,x_.2.2.1,x_.2.2.2.1,x_.2.2.2.2.1,x_.2.2.2.2.2.1,x_.2.2.2.2.2.2.1,x_.2.2.2.2.2.2.2.1,x_.2.2.2.2.2.2.2.2.1,x_.2.2.2.2.2.2.2.2.2.1,(x_.2.2.2.2.2.2.2.2.2.2.1++[(x_.2.2.2.1,x_.2.2.2.2.1,x_.2.2.2.2.2.1,x_.2.2.2.2.2.2.1,x_.2.2.2.2.2.2.2.1,x_.2.2.2.2.2.2.2.2.1)]),())))
def jl (o:Int×(Int×((List Int)×(Int×(Int×(List Int)))))) (t1000701:List (Int×(Int×(Bool)))) (t1000702:List (Int×(Int×((List Int)×(Int×(Int×(List Int))))))):Option ((List (Int×(Int×(Bool))))×(List (Int×(Int×((List Int)×(Int×(Int×(List Int)))))))×Unit):=
 bnd (iter (fun s↦W.jl.c100002 (↑(List.length t1000701):Int) s.1 o.1 o.2.1 o.2.2.1 o.2.2.2.1 o.2.2.2.2.1 o.2.2.2.2.2 s.2 some) ((0:Int),t1000701)) fun y=>
 bnd (W.jl.c6 o.1 o.2.1 o.2.2.1 o.2.2.2.1 o.2.2.2.2.1 o.2.2.2.2.2 t1000702 some) fun y_1=>
 some (y.2,t1000702++[(o.1,o.2.1,o.2.2.1,o.2.2.2.1,o.2.2.2.2.1,o.2.2.2.2.2)],())
def jl.mc:MCallee:=⟨67,jl.pre,jl.post,fun x_=>jl x_.1 x_.2.1 x_.2.2.1⟩
def jl.G:Env:=⟨39,tab,[],[0,1,3,4,9,10,11],[1000700,1000701,1000702],[(6,[⟨[],[],[30,31,32,33,34,35,36],[35,1000702]⟩,⟨[],[],[29,34,35],[35]⟩,⟨[1],[],[29,34,35],[35]⟩,⟨[2,1],[],[29,34,35],[35]⟩,⟨[3,2,1],[],[29,34,35],[35]⟩,⟨[],[],[29,30,31,32,33],[]⟩,⟨[5],[35],[29,30,31,32,33],[]⟩,⟨[4,3,2,1,6,5],[1000702],[29],[]⟩,⟨[0,1,2,3,4,5,6,7],[],[],[]⟩,⟨[8,0,1,2,3,4,5,6,7],[],[],[]⟩,⟨[9,8,0,1,2,3,4,5,6,7],[1000700],[],[]⟩]),
 (4,[⟨[],[],[17,18,19,20,21,22,23,24,25,26],[]⟩,⟨[0],[],[17,18,19,20,21,22,23,24,25,26],[]⟩,⟨[1,0],[],[17,18,19,20,21,22,23,24,25,26],[]⟩,⟨[2,1,0],[],[17,18,19,20,21,22,23,24,25,26],[]⟩,⟨[],[],[13,14,15,16,18,19,20,21,22,23,24,25,26],[]⟩,⟨[],[],[13,14,15,16,17,22,25],[]⟩,⟨[5],[],[13,14,15,16,17,22,25],[]⟩,⟨[6,5],[],[13,14,15,16,17,22,25],[]⟩,⟨[7,6,5],[],[13,14,15,16,17,22,25],[]⟩,⟨[],[],[13,14,15,16,17,18,19,20,21,25],[]⟩,⟨[8,7,6,5,9],[],[13,14,15,16,17,25],[]⟩,⟨[10,8,7,6,5,9],[],[13,14,15,16,17,25],[]⟩,⟨[],[],[13,14,15,16,17,18,19,20,21,22,23,24],[]⟩,⟨[11,10,8,7,6,5,9,12],[],[13,14,15,16,17],[]⟩,⟨[3,2,1,0,4,5,6,7,8,9,10,11,12,13],[],[],[]⟩,⟨[14,3,2,1,0,4,5,6,7,8,9,10,11,12,13],[1000701],[],[]⟩])],[(6,jl.c6r),(100002,jl.c100002r),(4,jl.c4r)],[(57,Js.mc)],tab_eqs⟩
theorem jl.eq (x_:densU jl.mc.pre.tys):denM jl.G Try.f67 jl.mc.pre jl.mc.post x_=jl.mc.F x_:=by kernel_rfl
theorem jl.p0:PcA jl.G Try.f67 0:=
 loop_ok (s:=jl.c100002r) (by kernel_rfl) (by kernel_rfl) (loops_of (sh:=jl.c100002s) (I:=fun x_ s_=>(x_.1,x_.2.1,s_.1,x_.2.2.2.1,x_.2.2.2.2.1,x_.2.2.2.2.2.1,x_.2.2.2.2.2.2.1,x_.2.2.2.2.2.2.2.1,x_.2.2.2.2.2.2.2.2.1,s_.2,x_.2.2.2.2.2.2.2.2.2.2)) (fun x_=>rfl) (fun ρ x_ s_ k_=>(nat_br (nat_bnd fun _=>nat_leaf) nat_leaf)) (fun ρ x_ t k=>(by kernel_rfl)) (fun x_ s=>by kernel_rfl))
theorem jl.p1:PcA jl.G Try.f67 1:=
 region_ok (s:=jl.c4r) (by kernel_rfl) (by kernel_rfl) (sums_of (sh:=jl.c4s) (fun ρ x_ k_=>(nat_bnd fun _=>(nat_bnd fun _=>(nat_bnd fun _=>(nat_bnd fun _=>(nat_bnd fun _=>nat_leaf)))))) (fun ρ x_ t k=>(by kernel_rfl)) (fun x_=>by kernel_rfl))
theorem jl.p2:PcA jl.G Try.f67 2:=
 region_ok (s:=jl.c6r) (by kernel_rfl) (by kernel_rfl) (sums_of (sh:=jl.c6s) (fun ρ x_ k_=>(nat_bnd fun _=>nat_leaf)) (fun ρ x_ t k=>(by kernel_rfl)) (fun x_=>by kernel_rfl))
theorem jl.ok:MOk Try.prog 67 jl.mc:=fnm_ok (G:=jl.G) tab_ok mixed Try.func67 ⟨fns_nil,(mfns_cons Js.ok mfns_nil),tab_eqs_ok⟩ (m:=3) (by kernel_rfl) ⟨⟨⟨trivial,jl.p0⟩,jl.p1⟩,jl.p2⟩ (by kernel_rfl) jl.eq
def jc.pre:Shape:=⟨[(0,tb28),(1,tb5),(2,tb5),(3,tb5)],[(1000700,tb29),(1000701,tb22),(1000702,tb30)]⟩
def jc.post:Shape:=⟨[],[(1000701,tb22),(1000702,tb30),(1000700,tb29)]⟩
def jc.c212300 {ρ:Type} (i:Int) (j:Int) (t1000701:List (Int×(Int×(Bool)))) (t1000702:List (Int×(Int×((List Int)×(Int×(Int×(List Int))))))) (k_:(List (Int×(Int×(Bool))))×(List (Int×(Int×((List Int)×(Int×(Int×(List Int)))))))→Option ρ):Option ρ:=
 bnd (inR (List.length t1000701) i) fun y=>
 bnd (idx t1000701 i) fun y_1=>
 bnd (okIf (decide ((0:Int)≤j))) fun y_2=>
 br (ibits BinOp.and IntKind.u64 (Int.fdiv y_1.2.1 ((2:Int) ^ Min.min (Int.toNat j) (64:Nat))) (1:Int) == (1:Int))
 (bnd (okIf (decide ((0:Int)≤j))) fun y_3=>
 br (ibits BinOp.and IntKind.u64 (Int.fdiv y_1.1 ((2:Int) ^ Min.min (Int.toNat j) (64:Nat))) (1:Int) == (1:Int))
 (bnd (W.jl ((4:Int),(4:Int),[],j,(0:Int),[]) t1000701 t1000702) fun y_4=>
 k_ (y_4.1,y_4.2.1))
 (bnd (W.jl ((3:Int),(0:Int),[],j,(0:Int),[]) t1000701 t1000702) fun y_5=>
 k_ (y_5.1,y_5.2.1)))
 (k_ (t1000701,t1000702))
def jc.c212300s:Shape:=⟨[(0,tb28),(1,tb5),(2,tb5),(3,tb5),(8,tb5)],[(1000700,tb29),(1000701,tb22),(1000702,tb30)]⟩
def jc.c212300x0:Shape:=jc.c212300s
def jc.c212300r:Ck:=Ck.of (T:=(List (Int×(Int×(Bool))))×(List (Int×(Int×((List Int)×(Int×(Int×(List Int)))))))) jc.c212300s (fun ρ x_ k_=>jc.c212300 x_.1 x_.2.2.2.1 x_.2.2.2.2.1 x_.2.2.2.2.2.1 k_) (fun ρ x_ r_ k_=>k_ 0 (Shape.inj jc.c212300x0 (x_.1,x_.2.1,x_.2.2.1,x_.2.2.2.1,r_.1,r_.2,())))
def jc.c100001 {ρ:Type} (i:Int) (n:Int) (j:Int) (t1000701:List (Int×(Int×(Bool)))) (t1000702:List (Int×(Int×((List Int)×(Int×(Int×(List Int))))))) (k_:(Int×(List (Int×(Int×(Bool))))×(List (Int×(Int×((List Int)×(Int×(Int×(List Int))))))))⊕(Int×(List (Int×(Int×(Bool))))×(List (Int×(Int×((List Int)×(Int×(Int×(List Int))))))))→Option ρ):Option ρ:=
 br (decide (j < n))
 (bnd (W.jc.c212300 i j t1000701 t1000702 some) fun y=>
 k_ (.inl ((IntKind.wrap IntKind.i64 (j+(1:Int))),y.1,y.2)))
 (k_ (.inr (j,t1000701,t1000702)))
def jc.c100001s:Shape:=jc.c212300s
def jc.c100001x0:Shape:=jc.c212300s
def jc.c100001r:Ck:=Ck.ofLoop (S:=Int×(List (Int×(Int×(Bool))))×(List (Int×(Int×((List Int)×(Int×(Int×(List Int)))))))) (T:=Int×(List (Int×(Int×(Bool))))×(List (Int×(Int×((List Int)×(Int×(Int×(List Int)))))))) jc.c100001s (fun x_=>(x_.2.2.2.1,x_.2.2.2.2.1,x_.2.2.2.2.2.1)) (fun ρ x_ s_ k_=>jc.c100001 x_.1 x_.2.2.1 s_.1 s_.2.1 s_.2.2 k_) (fun ρ x_ r_ k_=>k_ 2 (Shape.inj jc.c100001x0 (x_.1,x_.2.1,x_.2.2.1,r_.1,r_.2.1,r_.2.2,())))
def jc.c9 {ρ:Type} (i:Int) (q:Int) (n:Int) (j_1:Int) (t1000701:List (Int×(Int×(Bool)))) (k_:Bool→Option ρ):Option ρ:=
 br (decide (j_1 < n))
 (bnd (inR (List.length t1000701) i) fun y=>
 bnd (idx t1000701 i) fun y_1=>
 bnd (okIf (decide ((0:Int)≤q))) fun y_2=>
 k_ (ibits BinOp.and IntKind.u64 (Int.fdiv y_1.1 ((2:Int) ^ Min.min (Int.toNat q) (64:Nat))) (1:Int) == (0:Int)))
 (k_ false)
def jc.c9s:Shape:=⟨[(0,tb28),(1,tb5),(2,tb5),(3,tb5),(8,tb5),(10,tb5)],[(1000700,tb29),(1000701,tb22),(1000702,tb30)]⟩
def jc.c9x0:Shape:=⟨[(0,tb28),(1,tb5),(2,tb5),(3,tb5),(8,tb5),(10,tb5),(63,tb7)],[(1000700,tb29),(1000701,tb22),(1000702,tb30)]⟩
def jc.c9r:Ck:=Ck.of (T:=Bool) jc.c9s (fun ρ x_ k_=>jc.c9 x_.1 x_.2.1 x_.2.2.1 x_.2.2.2.2.1 x_.2.2.2.2.2.1 k_) (fun ρ x_ r_ k_=>k_ 0 (Shape.inj jc.c9x0 (x_.1,x_.2.1,x_.2.2.1,x_.2.2.2.1,x_.2.2.2.2.1,r_,x_.2.2.2.2.2)))
def jc.c245062 {ρ:Type} (i:Int) (q:Int) (j_1:Int) (t1000701:List (Int×(Int×(Bool)))) (t1000702:List (Int×(Int×((List Int)×(Int×(Int×(List Int))))))) (k_:(List (Int×(Int×(Bool))))×(List (Int×(Int×((List Int)×(Int×(Int×(List Int)))))))→Option ρ):Option ρ:=
 bnd (inR (List.length t1000701) i) fun y=>
 bnd (idx t1000701 i) fun y_1=>
 bnd (okIf (decide ((0:Int)≤j_1))) fun y_2=>
 br (ibits BinOp.and IntKind.u64 (Int.fdiv y_1.1 ((2:Int) ^ Min.min (Int.toNat j_1) (64:Nat))) (1:Int) == (1:Int))
 (bnd (W.jl ((2:Int),(0:Int),[j_1],q,(0:Int),[]) t1000701 t1000702) fun y_3=>
 k_ (y_3.1,y_3.2.1))
 (k_ (t1000701,t1000702))
def jc.c245062s:Shape:=jc.c9s
def jc.c245062x0:Shape:=jc.c9s
def jc.c245062r:Ck:=Ck.of (T:=(List (Int×(Int×(Bool))))×(List (Int×(Int×((List Int)×(Int×(Int×(List Int)))))))) jc.c245062s (fun ρ x_ k_=>jc.c245062 x_.1 x_.2.1 x_.2.2.2.2.1 x_.2.2.2.2.2.1 x_.2.2.2.2.2.2.1 k_) (fun ρ x_ r_ k_=>k_ 0 (Shape.inj jc.c245062x0 (x_.1,x_.2.1,x_.2.2.1,x_.2.2.2.1,x_.2.2.2.2.1,r_.1,r_.2,())))
def jc.c100009 {ρ:Type} (i:Int) (q:Int) (n:Int) (j_1:Int) (t1000701:List (Int×(Int×(Bool)))) (t1000702:List (Int×(Int×((List Int)×(Int×(Int×(List Int))))))) (k_:(Int×(List (Int×(Int×(Bool))))×(List (Int×(Int×((List Int)×(Int×(Int×(List Int))))))))⊕(Int×(List (Int×(Int×(Bool))))×(List (Int×(Int×((List Int)×(Int×(Int×(List Int))))))))→Option ρ):Option ρ:=
 bnd (W.jc.c9 i q n j_1 t1000701 some) fun y=>
 br y
 (bnd (W.jc.c245062 i q j_1 t1000701 t1000702 some) fun y_1=>
 k_ (.inl ((IntKind.wrap IntKind.i64 (j_1+(1:Int))),y_1.1,y_1.2)))
 (k_ (.inr (j_1,t1000701,t1000702)))
def jc.c100009s:Shape:=jc.c9s
def jc.c100009x0:Shape:=jc.c9s
def jc.c100009r:Ck:=Ck.ofLoop (S:=Int×(List (Int×(Int×(Bool))))×(List (Int×(Int×((List Int)×(Int×(Int×(List Int)))))))) (T:=Int×(List (Int×(Int×(Bool))))×(List (Int×(Int×((List Int)×(Int×(Int×(List Int)))))))) jc.c100009s (fun x_=>(x_.2.2.2.2.1,x_.2.2.2.2.2.1,x_.2.2.2.2.2.2.1)) (fun ρ x_ s_ k_=>jc.c100009 x_.1 x_.2.1 x_.2.2.1 s_.1 s_.2.1 s_.2.2 k_) (fun ρ x_ r_ k_=>k_ 4 (Shape.inj jc.c100009x0 (x_.1,x_.2.1,x_.2.2.1,x_.2.2.2.1,r_.1,r_.2.1,r_.2.2,())))
def jc.c265542 {ρ:Type} (i:Int) (q:Int) (j_2:Int) (t1000701:List (Int×(Int×(Bool)))) (t1000702:List (Int×(Int×((List Int)×(Int×(Int×(List Int))))))) (k_:(List (Int×(Int×(Bool))))×(List (Int×(Int×((List Int)×(Int×(Int×(List Int)))))))→Option ρ):Option ρ:=
 bnd (inR (List.length t1000701) i) fun y=>
 bnd (idx t1000701 i) fun y_1=>
 bnd (okIf (decide ((0:Int)≤j_2))) fun y_2=>
 br (ibits BinOp.and IntKind.u64 (Int.fdiv y_1.1 ((2:Int) ^ Min.min (Int.toNat j_2) (64:Nat))) (1:Int) == (1:Int))
 (bnd (W.jl ((2:Int),(0:Int),[q],j_2,(0:Int),[]) t1000701 t1000702) fun y_3=>
 k_ (y_3.1,y_3.2.1))
 (k_ (t1000701,t1000702))
def jc.c265542s:Shape:=⟨[(0,tb28),(1,tb5),(2,tb5),(3,tb5),(8,tb5),(10,tb5),(11,tb5)],[(1000700,tb29),(1000701,tb22),(1000702,tb30)]⟩
def jc.c265542x0:Shape:=jc.c265542s
def jc.c265542r:Ck:=Ck.of (T:=(List (Int×(Int×(Bool))))×(List (Int×(Int×((List Int)×(Int×(Int×(List Int)))))))) jc.c265542s (fun ρ x_ k_=>jc.c265542 x_.1 x_.2.1 x_.2.2.2.2.2.1 x_.2.2.2.2.2.2.1 x_.2.2.2.2.2.2.2.1 k_) (fun ρ x_ r_ k_=>k_ 0 (Shape.inj jc.c265542x0 (x_.1,x_.2.1,x_.2.2.1,x_.2.2.2.1,x_.2.2.2.2.1,x_.2.2.2.2.2.1,r_.1,r_.2,())))
def jc.c100014 {ρ:Type} (i:Int) (q:Int) (n:Int) (j_2:Int) (t1000701:List (Int×(Int×(Bool)))) (t1000702:List (Int×(Int×((List Int)×(Int×(Int×(List Int))))))) (k_:(Int×(List (Int×(Int×(Bool))))×(List (Int×(Int×((List Int)×(Int×(Int×(List Int))))))))⊕(Int×(List (Int×(Int×(Bool))))×(List (Int×(Int×((List Int)×(Int×(Int×(List Int))))))))→Option ρ):Option ρ:=
 br (decide (j_2 < n))
 (bnd (W.jc.c265542 i q j_2 t1000701 t1000702 some) fun y=>
 k_ (.inl ((IntKind.wrap IntKind.i64 (j_2+(1:Int))),y.1,y.2)))
 (k_ (.inr (j_2,t1000701,t1000702)))
def jc.c100014s:Shape:=jc.c265542s
def jc.c100014x0:Shape:=jc.c265542s
def jc.c100014r:Ck:=Ck.ofLoop (S:=Int×(List (Int×(Int×(Bool))))×(List (Int×(Int×((List Int)×(Int×(Int×(List Int)))))))) (T:=Int×(List (Int×(Int×(Bool))))×(List (Int×(Int×((List Int)×(Int×(Int×(List Int)))))))) jc.c100014s (fun x_=>(x_.2.2.2.2.2.1,x_.2.2.2.2.2.2.1,x_.2.2.2.2.2.2.2.1)) (fun ρ x_ s_ k_=>jc.c100014 x_.1 x_.2.1 x_.2.2.1 s_.1 s_.2.1 s_.2.2 k_) (fun ρ x_ r_ k_=>k_ 6 (Shape.inj jc.c100014x0 (x_.1,x_.2.1,x_.2.2.1,x_.2.2.2.1,x_.2.2.2.2.1,r_.1,r_.2.1,r_.2.2,())))
def jc (i:Int) (q:Int) (n:Int) (t1000701:List (Int×(Int×(Bool)))) (t1000702:List (Int×(Int×((List Int)×(Int×(Int×(List Int))))))):Option ((List (Int×(Int×(Bool))))×(List (Int×(Int×((List Int)×(Int×(Int×(List Int)))))))×Unit):=
 bnd (iter (fun s↦W.jc.c100001 i n s.1 s.2.1 s.2.2 some) (q,t1000701,t1000702)) fun y=>
 bnd (iter (fun s↦W.jc.c100009 i q n s.1 s.2.1 s.2.2 some) (IntKind.wrap IntKind.i64 (q+(1:Int)),y.2.1,y.2.2)) fun y_1=>
 bnd (iter (fun s↦W.jc.c100014 i q n s.1 s.2.1 s.2.2 some) (IntKind.wrap IntKind.i64 (q+(1:Int)),y_1.2.1,y_1.2.2)) fun y_2=>
 some (y_2.2.1,y_2.2.2,())
def jc.mc:MCallee:=⟨68,jc.pre,jc.post,fun x_=>jc x_.1 x_.2.1 x_.2.2.1 x_.2.2.2.1 x_.2.2.2.2.1⟩
def jc.G:Env:=⟨109,tab,[],[0,1,2,3,8,9,10,11,15,30,36,63,77,88,102],[1000700,1000701,1000702],[],[(100014,jc.c100014r),(265542,jc.c265542r),(100009,jc.c100009r),(245062,jc.c245062r),(9,jc.c9r),(100001,jc.c100001r),(212300,jc.c212300r)],[(67,jl.mc)],tab_eqs⟩
theorem jc.eq (x_:densU jc.mc.pre.tys):denM jc.G Try.f68 jc.mc.pre jc.mc.post x_=jc.mc.F x_:=by kernel_rfl
theorem jc.p0:PcA jc.G Try.f68 0:=
 loop_ok (s:=jc.c100001r) (by kernel_rfl) (by kernel_rfl) (loops_of (sh:=jc.c100001s) (I:=fun x_ s_=>(x_.1,x_.2.1,x_.2.2.1,s_.1,s_.2.1,s_.2.2,())) (fun x_=>rfl) (fun ρ x_ s_ k_=>(nat_br (nat_bnd fun _=>nat_leaf) nat_leaf)) (fun ρ x_ t k=>(by kernel_rfl)) (fun x_ s=>by kernel_rfl))
theorem jc.p1:PcA jc.G Try.f68 1:=
 join_ok (s:=jc.c212300r) (by kernel_rfl) (by kernel_rfl) (sums_of (sh:=jc.c212300s) (fun ρ x_ k_=>(nat_bnd fun _=>(nat_bnd fun _=>(nat_bnd fun _=>(nat_br (nat_bnd fun _=>(nat_br (nat_bnd fun _=>nat_leaf) (nat_bnd fun _=>nat_leaf))) nat_leaf))))) (fun ρ x_ t k=>(by kernel_rfl)) (fun x_=>by kernel_rfl))
theorem jc.p2:PcA jc.G Try.f68 2:=
 loop_ok (s:=jc.c100009r) (by kernel_rfl) (by kernel_rfl) (loops_of (sh:=jc.c100009s) (I:=fun x_ s_=>(x_.1,x_.2.1,x_.2.2.1,x_.2.2.2.1,s_.1,s_.2.1,s_.2.2,())) (fun x_=>rfl) (fun ρ x_ s_ k_=>(nat_bnd fun _=>(nat_br (nat_bnd fun _=>nat_leaf) nat_leaf))) (fun ρ x_ t k=>(by kernel_rfl)) (fun x_ s=>by kernel_rfl))
theorem jc.p3:PcA jc.G Try.f68 3:=
 region_ok (s:=jc.c9r) (by kernel_rfl) (by kernel_rfl) (sums_of (sh:=jc.c9s) (fun ρ x_ k_=>(nat_br (nat_bnd fun _=>(nat_bnd fun _=>(nat_bnd fun _=>nat_leaf))) nat_leaf)) (fun ρ x_ t k=>(by kernel_rfl)) (fun x_=>by kernel_rfl))
theorem jc.p4:PcA jc.G Try.f68 4:=
 join_ok (s:=jc.c245062r) (by kernel_rfl) (by kernel_rfl) (sums_of (sh:=jc.c245062s) (fun ρ x_ k_=>(nat_bnd fun _=>(nat_bnd fun _=>(nat_bnd fun _=>(nat_br (nat_bnd fun _=>nat_leaf) nat_leaf))))) (fun ρ x_ t k=>(by kernel_rfl)) (fun x_=>by kernel_rfl))
theorem jc.p5:PcA jc.G Try.f68 5:=
 loop_ok (s:=jc.c100014r) (by kernel_rfl) (by kernel_rfl) (loops_of (sh:=jc.c100014s) (I:=fun x_ s_=>(x_.1,x_.2.1,x_.2.2.1,x_.2.2.2.1,x_.2.2.2.2.1,s_.1,s_.2.1,s_.2.2,())) (fun x_=>rfl) (fun ρ x_ s_ k_=>(nat_br (nat_bnd fun _=>nat_leaf) nat_leaf)) (fun ρ x_ t k=>(by kernel_rfl)) (fun x_ s=>by kernel_rfl))
theorem jc.p6:PcA jc.G Try.f68 6:=
 join_ok (s:=jc.c265542r) (by kernel_rfl) (by kernel_rfl) (sums_of (sh:=jc.c265542s) (fun ρ x_ k_=>(nat_bnd fun _=>(nat_bnd fun _=>(nat_bnd fun _=>(nat_br (nat_bnd fun _=>nat_leaf) nat_leaf))))) (fun ρ x_ t k=>(by kernel_rfl)) (fun x_=>by kernel_rfl))
theorem jc.ok:MOk Try.prog 68 jc.mc:=fnm_ok (G:=jc.G) tab_ok mixed Try.func68 ⟨fns_nil,(mfns_cons jl.ok mfns_nil),tab_eqs_ok⟩ (m:=7) (by kernel_rfl) ⟨⟨⟨⟨⟨⟨⟨trivial,jc.p0⟩,jc.p1⟩,jc.p2⟩,jc.p3⟩,jc.p4⟩,jc.p5⟩,jc.p6⟩ (by kernel_rfl) jc.eq
abbrev tb31:SD:=.one (.val (.sl (.st (.pair (.int .i64) (.pair (.int .i64) (.pair (.sl (.int .i64)) (.pair (.int .i64) (.pair (.int .i64) (.sl (.int .i64))))))))))
def Jt (code:Int) (t1:Int):Option (Int×Int):=
 some (code,t1)
def Jt.ce:Go.Ql.Callee:=⟨[(.int .i64),(.int .i64)],[(.st (.pair (.int .i64) (.int .i64)))],fun x_=>Jt x_.1 x_.2⟩
def Jt.G:Env:=⟨8,tab,[],[0,1,4],[],[],[],[],tab_eqs⟩
theorem Jt.eq (x_:dens Jt.ce.params):den Jt.G Try.f80 Jt.ce.params Jt.ce.res x_=Jt.ce.F x_:=by kernel_rfl
theorem Jt.ok:CalleeOk Try.prog 80 Jt.ce:=fn_ok (G:=Jt.G) tab_ok mixed Try.func80 ⟨fns_nil,mfns_nil,tab_eqs_ok⟩ (m:=0) (by kernel_rfl) trivial (by kernel_rfl) Jt.eq
def Je.c1 {ρ:Type} (kind:Int) (k_:Bool→Option ρ):Option ρ:=
 br (kind == (1:Int))
 (k_ true)
 (k_ (kind == (4:Int)))
def Je.c1s:Shape:=⟨[(0,tb5),(2,tb7)],[]⟩
def Je.c1x0:Shape:=Je.c1s
def Je.c1r:Ck:=Ck.of (T:=Bool) Je.c1s (fun ρ x_ k_=>Je.c1 x_.1 k_) (fun ρ x_ r_ k_=>k_ 0 (Shape.inj Je.c1x0 (x_.1,r_,())))
def Je (kind:Int):Option (Bool):=
 bnd (W.Je.c1 kind some) fun y=>
 some y
def Je.ce:Go.Ql.Callee:=⟨[(.int .i64)],[.bool],fun x_=>Je x_⟩
def Je.G:Env:=⟨9,tab,[],[0,2],[],[],[(1,Je.c1r)],[],tab_eqs⟩
theorem Je.eq (x_:dens Je.ce.params):den Je.G Try.f116 Je.ce.params Je.ce.res x_=Je.ce.F x_:=by kernel_rfl
theorem Je.p0:PcA Je.G Try.f116 0:=
 region_ok (s:=Je.c1r) (by kernel_rfl) (by kernel_rfl) (sums_of (sh:=Je.c1s) (fun ρ x_ k_=>(nat_br nat_leaf nat_leaf)) (fun ρ x_ t k=>(by kernel_rfl)) (fun x_=>by kernel_rfl))
theorem Je.ok:CalleeOk Try.prog 116 Je.ce:=fn_ok (G:=Je.G) tab_ok mixed Try.func116 ⟨fns_nil,mfns_nil,tab_eqs_ok⟩ (m:=1) (by kernel_rfl) ⟨trivial,Je.p0⟩ (by kernel_rfl) Je.eq
def Jl.c1 {ρ:Type} (kind:Int) (k_:Bool→Option ρ):Option ρ:=
 br (kind == (2:Int))
 (k_ true)
 (br (kind == (3:Int))
 (k_ true)
 (k_ (kind == (4:Int))))
def Jl.c1s:Shape:=⟨[(0,tb5),(2,tb7)],[]⟩
def Jl.c1x0:Shape:=Jl.c1s
def Jl.c1r:Ck:=Ck.of (T:=Bool) Jl.c1s (fun ρ x_ k_=>Jl.c1 x_.1 k_) (fun ρ x_ r_ k_=>k_ 0 (Shape.inj Jl.c1x0 (x_.1,r_,())))
def Jl (kind:Int):Option (Bool):=
 bnd (W.Jl.c1 kind some) fun y=>
 some y
def Jl.ce:Go.Ql.Callee:=⟨[(.int .i64)],[.bool],fun x_=>Jl x_⟩
def Jl.G:Env:=⟨13,tab,[],[0,2],[],[],[(1,Jl.c1r)],[],tab_eqs⟩
theorem Jl.eq (x_:dens Jl.ce.params):den Jl.G Try.f117 Jl.ce.params Jl.ce.res x_=Jl.ce.F x_:=by kernel_rfl
theorem Jl.p0:PcA Jl.G Try.f117 0:=
 region_ok (s:=Jl.c1r) (by kernel_rfl) (by kernel_rfl) (sums_of (sh:=Jl.c1s) (fun ρ x_ k_=>(nat_br nat_leaf (nat_br nat_leaf nat_leaf))) (fun ρ x_ t k=>(by kernel_rfl)) (fun x_=>by kernel_rfl))
theorem Jl.ok:CalleeOk Try.prog 117 Jl.ce:=fn_ok (G:=Jl.G) tab_ok mixed Try.func117 ⟨fns_nil,mfns_nil,tab_eqs_ok⟩ (m:=1) (by kernel_rfl) ⟨trivial,Jl.p0⟩ (by kernel_rfl) Jl.eq
abbrev tb33:SD:=.one (.ref 1000100 0)
abbrev tb34:SO:=.box [.val (.int .i64),.val (.int .i64),.val (.sl (.st (.pair (.int .i64) (.pair (.int .i64) (.pair (.sl (.int .i64)) (.pair (.int .i64) (.pair (.int .i64) (.sl (.int .i64)))))))))]
abbrev tb35:SD:=.one (.aptr 5 0)
abbrev tb36:SD:=.one (.val (.sl (.int .i64)))
abbrev tb37:SO:=.arr 0 false 152 .bool
def jj.pre:Shape:=⟨[(0,tb25),(1,tb33)],[(1000100,tb34)]⟩
def jj.post:Shape:=⟨[(0,tb5)],[(1000100,tb34)]⟩
def jj.c1 {ρ:Type} (o0:Int) (k_:Bool→Option ρ):Option ρ:=
 br (decide (o0 < (1:Int)))
 (k_ true)
 (k_ (decide (o0 > (6:Int))))
def jj.c1s:Shape:=⟨[(0,tb25),(1,tb33),(2,tb2),(4,tb5)],[(2,tb26),(1000100,tb34)]⟩
def jj.c1x0:Shape:=⟨[(0,tb25),(1,tb33),(2,tb2),(4,tb5),(17,tb7)],[(2,tb26),(1000100,tb34)]⟩
def jj.c1r:Ck:=Ck.of (T:=Bool) jj.c1s (fun ρ x_ k_=>jj.c1 x_.2.2.1 k_) (fun ρ x_ r_ k_=>k_ 0 (Shape.inj jj.c1x0 (x_.1,x_.2.1,r_,x_.2.2)))
def jj.c3 {ρ:Type} (o0:Int) (o1:Int) (k_:Bool→Option ρ):Option ρ:=
 br (decide (o1 < (0:Int)))
 (k_ true)
 (br (decide (o1 > (15:Int)))
 (k_ true)
 (bnd (W.Je o0) fun y=>
 br (!y)
 (k_ (o1 != (0:Int)))
 (k_ false)))
def jj.c3s:Shape:=jj.c1s
def jj.c3x0:Shape:=⟨[(0,tb25),(1,tb33),(2,tb2),(4,tb5),(36,tb7)],[(2,tb26),(1000100,tb34)]⟩
def jj.c3r:Ck:=Ck.of (T:=Bool) jj.c3s (fun ρ x_ k_=>jj.c3 x_.2.2.1 x_.2.2.2.1 k_) (fun ρ x_ r_ k_=>k_ 0 (Shape.inj jj.c3x0 (x_.1,x_.2.1,r_,x_.2.2)))
def jj.c5 {ρ:Type} (o0:Int) (o3:Int) (t10001000:Int) (k_:Bool→Option ρ):Option ρ:=
 br (decide (o3 < (0:Int)))
 (k_ true)
 (br (decide (o3≥t10001000))
 (k_ true)
 (br (o0 == (1:Int))
 (k_ (o3 != (0:Int)))
 (k_ false)))
def jj.c5s:Shape:=jj.c1s
def jj.c5x0:Shape:=⟨[(0,tb25),(1,tb33),(2,tb2),(4,tb5),(58,tb7)],[(2,tb26),(1000100,tb34)]⟩
def jj.c5r:Ck:=Ck.of (T:=Bool) jj.c5s (fun ρ x_ k_=>jj.c5 x_.2.2.1 x_.2.2.2.2.2.1 x_.2.2.2.2.2.2.2.2.1 k_) (fun ρ x_ r_ k_=>k_ 0 (Shape.inj jj.c5x0 (x_.1,x_.2.1,r_,x_.2.2)))
def jj.c7 {ρ:Type} (o0:Int) (o2:List Int) (k_:Bool→Option ρ):Option ρ:=
 br (decide ((↑(List.length o2):Int) > (0:Int)))
 (bnd (W.Jl o0) fun y=>
 k_ (!y))
 (k_ false)
def jj.c7s:Shape:=jj.c1s
def jj.c7x0:Shape:=⟨[(0,tb25),(1,tb33),(2,tb2),(4,tb5),(68,tb7)],[(2,tb26),(1000100,tb34)]⟩
def jj.c7r:Ck:=Ck.of (T:=Bool) jj.c7s (fun ρ x_ k_=>jj.c7 x_.2.2.1 x_.2.2.2.2.1 k_) (fun ρ x_ r_ k_=>k_ 0 (Shape.inj jj.c7x0 (x_.1,x_.2.1,r_,x_.2.2)))
def jj.c14 {ρ:Type} (q:Int) (t10001000:Int) (k_:Bool→Option ρ):Option ρ:=
 br (decide (q < (0:Int)))
 (k_ true)
 (k_ (decide (q≥t10001000)))
def jj.c14s:Shape:=⟨[(0,tb25),(1,tb33),(2,tb2),(4,tb5),(5,tb35),(7,tb5),(74,tb36),(75,tb5),(76,tb5)],[(2,tb26),(5,tb37),(1000100,tb34)]⟩
def jj.c14x0:Shape:=⟨[(0,tb25),(1,tb33),(2,tb2),(4,tb5),(5,tb35),(7,tb5),(74,tb36),(75,tb5),(76,tb5),(80,tb7)],[(2,tb26),(5,tb37),(1000100,tb34)]⟩
def jj.c14r:Ck:=Ck.of (T:=Bool) jj.c14s (fun ρ x_ k_=>jj.c14 x_.2.2.1 x_.2.2.2.2.2.2.2.2.2.2.2.2.2.1 k_) (fun ρ x_ r_ k_=>k_ 0 (Shape.inj jj.c14x0 (x_.1,x_.2.1,x_.2.2.1,x_.2.2.2.1,x_.2.2.2.2.1,x_.2.2.2.2.2.1,r_,x_.2.2.2.2.2.2)))
def jj.c100012 {ρ:Type} (t74:List Int) (t75:Int) (t76:Int) (seen:List (Bool)) (t10001000:Int) (k_:(Int×(List (Bool)))⊕((Int×Int×(List (Bool)))⊕(Int×(List (Bool))))→Option ρ):Option ρ:=
 br (decide (t76 < t75))
 (bnd (idx t74 t76) fun y=>
 bnd (W.jj.c14 y t10001000 some) fun y_1=>
 br y_1
 (k_ (.inr (.inl ((10:Int),t76,seen))))
 (bnd (okIf (decide ((0:Ty.den (Ty.int IntKind.i64))≤y) && decide (y < (↑(12:Nat):Int)))) fun y_2=>
 bnd (inR (List.length seen) y) fun y_3=>
 bnd (idx seen y) fun y_4=>
 br y_4
 (k_ (.inr (.inl ((12:Int),t76,seen))))
 (bnd (okIf (decide ((0:Ty.den (Ty.int IntKind.i64))≤y) && decide (y < (↑(12:Nat):Int)))) fun y_5=>
 bnd (inR (List.length seen) y) fun y_6=>
 bnd (idx seen y) fun y_7=>
 k_ (.inl ((IntKind.wrap IntKind.i64 (t76+(1:Int))),(List.set seen (Int.toNat y) true))))))
 (k_ (.inr (.inr (t76,seen))))
def jj.c100012s:Shape:=⟨[(0,tb25),(1,tb33),(2,tb2),(4,tb5),(5,tb35),(74,tb36),(75,tb5),(76,tb5)],[(2,tb26),(5,tb37),(1000100,tb34)]⟩
def jj.c100012x0:Shape:=jj.c100012s
def jj.c100012x1:Shape:=jj.c100012s
def jj.c100012r:Ck:=Ck.ofLoop (S:=Int×(List (Bool))) (T:=(Int×Int×(List (Bool)))⊕(Int×(List (Bool)))) jj.c100012s (fun x_=>(x_.2.2.2.2.1,x_.2.2.2.2.2.2.2.2.2.2.2.1)) (fun ρ x_ s_ k_=>jj.c100012 x_.2.2.1 x_.2.2.2.1 s_.1 s_.2 x_.2.2.2.2.2.2.2.2.2.2.2.2.1 k_) (fun ρ x_ r_ k_=>sel r_ (fun r_=>k_ 1 (Shape.inj jj.c100012x0 (x_.1,r_.1,x_.2.2.1,x_.2.2.2.1,r_.2.1,x_.2.2.2.2.2.1,x_.2.2.2.2.2.2.1,x_.2.2.2.2.2.2.2.1,x_.2.2.2.2.2.2.2.2.1,x_.2.2.2.2.2.2.2.2.2.1,x_.2.2.2.2.2.2.2.2.2.2.1,r_.2.2,x_.2.2.2.2.2.2.2.2.2.2.2.2))) (fun r_=>k_ 2 (Shape.inj jj.c100012x1 (x_.1,x_.2.1,x_.2.2.1,x_.2.2.2.1,r_.1,x_.2.2.2.2.2.1,x_.2.2.2.2.2.2.1,x_.2.2.2.2.2.2.2.1,x_.2.2.2.2.2.2.2.2.1,x_.2.2.2.2.2.2.2.2.2.1,x_.2.2.2.2.2.2.2.2.2.2.1,r_.2,x_.2.2.2.2.2.2.2.2.2.2.2.2))))
def jj.c20 {ρ:Type} (o0:Int) (o4:Int) (t10001001:Int) (k_:Bool→Option ρ):Option ρ:=
 br (o0 == (5:Int))
 (br (decide (o4 < (0:Int)))
 (k_ true)
 (br (decide (o4≥t10001001))
 (k_ true)
 (br (o0 != (5:Int))
 (k_ (o4 != (0:Int)))
 (k_ false))))
 (br (o0 != (5:Int))
 (k_ (o4 != (0:Int)))
 (k_ false))
def jj.c20s:Shape:=jj.c100012s
def jj.c20x0:Shape:=⟨[(0,tb25),(1,tb33),(2,tb2),(4,tb5),(5,tb35),(74,tb36),(75,tb5),(76,tb5),(124,tb7)],[(2,tb26),(5,tb37),(1000100,tb34)]⟩
def jj.c20r:Ck:=Ck.of (T:=Bool) jj.c20s (fun ρ x_ k_=>jj.c20 x_.2.2.2.2.2.1 x_.2.2.2.2.2.2.2.2.2.1 x_.2.2.2.2.2.2.2.2.2.2.2.2.2.1 k_) (fun ρ x_ r_ k_=>k_ 0 (Shape.inj jj.c20x0 (x_.1,x_.2.1,x_.2.2.1,x_.2.2.2.1,x_.2.2.2.2.1,r_,x_.2.2.2.2.2)))
def jj.c27 {ρ:Type} (v:Int) (t10001001:Int) (k_:Bool→Option ρ):Option ρ:=
 br (v == (0:Int))
 (k_ true)
 (br (decide (v > t10001001))
 (k_ true)
 (k_ (decide (v < IntKind.wrap IntKind.i64 ((0:Int) - t10001001)))))
def jj.c27s:Shape:=⟨[(0,tb25),(1,tb33),(2,tb2),(4,tb5),(5,tb35),(9,tb5),(74,tb36),(75,tb5),(76,tb5),(130,tb36),(131,tb5),(132,tb5)],[(2,tb26),(5,tb37),(1000100,tb34)]⟩
def jj.c27x0:Shape:=⟨[(0,tb25),(1,tb33),(2,tb2),(4,tb5),(5,tb35),(9,tb5),(74,tb36),(75,tb5),(76,tb5),(130,tb36),(131,tb5),(132,tb5),(154,tb7)],[(2,tb26),(5,tb37),(1000100,tb34)]⟩
def jj.c27r:Ck:=Ck.of (T:=Bool) jj.c27s (fun ρ x_ k_=>jj.c27 x_.2.2.1 x_.2.2.2.2.2.2.2.2.2.2.2.2.2.2.2.2.2.1 k_) (fun ρ x_ r_ k_=>k_ 0 (Shape.inj jj.c27x0 (x_.1,x_.2.1,x_.2.2.1,x_.2.2.2.1,x_.2.2.2.2.1,x_.2.2.2.2.2.1,x_.2.2.2.2.2.2.1,x_.2.2.2.2.2.2.2.1,x_.2.2.2.2.2.2.2.2.1,r_,x_.2.2.2.2.2.2.2.2.2)))
def jj.c100025 {ρ:Type} (t130:List Int) (t131:Int) (t132:Int) (t10001001:Int) (k_:Int⊕(Int⊕Int)→Option ρ):Option ρ:=
 br (decide (t132 < t131))
 (bnd (idx t130 t132) fun y=>
 bnd (W.jj.c27 y t10001001 some) fun y_1=>
 br y_1
 (k_ (.inr (.inl t132)))
 (k_ (.inl (IntKind.wrap IntKind.i64 (t132+(1:Int))))))
 (k_ (.inr (.inr t132)))
def jj.c100025s:Shape:=⟨[(0,tb25),(1,tb33),(2,tb2),(4,tb5),(5,tb35),(74,tb36),(75,tb5),(76,tb5),(130,tb36),(131,tb5),(132,tb5)],[(2,tb26),(5,tb37),(1000100,tb34)]⟩
def jj.c100025x0:Shape:=jj.c100025s
def jj.c100025x1:Shape:=jj.c100025s
def jj.c100025r:Ck:=Ck.ofLoop (S:=Int) (T:=Int⊕Int) jj.c100025s (fun x_=>x_.2.2.2.2.2.2.2.1) (fun ρ x_ s_ k_=>jj.c100025 x_.2.2.2.2.2.1 x_.2.2.2.2.2.2.1 s_ x_.2.2.2.2.2.2.2.2.2.2.2.2.2.2.2.2.1 k_) (fun ρ x_ r_ k_=>sel r_ (fun r_=>k_ 1 (Shape.inj jj.c100025x0 (x_.1,(14:Int),x_.2.2.1,x_.2.2.2.1,x_.2.2.2.2.1,x_.2.2.2.2.2.1,x_.2.2.2.2.2.2.1,r_,x_.2.2.2.2.2.2.2.2))) (fun r_=>k_ 5 (Shape.inj jj.c100025x1 (x_.1,x_.2.1,x_.2.2.1,x_.2.2.2.1,x_.2.2.2.2.1,x_.2.2.2.2.2.1,x_.2.2.2.2.2.2.1,r_,x_.2.2.2.2.2.2.2.2))))
def jj (o:Int×(Int×((List Int)×(Int×(Int×(List Int)))))) (t10001000:Int) (t10001001:Int) (t10001002:List (Int×(Int×((List Int)×(Int×(Int×(List Int))))))):Option (Int×Int×Int×(List (Int×(Int×((List Int)×(Int×(Int×(List Int)))))))×Unit):=
 bnd (W.jj.c1 o.1 some) fun y=>
 br y
 (some ((8:Int),t10001000,t10001001,t10001002,()))
 (bnd (W.jj.c3 o.1 o.2.1 some) fun y_1=>
 br y_1
 (some ((9:Int),t10001000,t10001001,t10001002,()))
 (bnd (W.jj.c5 o.1 o.2.2.2.1 t10001000 some) fun y_2=>
 br y_2
 (some ((10:Int),t10001000,t10001001,t10001002,()))
 (bnd (W.jj.c7 o.1 o.2.2.1 some) fun y_3=>
 br y_3
 (some ((11:Int),t10001000,t10001001,t10001002,()))
 (bnd (okIf (decide ((0:Ty.den (Ty.int IntKind.i64))≤o.2.2.2.1) && decide (o.2.2.2.1 < (↑(12:Nat):Int)))) fun y_4=>
 bnd (inR (List.length (List.replicate (12:Nat) false)) o.2.2.2.1) fun y_5=>
 bnd (idx (List.replicate (12:Nat) false) o.2.2.2.1) fun y_6=>
 bnd (iter (fun s↦W.jj.c100012 o.2.2.1 (↑(List.length o.2.2.1):Int) s.1 s.2 t10001000 some) ((0:Int),List.set (List.replicate (12:Nat) false) (Int.toNat o.2.2.2.1) true)) fun y_7=>
 sel y_7
 (fun u=>some (u.1,t10001000,t10001001,t10001002,()))
 (fun v=>bnd (W.jj.c20 o.1 o.2.2.2.2.1 t10001001 some) fun y_8=>
 br y_8
 (some ((13:Int),t10001000,t10001001,t10001002,()))
 (br (decide ((↑(List.length o.2.2.2.2.2):Int) > (24:Int)))
 (some ((14:Int),t10001000,t10001001,t10001002,()))
 (bnd (iter (fun s↦W.jj.c100025 o.2.2.2.2.2 (↑(List.length o.2.2.2.2.2):Int) s t10001001 some) (0:Int)) fun y_9=>
 sel y_9
 (fun u_1=>some ((14:Int),t10001000,t10001001,t10001002,()))
 (fun v_1=>some ((0:Int),t10001000,t10001001,t10001002,())))))))))
def jj.mc:MCallee:=⟨81,jj.pre,jj.post,fun x_=>jj x_.1 x_.2.1 x_.2.2.1 x_.2.2.2.1⟩
def jj.G:Env:=⟨156,tab,[(116,Je.ce),(117,Jl.ce)],[0,1,2,4,5,7,9,17,36,58,68,74,75,76,77,80,91,124,128,130,131,132,133,154],[5,69],[(20,[⟨[],[],[],[]⟩,⟨[0],[],[],[]⟩,⟨[1,0],[],[],[]⟩,⟨[2,1,0],[],[],[]⟩,⟨[3,2,1,0],[],[],[]⟩,⟨[4,3,2,1,0],[],[],[]⟩,⟨[5,4,3,2,1,0],[],[],[]⟩,⟨[6,5,4,3,2,1,0],[],[],[]⟩,⟨[7,6,5,4,3,2,1,0],[],[108,109,110,111],[]⟩,⟨[8,7,6,5,4,3,2,1,0],[],[108,109,110,111],[]⟩,⟨[7,6,5,4,3,2,1,0],[],[106,107],[]⟩,⟨[10,7,6,5,4,3,2,1,0],[],[106,107],[]⟩,⟨[11,10,7,6,5,4,3,2,1,0],[],[106,107],[]⟩,⟨[12,11,10,7,6,5,4,3,2,1,0],[],[106,107],[]⟩,⟨[9,8,7,6,5,4,3,2,1,0,13,12,11,10],[],[],[]⟩,⟨[7,6,5,4,3,2,1,0,14,9,8,13,12,11,10],[],[],[]⟩,⟨[3,2,1,0,15,7,6,5,4,14,9,8,13,12,11,10],[],[],[]⟩,⟨[16,3,2,1,0,15,7,6,5,4,14,9,8,13,12,11,10],[],[],[]⟩,⟨[17,16,3,2,1,0,15,7,6,5,4,14,9,8,13,12,11,10],[],[],[]⟩,⟨[18,17,16,3,2,1,0,15,7,6,5,4,14,9,8,13,12,11,10],[],[],[]⟩,⟨[19,18,17,16,3,2,1,0,15,7,6,5,4,14,9,8,13,12,11,10],[],[],[]⟩,⟨[20,19,18,17,16,3,2,1,0,15,7,6,5,4,14,9,8,13,12,11,10],[],[],[]⟩,⟨[21,20,19,18,17,16,3,2,1,0,15,7,6,5,4,14,9,8,13,12,11,10],[],[],[]⟩,⟨[22,21,20,19,18,17,16,3,2,1,0,15,7,6,5,4,14,9,8,13,12,11,10],[],[],[]⟩,⟨[23,22,21,20,19,18,17,16,3,2,1,0,15,7,6,5,4,14,9,8,13,12,11,10],[],[],[]⟩,⟨[21,20,19,18,17,16,3,2,1,0,15,7,6,5,4,14,9,8,13,12,11,10,24,23,22],[],[],[]⟩,⟨[17,16,3,2,1,0,15,7,6,5,4,14,9,8,13,12,11,10,25,21,20,19,18,24,23,22],[],[],[]⟩]),
 (5,[⟨[],[],[],[]⟩,⟨[0],[],[],[]⟩,⟨[1,0],[],[],[]⟩,⟨[2,1,0],[],[],[]⟩,⟨[3,2,1,0],[],[43,44,45,46],[]⟩,⟨[4,3,2,1,0],[],[43,44,45,46],[]⟩,⟨[3,2,1,0],[],[41,42],[]⟩,⟨[6,3,2,1,0],[],[41,42],[]⟩,⟨[7,6,3,2,1,0],[],[41,42],[]⟩,⟨[8,7,6,3,2,1,0],[],[41,42],[]⟩,⟨[5,4,3,2,1,0,9,8,7,6],[],[],[]⟩,⟨[3,2,1,0,10,5,4,9,8,7,6],[],[],[]⟩,⟨[11,3,2,1,0,10,5,4,9,8,7,6],[],[],[]⟩,⟨[12,11,3,2,1,0,10,5,4,9,8,7,6],[],[],[]⟩,⟨[13,12,11,3,2,1,0,10,5,4,9,8,7,6],[],[],[]⟩,⟨[14,13,12,11,3,2,1,0,10,5,4,9,8,7,6],[],[],[]⟩,⟨[15,14,13,12,11,3,2,1,0,10,5,4,9,8,7,6],[],[],[]⟩,⟨[16,15,14,13,12,11,3,2,1,0,10,5,4,9,8,7,6],[],[],[]⟩,⟨[17,16,15,14,13,12,11,3,2,1,0,10,5,4,9,8,7,6],[],[],[]⟩,⟨[18,17,16,15,14,13,12,11,3,2,1,0,10,5,4,9,8,7,6],[],[],[]⟩,⟨[16,15,14,13,12,11,3,2,1,0,10,5,4,9,8,7,6,19,18,17],[],[],[]⟩,⟨[12,11,3,2,1,0,10,5,4,9,8,7,6,20,16,15,14,13,19,18,17],[],[],[]⟩])],[(100025,jj.c100025r),(27,jj.c27r),(20,jj.c20r),(100012,jj.c100012r),(14,jj.c14r),(7,jj.c7r),(5,jj.c5r),(3,jj.c3r),(1,jj.c1r)],[],tab_eqs⟩
theorem jj.eq (x_:densU jj.mc.pre.tys):denM jj.G Try.f81 jj.mc.pre jj.mc.post x_=jj.mc.F x_:=by kernel_rfl
theorem jj.p0:PcA jj.G Try.f81 0:=
 region_ok (s:=jj.c1r) (by kernel_rfl) (by kernel_rfl) (sums_of (sh:=jj.c1s) (fun ρ x_ k_=>(nat_br nat_leaf nat_leaf)) (fun ρ x_ t k=>(by kernel_rfl)) (fun x_=>by kernel_rfl))
theorem jj.p1:PcA jj.G Try.f81 1:=
 region_ok (s:=jj.c3r) (by kernel_rfl) (by kernel_rfl) (sums_of (sh:=jj.c3s) (fun ρ x_ k_=>(nat_br nat_leaf (nat_br nat_leaf (nat_bnd fun _=>(nat_br nat_leaf nat_leaf))))) (fun ρ x_ t k=>(by kernel_rfl)) (fun x_=>by kernel_rfl))
theorem jj.p2:PcA jj.G Try.f81 2:=
 region_ok (s:=jj.c5r) (by kernel_rfl) (by kernel_rfl) (sums_of (sh:=jj.c5s) (fun ρ x_ k_=>(nat_br nat_leaf (nat_br nat_leaf (nat_br nat_leaf nat_leaf)))) (fun ρ x_ t k=>(by kernel_rfl)) (fun x_=>by kernel_rfl))
theorem jj.p3:PcA jj.G Try.f81 3:=
 region_ok (s:=jj.c7r) (by kernel_rfl) (by kernel_rfl) (sums_of (sh:=jj.c7s) (fun ρ x_ k_=>(nat_br (nat_bnd fun _=>nat_leaf) nat_leaf)) (fun ρ x_ t k=>(by kernel_rfl)) (fun x_=>by kernel_rfl))
theorem jj.p4:PcA jj.G Try.f81 4:=
 loop_ok (s:=jj.c100012r) (by kernel_rfl) (by kernel_rfl) (loops_of (sh:=jj.c100012s) (I:=fun x_ s_=>(x_.1,x_.2.1,x_.2.2.1,x_.2.2.2.1,s_.1,x_.2.2.2.2.2.1,x_.2.2.2.2.2.2.1,x_.2.2.2.2.2.2.2.1,x_.2.2.2.2.2.2.2.2.1,x_.2.2.2.2.2.2.2.2.2.1,x_.2.2.2.2.2.2.2.2.2.2.1,s_.2,x_.2.2.2.2.2.2.2.2.2.2.2.2)) (fun x_=>rfl) (fun ρ x_ s_ k_=>(nat_br (nat_bnd fun _=>(nat_bnd fun _=>(nat_br nat_leaf (nat_bnd fun _=>(nat_bnd fun _=>(nat_bnd fun _=>(nat_br nat_leaf (nat_bnd fun _=>(nat_bnd fun _=>(nat_bnd fun _=>nat_leaf)))))))))) nat_leaf)) (fun ρ x_ t k=>(nat_sel (fun _=>(by kernel_rfl)) (fun _=>(by kernel_rfl)))) (fun x_ s=>by kernel_rfl))
theorem jj.p5:PcA jj.G Try.f81 5:=
 region_ok (s:=jj.c14r) (by kernel_rfl) (by kernel_rfl) (sums_of (sh:=jj.c14s) (fun ρ x_ k_=>(nat_br nat_leaf nat_leaf)) (fun ρ x_ t k=>(by kernel_rfl)) (fun x_=>by kernel_rfl))
theorem jj.p6:PcA jj.G Try.f81 6:=
 region_ok (s:=jj.c20r) (by kernel_rfl) (by kernel_rfl) (sums_of (sh:=jj.c20s) (fun ρ x_ k_=>(nat_br (nat_br nat_leaf (nat_br nat_leaf (nat_br nat_leaf nat_leaf))) (nat_br nat_leaf nat_leaf))) (fun ρ x_ t k=>(by kernel_rfl)) (fun x_=>by kernel_rfl))
theorem jj.p7:PcA jj.G Try.f81 7:=
 loop_ok (s:=jj.c100025r) (by kernel_rfl) (by kernel_rfl) (loops_of (sh:=jj.c100025s) (I:=fun x_ s_=>(x_.1,x_.2.1,x_.2.2.1,x_.2.2.2.1,x_.2.2.2.2.1,x_.2.2.2.2.2.1,x_.2.2.2.2.2.2.1,s_,x_.2.2.2.2.2.2.2.2)) (fun x_=>rfl) (fun ρ x_ s_ k_=>(nat_br (nat_bnd fun _=>(nat_bnd fun _=>(nat_br nat_leaf nat_leaf))) nat_leaf)) (fun ρ x_ t k=>(nat_sel (fun _=>(by kernel_rfl)) (fun _=>(by kernel_rfl)))) (fun x_ s=>by kernel_rfl))
theorem jj.p8:PcA jj.G Try.f81 8:=
 region_ok (s:=jj.c27r) (by kernel_rfl) (by kernel_rfl) (sums_of (sh:=jj.c27s) (fun ρ x_ k_=>(nat_br nat_leaf (nat_br nat_leaf nat_leaf))) (fun ρ x_ t k=>(by kernel_rfl)) (fun x_=>by kernel_rfl))
theorem jj.ok:MOk Try.prog 81 jj.mc:=fnm_ok (G:=jj.G) tab_ok mixed Try.func81 ⟨(fns_cons Je.ok (fns_cons Jl.ok fns_nil)),mfns_nil,tab_eqs_ok⟩ (m:=9) (by kernel_rfl) ⟨⟨⟨⟨⟨⟨⟨⟨⟨trivial,jj.p0⟩,jj.p1⟩,jj.p2⟩,jj.p3⟩,jj.p4⟩,jj.p5⟩,jj.p6⟩,jj.p7⟩,jj.p8⟩ (by kernel_rfl) jj.eq
abbrev tb38:SD:=.one (.val (.st (.pair (.int .i64) (.pair (.int .i64) (.sl (.st (.pair (.int .i64) (.pair (.int .i64) (.pair (.sl (.int .i64)) (.pair (.int .i64) (.pair (.int .i64) (.sl (.int .i64)))))))))))))
def jv.c1 {ρ:Type} (c0:Int) (k_:Bool→Option ρ):Option ρ:=
 br (decide (c0 < (1:Int)))
 (k_ true)
 (k_ (decide (c0 > (12:Int))))
def jv.c1s:Shape:=⟨[(0,tb38),(1,tb1),(2,tb2)],[(1,tb34),(2,tb19)]⟩
def jv.c1x0:Shape:=⟨[(0,tb38),(1,tb1),(2,tb2),(6,tb7)],[(1,tb34),(2,tb19)]⟩
def jv.c1r:Ck:=Ck.of (T:=Bool) jv.c1s (fun ρ x_ k_=>jv.c1 x_.2.1 k_) (fun ρ x_ r_ k_=>k_ 0 (Shape.inj jv.c1x0 (x_.1,r_,x_.2)))
def jv.c3 {ρ:Type} (c1:Int) (k_:Bool→Option ρ):Option ρ:=
 br (decide (c1 < (0:Int)))
 (k_ true)
 (k_ (decide (c1 > (12:Int))))
def jv.c3s:Shape:=jv.c1s
def jv.c3x0:Shape:=⟨[(0,tb38),(1,tb1),(2,tb2),(16,tb7)],[(1,tb34),(2,tb19)]⟩
def jv.c3r:Ck:=Ck.of (T:=Bool) jv.c3s (fun ρ x_ k_=>jv.c3 x_.2.2.1 k_) (fun ρ x_ r_ k_=>k_ 0 (Shape.inj jv.c3x0 (x_.1,r_,x_.2)))
def jv.c100008 {ρ:Type} (t33:List (Int×(Int×((List Int)×(Int×(Int×(List Int))))))) (t34:Int) (t35:Int) (c0:Int) (c1:Int) (c2:List (Int×(Int×((List Int)×(Int×(Int×(List Int))))))) (k_:(Int×Int×Int×(List (Int×(Int×((List Int)×(Int×(Int×(List Int))))))))⊕((Int×Int×Int×(List (Int×(Int×((List Int)×(Int×(Int×(List Int)))))))×Int×Int)⊕(Int×Int×Int×(List (Int×(Int×((List Int)×(Int×(Int×(List Int)))))))))→Option ρ):Option ρ:=
 br (decide (t35 < t34))
 (bnd (idx t33 t35) fun y=>
 bnd (W.jj (y.1,y.2.1,y.2.2.1,y.2.2.2.1,y.2.2.2.2.1,y.2.2.2.2.2) c0 c1 c2) fun y_1=>
 br (y_1.1 != (0:Int))
 (bnd (W.Jt y_1.1 t35) fun y_2=>
 k_ (.inr (.inl (t35,y_1.2.1,y_1.2.2.1,y_1.2.2.2.1,y_2.1,y_2.2))))
 (k_ (.inl ((IntKind.wrap IntKind.i64 (t35+(1:Int))),y_1.2.1,y_1.2.2.1,y_1.2.2.2.1))))
 (k_ (.inr (.inr (t35,c0,c1,c2))))
def jv.c100008s:Shape:=⟨[(0,tb38),(1,tb1),(2,tb2),(33,tb31),(34,tb5),(35,tb5)],[(1,tb34),(2,tb19)]⟩
def jv.c100008x0:Shape:=jv.c100008s
def jv.c100008x1:Shape:=jv.c100008s
def jv.c100008r:Ck:=Ck.ofLoop (S:=Int×Int×Int×(List (Int×(Int×((List Int)×(Int×(Int×(List Int)))))))) (T:=(Int×Int×Int×(List (Int×(Int×((List Int)×(Int×(Int×(List Int)))))))×Int×Int)⊕(Int×Int×Int×(List (Int×(Int×((List Int)×(Int×(Int×(List Int))))))))) jv.c100008s (fun x_=>(x_.2.2.2.1,x_.2.2.2.2.1,x_.2.2.2.2.2.1,x_.2.2.2.2.2.2.1)) (fun ρ x_ s_ k_=>jv.c100008 x_.2.1 x_.2.2.1 s_.1 s_.2.1 s_.2.2.1 s_.2.2.2 k_) (fun ρ x_ r_ k_=>sel r_ (fun r_=>k_ 1 (Shape.inj jv.c100008x0 (x_.1,x_.2.1,x_.2.2.1,r_.1,r_.2.1,r_.2.2.1,r_.2.2.2.1,r_.2.2.2.2.1,r_.2.2.2.2.2,()))) (fun r_=>k_ 3 (Shape.inj jv.c100008x1 (x_.1,x_.2.1,x_.2.2.1,r_.1,r_.2.1,r_.2.2.1,r_.2.2.2,x_.2.2.2.2.2.2.2))))
def jv (c:Int×(Int×(List (Int×(Int×((List Int)×(Int×(Int×(List Int))))))))):Option (Int×Int):=
 bnd (W.jv.c1 c.1 some) fun y=>
 br y
 (bnd (W.Jt (6:Int) (0:Int)) fun y_1=>
 some (y_1.1,y_1.2))
 (bnd (W.jv.c3 c.2.1 some) fun y_2=>
 br y_2
 (bnd (W.Jt (7:Int) (0:Int)) fun y_3=>
 some (y_3.1,y_3.2))
 (br (decide ((↑(List.length c.2.2):Int) > (4096:Int)))
 (bnd (W.Jt (2:Int) (0:Int)) fun y_4=>
 some (y_4.1,y_4.2))
 (bnd (iter (fun s↦W.jv.c100008 c.2.2 (↑(List.length c.2.2):Int) s.1 s.2.1 s.2.2.1 s.2.2.2 some) ((0:Int),c.1,c.2.1,c.2.2)) fun y_5=>
 sel y_5
 (fun u=>some (u.2.2.2.2.1,u.2.2.2.2.2))
 (fun v=>some ((0:Int),(0:Int))))))
def jv.ce:Go.Ql.Callee:=⟨[(.st (.pair (.int .i64) (.pair (.int .i64) (.sl (.st (.pair (.int .i64) (.pair (.int .i64) (.pair (.sl (.int .i64)) (.pair (.int .i64) (.pair (.int .i64) (.sl (.int .i64))))))))))))],[(.st (.pair (.int .i64) (.int .i64)))],fun x_=>jv x_⟩
def jv.G:Env:=⟨49,tab,[(80,Jt.ce)],[0,1,2,3,4,5,6,16,26,33,34,35,36,43],[],[],[(100008,jv.c100008r),(3,jv.c3r),(1,jv.c1r)],[(81,jj.mc)],tab_eqs⟩
theorem jv.eq (x_:dens jv.ce.params):den jv.G Try.f36 jv.ce.params jv.ce.res x_=jv.ce.F x_:=by kernel_rfl
theorem jv.p0:PcA jv.G Try.f36 0:=
 region_ok (s:=jv.c1r) (by kernel_rfl) (by kernel_rfl) (sums_of (sh:=jv.c1s) (fun ρ x_ k_=>(nat_br nat_leaf nat_leaf)) (fun ρ x_ t k=>(by kernel_rfl)) (fun x_=>by kernel_rfl))
theorem jv.p1:PcA jv.G Try.f36 1:=
 region_ok (s:=jv.c3r) (by kernel_rfl) (by kernel_rfl) (sums_of (sh:=jv.c3s) (fun ρ x_ k_=>(nat_br nat_leaf nat_leaf)) (fun ρ x_ t k=>(by kernel_rfl)) (fun x_=>by kernel_rfl))
theorem jv.p2:PcA jv.G Try.f36 2:=
 loop_ok (s:=jv.c100008r) (by kernel_rfl) (by kernel_rfl) (loops_of (sh:=jv.c100008s) (I:=fun x_ s_=>(x_.1,x_.2.1,x_.2.2.1,s_.1,s_.2.1,s_.2.2.1,s_.2.2.2,x_.2.2.2.2.2.2.2)) (fun x_=>rfl) (fun ρ x_ s_ k_=>(nat_br (nat_bnd fun _=>(nat_bnd fun _=>(nat_br (nat_bnd fun _=>nat_leaf) nat_leaf))) nat_leaf)) (fun ρ x_ t k=>(nat_sel (fun _=>(by kernel_rfl)) (fun _=>(by kernel_rfl)))) (fun x_ s=>by kernel_rfl))
theorem jv.ok:CalleeOk Try.prog 36 jv.ce:=fn_ok (G:=jv.G) tab_ok mixed Try.func36 ⟨(fns_cons Jt.ok fns_nil),(mfns_cons jj.ok mfns_nil),tab_eqs_ok⟩ (m:=3) (by kernel_rfl) ⟨⟨⟨trivial,jv.p0⟩,jv.p1⟩,jv.p2⟩ (by kernel_rfl) jv.eq
abbrev tb39:SD:=.one (.ref 5 0)
def jK.c7 {ρ:Type} (o0:Int) (o5:List Int) (k_:Bool→Option ρ):Option ρ:=
 br (o0 == (5:Int))
 (k_ true)
 (br (o0 == (6:Int))
 (k_ true)
 (k_ (decide ((↑(List.length o5):Int) > (0:Int)))))
def jK.c7s:Shape:=⟨[(0,tb38),(1,tb1),(2,tb2),(3,tb12),(4,tb5),(5,tb39),(13,tb31),(14,tb5),(15,tb5)],[(1,tb34),(2,tb19),(3,tb19),(5,tb26)]⟩
def jK.c7x0:Shape:=⟨[(0,tb38),(1,tb1),(2,tb2),(3,tb12),(4,tb5),(5,tb39),(13,tb31),(14,tb5),(15,tb5),(33,tb7)],[(1,tb34),(2,tb19),(3,tb19),(5,tb26)]⟩
def jK.c7r:Ck:=Ck.of (T:=Bool) jK.c7s (fun ρ x_ k_=>jK.c7 x_.2.2.2.2.2.2.2.2.2.2.2.2.1 x_.2.2.2.2.2.2.2.2.2.2.2.2.2.2.2.2.2.1 k_) (fun ρ x_ r_ k_=>k_ 0 (Shape.inj jK.c7x0 (x_.1,x_.2.1,x_.2.2.1,x_.2.2.2.1,x_.2.2.2.2.1,r_,x_.2.2.2.2.2)))
def jK.c100005 {ρ:Type} (t13:List (Int×(Int×((List Int)×(Int×(Int×(List Int))))))) (t14:Int) (t15:Int) (k_:Int⊕((Int×Int×Int)⊕Int)→Option ρ):Option ρ:=
 br (decide (t15 < t14))
 (bnd (idx t13 t15) fun y=>
 bnd (W.jK.c7 y.1 y.2.2.2.2.2 some) fun y_1=>
 br y_1
 (bnd (W.Jt (15:Int) t15) fun y_2=>
 k_ (.inr (.inl (t15,y_2.1,y_2.2))))
 (k_ (.inl (IntKind.wrap IntKind.i64 (t15+(1:Int))))))
 (k_ (.inr (.inr t15)))
def jK.c100005s:Shape:=⟨[(0,tb38),(1,tb1),(2,tb2),(3,tb12),(13,tb31),(14,tb5),(15,tb5)],[(1,tb34),(2,tb19),(3,tb19)]⟩
def jK.c100005x0:Shape:=jK.c100005s
def jK.c100005x1:Shape:=jK.c100005s
def jK.c100005r:Ck:=Ck.ofLoop (S:=Int) (T:=(Int×Int×Int)⊕Int) jK.c100005s (fun x_=>x_.2.2.2.1) (fun ρ x_ s_ k_=>jK.c100005 x_.2.1 x_.2.2.1 s_ k_) (fun ρ x_ r_ k_=>sel r_ (fun r_=>k_ 1 (Shape.inj jK.c100005x0 (x_.1,x_.2.1,x_.2.2.1,r_.1,x_.2.2.2.2.1,x_.2.2.2.2.2.1,x_.2.2.2.2.2.2.1,r_.2.1,r_.2.2,x_.2.2.2.2.2.2.2.2.2))) (fun r_=>k_ 2 (Shape.inj jK.c100005x1 (x_.1,x_.2.1,x_.2.2.1,r_,x_.2.2.2.2))))
def jK (c:Int×(Int×(List (Int×(Int×((List Int)×(Int×(Int×(List Int))))))))):Option (Int×Int):=
 bnd (W.jv (c.1,c.2.1,c.2.2)) fun y=>
 br (y.1 != (0:Int))
 (some (y.1,y.2))
 (bnd (iter (fun s↦W.jK.c100005 c.2.2 (↑(List.length c.2.2):Int) s some) (0:Int)) fun y_1=>
 sel y_1
 (fun u=>some (u.2.1,u.2.2))
 (fun v=>some ((0:Int),(0:Int))))
def jK.ce:Go.Ql.Callee:=⟨[(.st (.pair (.int .i64) (.pair (.int .i64) (.sl (.st (.pair (.int .i64) (.pair (.int .i64) (.pair (.sl (.int .i64)) (.pair (.int .i64) (.pair (.int .i64) (.sl (.int .i64))))))))))))],[(.st (.pair (.int .i64) (.int .i64)))],fun x_=>jK x_⟩
def jK.G:Env:=⟨38,tab,[(36,jv.ce),(80,Jt.ce)],[0,1,2,3,4,5,10,13,14,15,16,33],[],[],[(100005,jK.c100005r),(7,jK.c7r)],[],tab_eqs⟩
theorem jK.eq (x_:dens jK.ce.params):den jK.G Try.f101 jK.ce.params jK.ce.res x_=jK.ce.F x_:=by kernel_rfl
theorem jK.p0:PcA jK.G Try.f101 0:=
 loop_ok (s:=jK.c100005r) (by kernel_rfl) (by kernel_rfl) (loops_of (sh:=jK.c100005s) (I:=fun x_ s_=>(x_.1,x_.2.1,x_.2.2.1,s_,x_.2.2.2.2)) (fun x_=>rfl) (fun ρ x_ s_ k_=>(nat_br (nat_bnd fun _=>(nat_bnd fun _=>(nat_br (nat_bnd fun _=>nat_leaf) nat_leaf))) nat_leaf)) (fun ρ x_ t k=>(nat_sel (fun _=>(by kernel_rfl)) (fun _=>(by kernel_rfl)))) (fun x_ s=>by kernel_rfl))
theorem jK.p1:PcA jK.G Try.f101 1:=
 region_ok (s:=jK.c7r) (by kernel_rfl) (by kernel_rfl) (sums_of (sh:=jK.c7s) (fun ρ x_ k_=>(nat_br nat_leaf (nat_br nat_leaf nat_leaf))) (fun ρ x_ t k=>(by kernel_rfl)) (fun x_=>by kernel_rfl))
theorem jK.ok:CalleeOk Try.prog 101 jK.ce:=fn_ok (G:=jK.G) tab_ok mixed Try.func101 ⟨(fns_cons jv.ok (fns_cons Jt.ok fns_nil)),mfns_nil,tab_eqs_ok⟩ (m:=2) (by kernel_rfl) ⟨⟨trivial,jK.p0⟩,jK.p1⟩ (by kernel_rfl) jK.eq
def Jj (s:List Int):Option (List Int):=
 br (List.isEmpty s)
 (both
 (some [])
 (bnd (okIf (decide (((0:Nat)+List.length s)*(8:Nat)≤(140737488355328:Nat)) && decide ((0:Nat)+List.length s≤(140737488355328:Nat)))) fun y=>
 some s))
 (bnd (okIf (decide (((0:Nat)+List.length s)*(8:Nat)≤(140737488355328:Nat)) && decide ((0:Nat)+List.length s≤(140737488355328:Nat)))) fun y_1=>
 some s)
def Jj.ce:Go.Ql.Callee:=⟨[(.sl (.int .i64))],[(.sl (.int .i64))],fun x_=>Jj x_⟩
def Jj.G:Env:=⟨8,tab,[],[0,2,4],[5],[],[],[],tab_eqs⟩
theorem Jj.eq (x_:dens Jj.ce.params):den Jj.G Try.f139 Jj.ce.params Jj.ce.res x_=Jj.ce.F x_:=by kernel_rfl
theorem Jj.ok:CalleeOk Try.prog 139 Jj.ce:=fn_ok (G:=Jj.G) tab_ok mixed Try.func139 ⟨fns_nil,mfns_nil,tab_eqs_ok⟩ (m:=0) (by kernel_rfl) trivial (by kernel_rfl) Jj.eq
def jX.c1 {ρ:Type} (o2:List Int) (o5:List Int) (k_:(List Int)×(List Int)→Option ρ):Option ρ:=
 bnd (W.Jj o2) fun y=>
 bnd (W.Jj o5) fun y_1=>
 k_ (y,y_1)
def jX.c1s:Shape:=⟨[(0,tb25),(1,tb1),(2,tb2)],[(1,tb26),(2,tb26)]⟩
def jX.c1x0:Shape:=jX.c1s
def jX.c1r:Ck:=Ck.of (T:=(List Int)×(List Int)) jX.c1s (fun ρ x_ k_=>jX.c1 x_.2.2.2.1 x_.2.2.2.2.2.2.1 k_) (fun ρ x_ r_ k_=>k_ 0 (Shape.inj jX.c1x0 (x_.1,x_.2.1,x_.2.2.1,r_.1,x_.2.2.2.2.1,x_.2.2.2.2.2.1,r_.2,x_.2.2.2.2.2.2.2)))
def jX (o:Int×(Int×((List Int)×(Int×(Int×(List Int)))))):Option (Int×(Int×((List Int)×(Int×(Int×(List Int)))))):=
 bnd (W.jX.c1 o.2.2.1 o.2.2.2.2.2 some) fun y=>
 some (o.1,o.2.1,y.1,o.2.2.2.1,o.2.2.2.2.1,y.2)
def jX.ce:Go.Ql.Callee:=⟨[(.st (.pair (.int .i64) (.pair (.int .i64) (.pair (.sl (.int .i64)) (.pair (.int .i64) (.pair (.int .i64) (.sl (.int .i64))))))))],[(.st (.pair (.int .i64) (.pair (.int .i64) (.pair (.sl (.int .i64)) (.pair (.int .i64) (.pair (.int .i64) (.sl (.int .i64))))))))],fun x_=>jX x_⟩
def jX.G:Env:=⟨12,tab,[(139,Jj.ce)],[0,1,2],[],[(1,[⟨[],[],[6,7],[]⟩,⟨[0],[],[6,7],[]⟩,⟨[1,0],[],[6,7],[]⟩,⟨[],[],[3,4,5],[]⟩,⟨[3],[],[3,4,5],[]⟩,⟨[4,3,2,1,0],[],[9],[]⟩,⟨[0,1,2,3,4],[],[8],[]⟩,⟨[6,0,1,2,3,4,5],[1],[],[]⟩,⟨[0,1,2,3,4,5,6,7],[],[],[]⟩,⟨[8,0,1,2,3,4,5,6,7],[1],[],[]⟩])],[(1,jX.c1r)],[],tab_eqs⟩
theorem jX.eq (x_:dens jX.ce.params):den jX.G Try.f129 jX.ce.params jX.ce.res x_=jX.ce.F x_:=by kernel_rfl
theorem jX.p0:PcA jX.G Try.f129 0:=
 region_ok (s:=jX.c1r) (by kernel_rfl) (by kernel_rfl) (sums_of (sh:=jX.c1s) (fun ρ x_ k_=>(nat_bnd fun _=>(nat_bnd fun _=>nat_leaf))) (fun ρ x_ t k=>(by kernel_rfl)) (fun x_=>by kernel_rfl))
theorem jX.ok:CalleeOk Try.prog 129 jX.ce:=fn_ok (G:=jX.G) tab_ok mixed Try.func129 ⟨(fns_cons Jj.ok fns_nil),mfns_nil,tab_eqs_ok⟩ (m:=1) (by kernel_rfl) ⟨trivial,jX.p0⟩ (by kernel_rfl) jX.eq
def Jq (o:Int×(Int×((List Int)×(Int×(Int×(List Int)))))):Option (Int×(Int×((List Int)×(Int×(Int×(List Int)))))):=
 some (o.1,Int.tmod (IntKind.wrap IntKind.i64 ((16:Int) - o.2.1)) (16:Int),o.2.2.1,o.2.2.2.1,o.2.2.2.2.1,o.2.2.2.2.2)
def Jq.ce:Go.Ql.Callee:=⟨[(.st (.pair (.int .i64) (.pair (.int .i64) (.pair (.sl (.int .i64)) (.pair (.int .i64) (.pair (.int .i64) (.sl (.int .i64))))))))],[(.st (.pair (.int .i64) (.pair (.int .i64) (.pair (.sl (.int .i64)) (.pair (.int .i64) (.pair (.int .i64) (.sl (.int .i64))))))))],fun x_=>Jq x_⟩
def Jq.G:Env:=⟨9,tab,[],[0,1,2],[],[],[],[],tab_eqs⟩
theorem Jq.eq (x_:dens Jq.ce.params):den Jq.G Try.f103 Jq.ce.params Jq.ce.res x_=Jq.ce.F x_:=by kernel_rfl
theorem Jq.ok:CalleeOk Try.prog 103 Jq.ce:=fn_ok (G:=Jq.G) tab_ok mixed Try.func103 ⟨fns_nil,mfns_nil,tab_eqs_ok⟩ (m:=0) (by kernel_rfl) trivial (by kernel_rfl) Jq.eq
abbrev tb40:SD:=.one (.fn 103)
abbrev tb41:SD:=.agg [.val (.int .i64),.val (.int .i64),.own 2 0]
abbrev tb42:SD:=.one (.ref 7 0)
abbrev tb43:SO:=.box [.val (.int .i64),.val (.int .i64),.own 3004 0]
abbrev tb44:SO:=.box [.val (.int .i64),.val (.int .i64),.own 3005 0]
def js.pre:Shape:=⟨[(0,tb38),(1,tb40)],[]⟩
def js.post:Shape:=⟨[(0,tb41)],[(2,tb30)]⟩
def js.c5 {ρ:Type} (o0:Int) (o1:Int) (o2:List Int) (o3:Int) (o4:Int) (o5:List Int) (t3005:List (Int×(Int×((List Int)×(Int×(Int×(List Int))))))) (k_:List (Int×(Int×((List Int)×(Int×(Int×(List Int))))))→Option ρ):Option ρ:=
 bnd (W.jX (o0,o1,o2,o3,o4,o5)) fun y=>
 bnd (W.Jq y) fun y_1=>
 bnd (okIf (decide ((List.length t3005+(1:Nat))*(80:Nat)≤(140737488355328:Nat)) && decide (List.length t3005+(1:Nat)≤(140737488355328:Nat)))) fun y_2=>
 k_ (t3005++[y_1])
def js.c5s:Shape:=⟨[(0,tb38),(1,tb40),(2,tb2),(4,tb6),(5,tb39),(7,tb42),(14,tb31),(15,tb5),(16,tb5)],[(2,tb34),(4,tb43),(5,tb44),(7,tb26),(3004,tb30),(3005,tb30)]⟩
def js.c5x0:Shape:=js.c5s
def js.c5r:Ck:=Ck.of (T:=List (Int×(Int×((List Int)×(Int×(Int×(List Int))))))) js.c5s (fun ρ x_ k_=>js.c5 x_.2.2.2.2.2.2.2.2.2.2.2.1 x_.2.2.2.2.2.2.2.2.2.2.2.2.1 x_.2.2.2.2.2.2.2.2.2.2.2.2.2.1 x_.2.2.2.2.2.2.2.2.2.2.2.2.2.2.1 x_.2.2.2.2.2.2.2.2.2.2.2.2.2.2.2.1 x_.2.2.2.2.2.2.2.2.2.2.2.2.2.2.2.2.1 x_.2.2.2.2.2.2.2.2.2.2.2.2.2.2.2.2.2.2.1 k_) (fun ρ x_ r_ k_=>k_ 0 (Shape.inj js.c5x0 (x_.1,x_.2.1,x_.2.2.1,x_.2.2.2.1,x_.2.2.2.2.1,x_.2.2.2.2.2.1,x_.2.2.2.2.2.2.1,x_.2.2.2.2.2.2.2.1,x_.2.2.2.2.2.2.2.2.1,x_.2.2.2.2.2.2.2.2.2.1,x_.2.2.2.2.2.2.2.2.2.2.1,x_.2.2.2.2.2.2.2.2.2.2.2.1,x_.2.2.2.2.2.2.2.2.2.2.2.2.1,x_.2.2.2.2.2.2.2.2.2.2.2.2.2.1,x_.2.2.2.2.2.2.2.2.2.2.2.2.2.2.1,x_.2.2.2.2.2.2.2.2.2.2.2.2.2.2.2.1,x_.2.2.2.2.2.2.2.2.2.2.2.2.2.2.2.2.1,x_.2.2.2.2.2.2.2.2.2.2.2.2.2.2.2.2.2.1,r_,())))
def js.c100003 {ρ:Type} (t14:List (Int×(Int×((List Int)×(Int×(Int×(List Int))))))) (t15:Int) (t16:Int) (t3005:List (Int×(Int×((List Int)×(Int×(Int×(List Int))))))) (k_:(Int×(List (Int×(Int×((List Int)×(Int×(Int×(List Int))))))))⊕(Int×(List (Int×(Int×((List Int)×(Int×(Int×(List Int))))))))→Option ρ):Option ρ:=
 br (decide (t16 < t15))
 (bnd (idx t14 t16) fun y=>
 bnd (W.js.c5 y.1 y.2.1 y.2.2.1 y.2.2.2.1 y.2.2.2.2.1 y.2.2.2.2.2 t3005 some) fun y_1=>
 k_ (.inl ((IntKind.wrap IntKind.i64 (t16+(1:Int))),y_1)))
 (k_ (.inr (t16,t3005)))
def js.c100003s:Shape:=⟨[(0,tb38),(1,tb40),(2,tb2),(4,tb6),(5,tb39),(14,tb31),(15,tb5),(16,tb5)],[(2,tb34),(4,tb43),(5,tb44),(3004,tb30),(3005,tb30)]⟩
def js.c100003x0:Shape:=js.c100003s
def js.c100003r:Ck:=Ck.ofLoop (S:=Int×(List (Int×(Int×((List Int)×(Int×(Int×(List Int)))))))) (T:=Int×(List (Int×(Int×((List Int)×(Int×(Int×(List Int)))))))) js.c100003s (fun x_=>(x_.2.2.2.1,x_.2.2.2.2.2.2.2.2.2.2.2.2.1)) (fun ρ x_ s_ k_=>js.c100003 x_.2.1 x_.2.2.1 s_.1 s_.2 k_) (fun ρ x_ r_ k_=>k_ 2 (Shape.inj js.c100003x0 (x_.1,x_.2.1,x_.2.2.1,r_.1,x_.2.2.2.2.1,x_.2.2.2.2.2.1,x_.2.2.2.2.2.2.1,x_.2.2.2.2.2.2.2.1,x_.2.2.2.2.2.2.2.2.1,x_.2.2.2.2.2.2.2.2.2.1,x_.2.2.2.2.2.2.2.2.2.2.1,x_.2.2.2.2.2.2.2.2.2.2.2.1,r_.2,())))
def js (c:Int×(Int×(List (Int×(Int×((List Int)×(Int×(Int×(List Int))))))))):Option (Int×Int×(List (Int×(Int×((List Int)×(Int×(Int×(List Int)))))))×Unit):=
 bnd (iter (fun s↦W.js.c100003 c.2.2 (↑(List.length c.2.2):Int) s.1 s.2 some) ((0:Int),[])) fun y=>
 some (c.1,c.2.1,y.2,())
def js.mc:MCallee:=⟨102,js.pre,js.post,fun x_=>js x_.1⟩
def js.G:Env:=⟨31,tab,[(129,jX.ce),(103,Jq.ce)],[0,1,2,4,5,7,14,15,16,17],[2,4,5,12,3002,3004,3005],[(5,[⟨[],[],[22,23,24,25,26],[26]⟩,⟨[0],[],[22,23,24,25,26],[26]⟩,⟨[],[],[20,21,23,24],[]⟩,⟨[],[],[20,21,22],[]⟩,⟨[3],[],[20,21,22],[]⟩,⟨[2,4,3],[],[20,21],[]⟩,⟨[5,2,4,3],[26],[20,21],[]⟩,⟨[1,0,6,5,2,4,3],[3005],[],[]⟩,⟨[0,1,2,3,4,5,6,7],[],[],[]⟩,⟨[8,0,1,2,3,4,5,6,7],[5],[],[]⟩])],[(100003,js.c100003r),(5,js.c5r)],[],tab_eqs⟩
theorem js.eq (x_:densU js.mc.pre.tys):denM js.G Try.f102 js.mc.pre js.mc.post x_=js.mc.F x_:=by kernel_rfl
theorem js.p0:PcA js.G Try.f102 0:=
 loop_ok (s:=js.c100003r) (by kernel_rfl) (by kernel_rfl) (loops_of (sh:=js.c100003s) (I:=fun x_ s_=>(x_.1,x_.2.1,x_.2.2.1,s_.1,x_.2.2.2.2.1,x_.2.2.2.2.2.1,x_.2.2.2.2.2.2.1,x_.2.2.2.2.2.2.2.1,x_.2.2.2.2.2.2.2.2.1,x_.2.2.2.2.2.2.2.2.2.1,x_.2.2.2.2.2.2.2.2.2.2.1,x_.2.2.2.2.2.2.2.2.2.2.2.1,s_.2,())) (fun x_=>rfl) (fun ρ x_ s_ k_=>(nat_br (nat_bnd fun _=>(nat_bnd fun _=>nat_leaf)) nat_leaf)) (fun ρ x_ t k=>(by kernel_rfl)) (fun x_ s=>by kernel_rfl))
theorem js.p1:PcA js.G Try.f102 1:=
 region_ok (s:=js.c5r) (by kernel_rfl) (by kernel_rfl) (sums_of (sh:=js.c5s) (fun ρ x_ k_=>(nat_bnd fun _=>(nat_bnd fun _=>(nat_bnd fun _=>nat_leaf)))) (fun ρ x_ t k=>(by kernel_rfl)) (fun x_=>by kernel_rfl))
theorem js.ok:MOk Try.prog 102 js.mc:=fnm_ok (G:=js.G) tab_ok mixed Try.func102 ⟨(fns_cons jX.ok (fns_cons Jq.ok fns_nil)),mfns_nil,tab_eqs_ok⟩ (m:=2) (by kernel_rfl) ⟨⟨trivial,js.p0⟩,js.p1⟩ (by kernel_rfl) js.eq
def jo.pre:Shape:=⟨[(0,tb14)],[(2000000,tb30)]⟩
def jo.post:Shape:=⟨[],[(2000000,tb30)]⟩
def jo.c3 {ρ:Type} (i:Int) (j:Int) (t2000000:List (Int×(Int×((List Int)×(Int×(Int×(List Int))))))) (k_:List (Int×(Int×((List Int)×(Int×(Int×(List Int))))))→Option ρ):Option ρ:=
 bnd (inR (List.length t2000000) j) fun y=>
 bnd (idx t2000000 j) fun y_1=>
 bnd (inR (List.length t2000000) i) fun y_2=>
 bnd (idx t2000000 i) fun y_3=>
 bnd (inR (List.length t2000000) i) fun y_4=>
 bnd (idx t2000000 i) fun y_5=>
 bnd (inR (List.length (List.set t2000000 (Int.toNat i) y_1)) j) fun y_6=>
 bnd (idx (List.set t2000000 (Int.toNat i) y_1) j) fun y_7=>
 k_ (List.set (List.set t2000000 (Int.toNat i) y_1) (Int.toNat j) y_3)
def jo.c3s:Shape:=⟨[(0,tb14),(2,tb5),(3,tb5)],[(2000000,tb30)]⟩
def jo.c3x0:Shape:=jo.c3s
def jo.c3r:Ck:=Ck.of (T:=List (Int×(Int×((List Int)×(Int×(Int×(List Int))))))) jo.c3s (fun ρ x_ k_=>jo.c3 x_.1 x_.2.1 x_.2.2.1 k_) (fun ρ x_ r_ k_=>k_ 0 (Shape.inj jo.c3x0 (x_.1,x_.2.1,r_,())))
def jo.c100001 {ρ:Type} (i:Int) (j:Int) (t2000000:List (Int×(Int×((List Int)×(Int×(Int×(List Int))))))) (k_:(Int×Int×(List (Int×(Int×((List Int)×(Int×(Int×(List Int))))))))⊕(Int×Int×(List (Int×(Int×((List Int)×(Int×(Int×(List Int))))))))→Option ρ):Option ρ:=
 br (decide (i < j))
 (bnd (W.jo.c3 i j t2000000 some) fun y=>
 k_ (.inl ((IntKind.wrap IntKind.i64 (i+(1:Int))),(IntKind.wrap IntKind.i64 (j - (1:Int))),y)))
 (k_ (.inr (i,j,t2000000)))
def jo.c100001s:Shape:=jo.c3s
def jo.c100001x0:Shape:=jo.c3s
def jo.c100001r:Ck:=Ck.ofLoop (S:=Int×Int×(List (Int×(Int×((List Int)×(Int×(Int×(List Int)))))))) (T:=Int×Int×(List (Int×(Int×((List Int)×(Int×(Int×(List Int)))))))) jo.c100001s (fun x_=>(x_.1,x_.2.1,x_.2.2.1)) (fun ρ x_ s_ k_=>jo.c100001 s_.1 s_.2.1 s_.2.2 k_) (fun ρ x_ r_ k_=>k_ 2 (Shape.inj jo.c100001x0 (r_.1,r_.2.1,r_.2.2,())))
def jo (t2000000:List (Int×(Int×((List Int)×(Int×(Int×(List Int))))))):Option ((List (Int×(Int×((List Int)×(Int×(Int×(List Int)))))))×Unit):=
 bnd (iter (fun s↦W.jo.c100001 s.1 s.2.1 s.2.2 some) ((0:Int),IntKind.wrap IntKind.i64 ((↑(List.length t2000000):Int) - (1:Int)),t2000000)) fun y=>
 some (y.2.2,())
def jo.mc:MCallee:=⟨104,jo.pre,jo.post,fun x_=>jo x_.1⟩
def jo.G:Env:=⟨28,tab,[],[0,2,3,9],[2000000],[(3,[⟨[],[],[15,16,17,18,19,20,21,22,23,24,25],[]⟩,⟨[],[],[14,16,17,18,19,20,21,22,23,24,25],[]⟩,⟨[],[],[14,15,17,18,19,20,21,22,23,24,25,26],[2000000]⟩,⟨[],[],[14,15,16,18,19,20,21,22,23,24,25,26],[2000000]⟩,⟨[],[],[14,15,16,17,19,22,23,24,25],[]⟩,⟨[],[],[14,15,16,17,18,22,23,24,25],[]⟩,⟨[4,5],[],[14,15,16,17,22,23,24,25],[]⟩,⟨[6,4,5],[],[14,15,16,17,22,23,24,25],[]⟩,⟨[],[],[14,15,16,17,18,19,20,21,23],[]⟩,⟨[],[],[14,15,16,17,18,19,20,21,22],[]⟩,⟨[8,9],[],[14,15,16,17,18,19,20,21],[]⟩,⟨[10,8,9],[],[14,15,16,17,18,19,20,21],[]⟩,⟨[0,1,4,5,6,7,11,10,8,9],[],[16,17],[]⟩,⟨[12,0,1,4,5,6,7,11,10,8,9],[2000000],[16,17],[]⟩,⟨[2,3,0,1,4,5,6,7,8,9,10,11,12,13],[],[],[]⟩,⟨[14,2,3,0,1,4,5,6,7,8,9,10,11,12,13],[2000000],[],[]⟩])],[(100001,jo.c100001r),(3,jo.c3r)],[],tab_eqs⟩
theorem jo.eq (x_:densU jo.mc.pre.tys):denM jo.G Try.f104 jo.mc.pre jo.mc.post x_=jo.mc.F x_:=by kernel_rfl
theorem jo.p0:PcA jo.G Try.f104 0:=
 loop_ok (s:=jo.c100001r) (by kernel_rfl) (by kernel_rfl) (loops_of (sh:=jo.c100001s) (I:=fun x_ s_=>(s_.1,s_.2.1,s_.2.2,())) (fun x_=>rfl) (fun ρ x_ s_ k_=>(nat_br (nat_bnd fun _=>nat_leaf) nat_leaf)) (fun ρ x_ t k=>(by kernel_rfl)) (fun x_ s=>by kernel_rfl))
theorem jo.p1:PcA jo.G Try.f104 1:=
 region_ok (s:=jo.c3r) (by kernel_rfl) (by kernel_rfl) (sums_of (sh:=jo.c3s) (fun ρ x_ k_=>(nat_bnd fun _=>(nat_bnd fun _=>(nat_bnd fun _=>(nat_bnd fun _=>(nat_bnd fun _=>(nat_bnd fun _=>(nat_bnd fun _=>(nat_bnd fun _=>nat_leaf))))))))) (fun ρ x_ t k=>(by kernel_rfl)) (fun x_=>by kernel_rfl))
theorem jo.ok:MOk Try.prog 104 jo.mc:=fnm_ok (G:=jo.G) tab_ok mixed Try.func104 ⟨fns_nil,mfns_nil,tab_eqs_ok⟩ (m:=2) (by kernel_rfl) ⟨⟨trivial,jo.p0⟩,jo.p1⟩ (by kernel_rfl) jo.eq
def jU.c3 {ρ:Type}  (k_:Unit→Option ρ):Option ρ:=
 k_ ()
def jU.c3s:Shape:=⟨[(0,tb38),(1,tb1),(2,tb2),(3,tb12),(4,tb6)],[(1,tb34),(2,tb34),(3,tb19),(4,tb19)]⟩
def jU.c3x0:Shape:=jU.c3s
def jU.c3r:Ck:=Ck.of (T:=Unit) jU.c3s (fun ρ x_ k_=>jU.c3  k_) (fun ρ x_ r_ k_=>k_ 0 (Shape.inj jU.c3x0 (x_.1,x_.2.1,x_.2.2.1,x_.2.2.2.1,(0:Int),(0:Int),[],x_.2.2.2.2.2.2.2.2.2.1,x_.2.2.2.2.2.2.2.2.2.2.1,x_.2.2.2.2.2.2.2.2.2)))
def jU (c:Int×(Int×(List (Int×(Int×((List Int)×(Int×(Int×(List Int))))))))):Option ((Int×(Int×(List (Int×(Int×((List Int)×(Int×(Int×(List Int)))))))))×(Int×Int)):=
 bnd (W.jK (c.1,c.2.1,c.2.2)) fun y=>
 br (y.1 != (0:Int))
 (bnd (W.jU.c3 some) fun y_1=>
 some (((0:Int),(0:Int),[]),y.1,y.2))
 (bnd (W.js (c.1,c.2.1,c.2.2)) fun y_2=>
 bnd (W.jo y_2.2.2.1) fun y_3=>
 some ((y_2.1,y_2.2.1,y_3.1),(0:Int),(0:Int)))
def jU.ce:Go.Ql.Callee:=⟨[(.st (.pair (.int .i64) (.pair (.int .i64) (.sl (.st (.pair (.int .i64) (.pair (.int .i64) (.pair (.sl (.int .i64)) (.pair (.int .i64) (.pair (.int .i64) (.sl (.int .i64))))))))))))],[(.st (.pair (.int .i64) (.pair (.int .i64) (.sl (.st (.pair (.int .i64) (.pair (.int .i64) (.pair (.sl (.int .i64)) (.pair (.int .i64) (.pair (.int .i64) (.sl (.int .i64)))))))))))),(.st (.pair (.int .i64) (.int .i64)))],fun x_=>jU x_⟩
def jU.G:Env:=⟨20,tab,[(101,jK.ce)],[0,1,2,3,4,5,10],[5,2014,3005],[(3,[⟨[],[],[12],[]⟩,⟨[],[],[11],[2]⟩,⟨[0],[2],[12],[]⟩,⟨[1,2,0],[3],[],[]⟩])],[(3,jU.c3r)],[(102,js.mc),(104,jo.mc)],tab_eqs⟩
theorem jU.eq (x_:dens jU.ce.params):den jU.G Try.f69 jU.ce.params jU.ce.res x_=jU.ce.F x_:=by kernel_rfl
theorem jU.p0:PcA jU.G Try.f69 0:=
 region_ok (s:=jU.c3r) (by kernel_rfl) (by kernel_rfl) (sums_of (sh:=jU.c3s) (fun ρ x_ k_=>nat_leaf) (fun ρ x_ t k=>(by kernel_rfl)) (fun x_=>by kernel_rfl))
theorem jU.ok:CalleeOk Try.prog 69 jU.ce:=fn_ok (G:=jU.G) tab_ok mixed Try.func69 ⟨(fns_cons jK.ok fns_nil),(mfns_cons js.ok (mfns_cons jo.ok mfns_nil)),tab_eqs_ok⟩ (m:=1) (by kernel_rfl) ⟨trivial,jU.p0⟩ (by kernel_rfl) jU.eq
def Jo (code:Int) (t1:Int):Option (Int×Int):=
 some (code,t1)
def Jo.ce:Go.Ql.Callee:=⟨[(.int .i64),(.int .i64)],[(.st (.pair (.int .i64) (.int .i64)))],fun x_=>Jo x_.1 x_.2⟩
def Jo.G:Env:=⟨8,tab,[],[0,1,4],[],[],[],[],tab_eqs⟩
theorem Jo.eq (x_:dens Jo.ce.params):den Jo.G Try.f44 Jo.ce.params Jo.ce.res x_=Jo.ce.F x_:=by kernel_rfl
theorem Jo.ok:CalleeOk Try.prog 44 Jo.ce:=fn_ok (G:=Jo.G) tab_ok mixed Try.func44 ⟨fns_nil,mfns_nil,tab_eqs_ok⟩ (m:=0) (by kernel_rfl) trivial (by kernel_rfl) Jo.eq
abbrev tb46:SD:=.one (.own 3 0)
abbrev tb47:SO:=.arr 0 false 9 .str
def ji.c8 {ρ:Type} (a:List UInt8) (b:List UInt8) (i:Int) (k_:Bool→Option ρ):Option ρ:=
 bnd (idx a i) fun y=>
 bnd (idx b i) fun y_1=>
 k_ ((↑(UInt8.toNat y):Int) == (↑(UInt8.toNat y_1):Int))
def ji.c8s:Shape:=⟨[(0,tb4),(1,tb4),(4,tb4),(5,tb4),(6,tb5),(7,tb4)],[]⟩
def ji.c8x0:Shape:=⟨[(0,tb4),(1,tb4),(4,tb4),(5,tb4),(6,tb5),(7,tb4),(35,tb7)],[]⟩
def ji.c8r:Ck:=Ck.of (T:=Bool) ji.c8s (fun ρ x_ k_=>ji.c8 x_.1 x_.2.1 x_.2.2.2.2.1 k_) (fun ρ x_ r_ k_=>k_ 0 (Shape.inj ji.c8x0 (x_.1,x_.2.1,x_.2.2.1,x_.2.2.2.1,x_.2.2.2.2.1,x_.2.2.2.2.2.1,r_,())))
def ji.c15 {ρ:Type} (a:List UInt8) (b:List UInt8) (i:Int) (t8:Int) (k_:Bool→Option ρ):Option ρ:=
 bnd (idx (Array.toList (ByteArray.data (ByteArray.mk #[(88:UInt8),(89:UInt8),(90:UInt8)]))) t8) fun y=>
 bnd (idx a i) fun y_1=>
 br ((↑(UInt8.toNat y):Int) != (↑(UInt8.toNat y_1):Int))
 (bnd (idx (Array.toList (ByteArray.data (ByteArray.mk #[(88:UInt8),(89:UInt8),(90:UInt8)]))) t8) fun y_2=>
 bnd (idx b i) fun y_3=>
 k_ ((↑(UInt8.toNat y_2):Int) != (↑(UInt8.toNat y_3):Int)))
 (k_ false)
def ji.c15s:Shape:=⟨[(0,tb4),(1,tb4),(4,tb4),(5,tb4),(6,tb5),(7,tb4),(8,tb5)],[]⟩
def ji.c15x0:Shape:=⟨[(0,tb4),(1,tb4),(4,tb4),(5,tb4),(6,tb5),(7,tb4),(8,tb5),(57,tb7)],[]⟩
def ji.c15r:Ck:=Ck.of (T:=Bool) ji.c15s (fun ρ x_ k_=>ji.c15 x_.1 x_.2.1 x_.2.2.2.2.1 x_.2.2.2.2.2.2.1 k_) (fun ρ x_ r_ k_=>k_ 0 (Shape.inj ji.c15x0 (x_.1,x_.2.1,x_.2.2.1,x_.2.2.2.1,x_.2.2.2.2.1,x_.2.2.2.2.2.1,x_.2.2.2.2.2.2.1,r_,())))
def ji.c261446 {ρ:Type} (a:List UInt8) (b:List UInt8) (i:Int) (c:List UInt8) (t8:Int) (k_:List UInt8→Option ρ):Option ρ:=
 bnd (W.ji.c15 a b i t8 some) fun y=>
 br y
 (bnd (okIf (decide ((0:Int)≤t8) && decide (t8≤IntKind.wrap IntKind.i64 (t8+(1:Int))) && decide (IntKind.wrap IntKind.i64 (t8+(1:Int))≤(↑(List.length (Array.toList (ByteArray.data (ByteArray.mk #[(88:UInt8),(89:UInt8),(90:UInt8)])))):Int)))) fun y_1=>
 k_ (List.drop (Int.toNat t8) (List.take (Int.toNat (IntKind.wrap IntKind.i64 (t8+(1:Int)))) (Array.toList (ByteArray.data (ByteArray.mk #[(88:UInt8),(89:UInt8),(90:UInt8)]))))))
 (k_ c)
def ji.c261446s:Shape:=ji.c15s
def ji.c261446x0:Shape:=ji.c15s
def ji.c261446r:Ck:=Ck.of (T:=List UInt8) ji.c261446s (fun ρ x_ k_=>ji.c261446 x_.1 x_.2.1 x_.2.2.2.2.1 x_.2.2.2.2.2.1 x_.2.2.2.2.2.2.1 k_) (fun ρ x_ r_ k_=>k_ 0 (Shape.inj ji.c261446x0 (x_.1,x_.2.1,x_.2.2.1,x_.2.2.2.1,x_.2.2.2.2.1,r_,x_.2.2.2.2.2.2)))
def ji.c100013 {ρ:Type} (a:List UInt8) (b:List UInt8) (i:Int) (c:List UInt8) (t8:Int) (k_:((List UInt8)×Int)⊕((List UInt8)×Int)→Option ρ):Option ρ:=
 br (decide (t8 < (3:Int)))
 (bnd (W.ji.c261446 a b i c t8 some) fun y=>
 k_ (.inl (y,(IntKind.wrap IntKind.i64 (t8+(1:Int))))))
 (k_ (.inr (c,t8)))
def ji.c100013s:Shape:=ji.c15s
def ji.c100013x0:Shape:=ji.c15s
def ji.c100013r:Ck:=Ck.ofLoop (S:=(List UInt8)×Int) (T:=(List UInt8)×Int) ji.c100013s (fun x_=>(x_.2.2.2.2.2.1,x_.2.2.2.2.2.2.1)) (fun ρ x_ s_ k_=>ji.c100013 x_.1 x_.2.1 x_.2.2.2.2.1 s_.1 s_.2 k_) (fun ρ x_ r_ k_=>k_ 4 (Shape.inj ji.c100013x0 (x_.1,x_.2.1,x_.2.2.1,x_.2.2.2.1,x_.2.2.2.2.1,r_.1,r_.2,())))
def ji.c224608 {ρ:Type} (a:List UInt8) (b:List UInt8) (i:Int) (c:List UInt8) (k_:List UInt8→Option ρ):Option ρ:=
 bnd (idx a i) fun y=>
 br ((↑(UInt8.toNat y):Int) == (73:Int))
 (bnd (okIf (decide ((0:Int)≤i) && decide (i≤IntKind.wrap IntKind.i64 (i+(1:Int))) && decide (IntKind.wrap IntKind.i64 (i+(1:Int))≤(↑(List.length b):Int)))) fun y_1=>
 k_ (List.drop (Int.toNat i) (List.take (Int.toNat (IntKind.wrap IntKind.i64 (i+(1:Int)))) b)))
 (bnd (W.ji.c8 a b i some) fun y_2=>
 br y_2
 (k_ (Array.toList (ByteArray.data (ByteArray.mk #[(73:UInt8)]))))
 (bnd (idx b i) fun y_3=>
 br ((↑(UInt8.toNat y_3):Int) != (73:Int))
 (bnd (iter (fun s↦W.ji.c100013 a b i s.1 s.2 some) (Array.toList (ByteArray.data (ByteArray.mk #[(88:UInt8)])),(0:Int))) fun y_4=>
 k_ y_4.1)
 (k_ c)))
def ji.c224608s:Shape:=ji.c8s
def ji.c224608x0:Shape:=ji.c8s
def ji.c224608r:Ck:=Ck.of (T:=List UInt8) ji.c224608s (fun ρ x_ k_=>ji.c224608 x_.1 x_.2.1 x_.2.2.2.2.1 x_.2.2.2.2.2.1 k_) (fun ρ x_ r_ k_=>k_ 0 (Shape.inj ji.c224608x0 (x_.1,x_.2.1,x_.2.2.1,x_.2.2.2.1,x_.2.2.2.2.1,r_,())))
def ji.c100003 {ρ:Type} (a:List UInt8) (b:List UInt8) (out:List UInt8) (i:Int) (k_:((List UInt8)×Int)⊕((List UInt8)×Int)→Option ρ):Option ρ:=
 br (decide (i < (↑(List.length a):Int)))
 (bnd (okIf (decide ((0:Int)≤i) && decide (i≤IntKind.wrap IntKind.i64 (i+(1:Int))) && decide (IntKind.wrap IntKind.i64 (i+(1:Int))≤(↑(List.length a):Int)))) fun y=>
 bnd (W.ji.c224608 a b i (List.drop (Int.toNat i) (List.take (Int.toNat (IntKind.wrap IntKind.i64 (i+(1:Int)))) a)) some) fun y_1=>
 bnd (okIf (decide (List.length out+List.length y_1≤(9223372036854775807:Nat)))) fun y_2=>
 k_ (.inl ((out++y_1),(IntKind.wrap IntKind.i64 (i+(1:Int))))))
 (k_ (.inr (out,i)))
def ji.c100003s:Shape:=⟨[(0,tb4),(1,tb4),(4,tb4),(5,tb4),(6,tb5)],[]⟩
def ji.c100003x0:Shape:=ji.c100003s
def ji.c100003r:Ck:=Ck.ofLoop (S:=(List UInt8)×Int) (T:=(List UInt8)×Int) ji.c100003s (fun x_=>(x_.2.2.2.1,x_.2.2.2.2.1)) (fun ρ x_ s_ k_=>ji.c100003 x_.1 x_.2.1 s_.1 s_.2 k_) (fun ρ x_ r_ k_=>k_ 2 (Shape.inj ji.c100003x0 (x_.1,x_.2.1,x_.2.2.1,r_.1,r_.2,())))
def ji (a:List UInt8) (b:List UInt8):Option (List UInt8):=
 bnd (iter (fun s↦W.ji.c100003 a b s.1 s.2 some) (Array.toList (ByteArray.data (ByteArray.mk #[])),(0:Int))) fun y=>
 some y.1
def ji.ce:Go.Ql.Callee:=⟨[.str,.str],[.str],fun x_=>ji x_.1 x_.2⟩
def ji.G:Env:=⟨66,tab,[],[0,1,4,5,6,7,8,12,23,35,39,41,57],[],[(15,[⟨[],[],[46,47,48],[]⟩,⟨[0],[],[46,47,48],[]⟩,⟨[],[],[44,45,47],[]⟩,⟨[],[],[44,45,46],[]⟩,⟨[2,3],[],[44,45],[]⟩,⟨[1,0,4,2,3],[],[],[]⟩,⟨[5,1,0,4,2,3],[],[],[]⟩,⟨[6,5,1,0,4,2,3],[],[53,54,55],[]⟩,⟨[7,6,5,1,0,4,2,3],[],[53,54,55],[]⟩,⟨[6,5,1,0,4,2,3],[],[51,52,54],[]⟩,⟨[6,5,1,0,4,2,3],[],[51,52,53],[]⟩,⟨[9,6,5,1,0,4,2,3,10],[],[51,52],[]⟩,⟨[8,7,6,5,1,0,4,2,3,11,9,10],[],[],[]⟩,⟨[6,5,1,0,4,2,3,12,8,7,11,9,10],[],[],[]⟩]),
 (8,[⟨[],[],[30,32,33,34],[]⟩,⟨[],[],[29,32,33,34],[]⟩,⟨[0,1],[],[32,33,34],[]⟩,⟨[],[],[29,30,31,33],[]⟩,⟨[],[],[29,30,31,32],[]⟩,⟨[3,4],[],[29,30,31],[]⟩,⟨[2,0,1,5,3,4],[],[],[]⟩])],[(100003,ji.c100003r),(224608,ji.c224608r),(100013,ji.c100013r),(261446,ji.c261446r),(15,ji.c15r),(8,ji.c8r)],[],tab_eqs⟩
theorem ji.eq (x_:dens ji.ce.params):den ji.G Try.f110 ji.ce.params ji.ce.res x_=ji.ce.F x_:=by kernel_rfl
theorem ji.p0:PcA ji.G Try.f110 0:=
 loop_ok (s:=ji.c100003r) (by kernel_rfl) (by kernel_rfl) (loops_of (sh:=ji.c100003s) (I:=fun x_ s_=>(x_.1,x_.2.1,x_.2.2.1,s_.1,s_.2,())) (fun x_=>rfl) (fun ρ x_ s_ k_=>(nat_br (nat_bnd fun _=>(nat_bnd fun _=>(nat_bnd fun _=>nat_leaf))) nat_leaf)) (fun ρ x_ t k=>(by kernel_rfl)) (fun x_ s=>by kernel_rfl))
theorem ji.p1:PcA ji.G Try.f110 1:=
 join_ok (s:=ji.c224608r) (by kernel_rfl) (by kernel_rfl) (sums_of (sh:=ji.c224608s) (fun ρ x_ k_=>(nat_bnd fun _=>(nat_br (nat_bnd fun _=>nat_leaf) (nat_bnd fun _=>(nat_br nat_leaf (nat_bnd fun _=>(nat_br (nat_bnd fun _=>nat_leaf) nat_leaf))))))) (fun ρ x_ t k=>(by kernel_rfl)) (fun x_=>by kernel_rfl))
theorem ji.p2:PcA ji.G Try.f110 2:=
 region_ok (s:=ji.c8r) (by kernel_rfl) (by kernel_rfl) (sums_of (sh:=ji.c8s) (fun ρ x_ k_=>(nat_bnd fun _=>(nat_bnd fun _=>nat_leaf))) (fun ρ x_ t k=>(by kernel_rfl)) (fun x_=>by kernel_rfl))
theorem ji.p3:PcA ji.G Try.f110 3:=
 loop_ok (s:=ji.c100013r) (by kernel_rfl) (by kernel_rfl) (loops_of (sh:=ji.c100013s) (I:=fun x_ s_=>(x_.1,x_.2.1,x_.2.2.1,x_.2.2.2.1,x_.2.2.2.2.1,s_.1,s_.2,())) (fun x_=>rfl) (fun ρ x_ s_ k_=>(nat_br (nat_bnd fun _=>nat_leaf) nat_leaf)) (fun ρ x_ t k=>(by kernel_rfl)) (fun x_ s=>by kernel_rfl))
theorem ji.p4:PcA ji.G Try.f110 4:=
 join_ok (s:=ji.c261446r) (by kernel_rfl) (by kernel_rfl) (sums_of (sh:=ji.c261446s) (fun ρ x_ k_=>(nat_bnd fun _=>(nat_br (nat_bnd fun _=>nat_leaf) nat_leaf))) (fun ρ x_ t k=>(by kernel_rfl)) (fun x_=>by kernel_rfl))
theorem ji.p5:PcA ji.G Try.f110 5:=
 region_ok (s:=ji.c15r) (by kernel_rfl) (by kernel_rfl) (sums_of (sh:=ji.c15s) (fun ρ x_ k_=>(nat_bnd fun _=>(nat_bnd fun _=>(nat_br (nat_bnd fun _=>(nat_bnd fun _=>nat_leaf)) nat_leaf)))) (fun ρ x_ t k=>(by kernel_rfl)) (fun x_=>by kernel_rfl))
theorem ji.ok:CalleeOk Try.prog 110 ji.ce:=fn_ok (G:=ji.G) tab_ok mixed Try.func110 ⟨fns_nil,mfns_nil,tab_eqs_ok⟩ (m:=6) (by kernel_rfl) ⟨⟨⟨⟨⟨⟨trivial,ji.p0⟩,ji.p1⟩,ji.p2⟩,ji.p3⟩,ji.p4⟩,ji.p5⟩ (by kernel_rfl) ji.eq
end
end W
end
