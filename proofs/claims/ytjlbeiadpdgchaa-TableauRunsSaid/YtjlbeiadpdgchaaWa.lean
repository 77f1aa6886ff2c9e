/- Lifted functions, part 1: each with its contract. -/
import Derived.Test.YtjlbeiadpdgchaaCa
import Derived.Test.YtjlbeiadpdgchaaProg
set_option linter.all false
section
set_option maxHeartbeats 4000000
set_option maxRecDepth 100000
set_option linter.unusedVariables false
namespace W
open Go Go.Ql Go.Proofs
noncomputable section
abbrev tb1:SD:=.one (.ref 1 0)
abbrev tb2:SD:=.one (.ref 2 0)
abbrev tb4:SD:=.one (.val .str)
abbrev tb5:SD:=.one (.val (.int .i64))
abbrev tb6:SD:=.one (.ref 4 0)
abbrev tb7:SD:=.one (.val .bool)
abbrev tb8:SD:=.one (.ref 6 0)
abbrev tb9:SO:=.box [.val (.int .u64),.val (.int .u64),.val .bool]
abbrev tb10:SD:=.one (.val (.int .u32))
abbrev YO:=Int×(Int×((List Int)×(Int×(Int×(List Int)))))
abbrev YD:=(Bool)×(List Int)
abbrev YP:=Int×(Int×(Bool))
abbrev YN:=(List YD)×Int
def Jl.c1 {ρ:Type} (x:Int) (k_:Int→Option ρ):Option ρ:=
 bnd (idx (Array.toList (ByteArray.data (ByteArray.mk (List.toArray (List.append (List.append [(0:UInt8),(1:UInt8),(1:UInt8),(2:UInt8),(1:UInt8),(2:UInt8),(2:UInt8),(3:UInt8),(1:UInt8),(2:UInt8),(2:UInt8),(3:UInt8),(2:UInt8),(3:UInt8),(3:UInt8),(4:UInt8),(1:UInt8),(2:UInt8),(2:UInt8),(3:UInt8),(2:UInt8),(3:UInt8),(3:UInt8),(4:UInt8),(2:UInt8),(3:UInt8),(3:UInt8),(4:UInt8),(3:UInt8),(4:UInt8),(4:UInt8),(5:UInt8),(1:UInt8),(2:UInt8),(2:UInt8),(3:UInt8),(2:UInt8),(3:UInt8),(3:UInt8),(4:UInt8),(2:UInt8),(3:UInt8),(3:UInt8),(4:UInt8),(3:UInt8),(4:UInt8),(4:UInt8),(5:UInt8),(2:UInt8),(3:UInt8),(3:UInt8),(4:UInt8),(3:UInt8),(4:UInt8),(4:UInt8),(5:UInt8),(3:UInt8),(4:UInt8),(4:UInt8),(5:UInt8),(4:UInt8),(5:UInt8),(5:UInt8),(6:UInt8)] [(1:UInt8),(2:UInt8),(2:UInt8),(3:UInt8),(2:UInt8),(3:UInt8),(3:UInt8),(4:UInt8),(2:UInt8),(3:UInt8),(3:UInt8),(4:UInt8),(3:UInt8),(4:UInt8),(4:UInt8),(5:UInt8),(2:UInt8),(3:UInt8),(3:UInt8),(4:UInt8),(3:UInt8),(4:UInt8),(4:UInt8),(5:UInt8),(3:UInt8),(4:UInt8),(4:UInt8),(5:UInt8),(4:UInt8),(5:UInt8),(5:UInt8),(6:UInt8),(2:UInt8),(3:UInt8),(3:UInt8),(4:UInt8),(3:UInt8),(4:UInt8),(4:UInt8),(5:UInt8),(3:UInt8),(4:UInt8),(4:UInt8),(5:UInt8),(4:UInt8),(5:UInt8),(5:UInt8),(6:UInt8),(3:UInt8),(4:UInt8),(4:UInt8),(5:UInt8),(4:UInt8),(5:UInt8),(5:UInt8),(6:UInt8),(4:UInt8),(5:UInt8),(5:UInt8),(6:UInt8),(5:UInt8),(6:UInt8),(6:UInt8),(7:UInt8)]) (List.append [(1:UInt8),(2:UInt8),(2:UInt8),(3:UInt8),(2:UInt8),(3:UInt8),(3:UInt8),(4:UInt8),(2:UInt8),(3:UInt8),(3:UInt8),(4:UInt8),(3:UInt8),(4:UInt8),(4:UInt8),(5:UInt8),(2:UInt8),(3:UInt8),(3:UInt8),(4:UInt8),(3:UInt8),(4:UInt8),(4:UInt8),(5:UInt8),(3:UInt8),(4:UInt8),(4:UInt8),(5:UInt8),(4:UInt8),(5:UInt8),(5:UInt8),(6:UInt8),(2:UInt8),(3:UInt8),(3:UInt8),(4:UInt8),(3:UInt8),(4:UInt8),(4:UInt8),(5:UInt8),(3:UInt8),(4:UInt8),(4:UInt8),(5:UInt8),(4:UInt8),(5:UInt8),(5:UInt8),(6:UInt8),(3:UInt8),(4:UInt8),(4:UInt8),(5:UInt8),(4:UInt8),(5:UInt8),(5:UInt8),(6:UInt8),(4:UInt8),(5:UInt8),(5:UInt8),(6:UInt8),(5:UInt8),(6:UInt8),(6:UInt8),(7:UInt8)] [(2:UInt8),(3:UInt8),(3:UInt8),(4:UInt8),(3:UInt8),(4:UInt8),(4:UInt8),(5:UInt8),(3:UInt8),(4:UInt8),(4:UInt8),(5:UInt8),(4:UInt8),(5:UInt8),(5:UInt8),(6:UInt8),(3:UInt8),(4:UInt8),(4:UInt8),(5:UInt8),(4:UInt8),(5:UInt8),(5:UInt8),(6:UInt8),(4:UInt8),(5:UInt8),(5:UInt8),(6:UInt8),(5:UInt8),(6:UInt8),(6:UInt8),(7:UInt8),(3:UInt8),(4:UInt8),(4:UInt8),(5:UInt8),(4:UInt8),(5:UInt8),(5:UInt8),(6:UInt8),(4:UInt8),(5:UInt8),(5:UInt8),(6:UInt8),(5:UInt8),(6:UInt8),(6:UInt8),(7:UInt8),(4:UInt8),(5:UInt8),(5:UInt8),(6:UInt8),(5:UInt8),(6:UInt8),(6:UInt8),(7:UInt8),(5:UInt8),(6:UInt8),(6:UInt8),(7:UInt8),(6:UInt8),(7:UInt8),(7:UInt8),(8:UInt8)])))))) (Int.fdiv x ((2:Int) ^ (24:Nat)))) fun y=>
 bnd (idx (Array.toList (ByteArray.data (ByteArray.mk (List.toArray (List.append (List.append [(0:UInt8),(1:UInt8),(1:UInt8),(2:UInt8),(1:UInt8),(2:UInt8),(2:UInt8),(3:UInt8),(1:UInt8),(2:UInt8),(2:UInt8),(3:UInt8),(2:UInt8),(3:UInt8),(3:UInt8),(4:UInt8),(1:UInt8),(2:UInt8),(2:UInt8),(3:UInt8),(2:UInt8),(3:UInt8),(3:UInt8),(4:UInt8),(2:UInt8),(3:UInt8),(3:UInt8),(4:UInt8),(3:UInt8),(4:UInt8),(4:UInt8),(5:UInt8),(1:UInt8),(2:UInt8),(2:UInt8),(3:UInt8),(2:UInt8),(3:UInt8),(3:UInt8),(4:UInt8),(2:UInt8),(3:UInt8),(3:UInt8),(4:UInt8),(3:UInt8),(4:UInt8),(4:UInt8),(5:UInt8),(2:UInt8),(3:UInt8),(3:UInt8),(4:UInt8),(3:UInt8),(4:UInt8),(4:UInt8),(5:UInt8),(3:UInt8),(4:UInt8),(4:UInt8),(5:UInt8),(4:UInt8),(5:UInt8),(5:UInt8),(6:UInt8)] [(1:UInt8),(2:UInt8),(2:UInt8),(3:UInt8),(2:UInt8),(3:UInt8),(3:UInt8),(4:UInt8),(2:UInt8),(3:UInt8),(3:UInt8),(4:UInt8),(3:UInt8),(4:UInt8),(4:UInt8),(5:UInt8),(2:UInt8),(3:UInt8),(3:UInt8),(4:UInt8),(3:UInt8),(4:UInt8),(4:UInt8),(5:UInt8),(3:UInt8),(4:UInt8),(4:UInt8),(5:UInt8),(4:UInt8),(5:UInt8),(5:UInt8),(6:UInt8),(2:UInt8),(3:UInt8),(3:UInt8),(4:UInt8),(3:UInt8),(4:UInt8),(4:UInt8),(5:UInt8),(3:UInt8),(4:UInt8),(4:UInt8),(5:UInt8),(4:UInt8),(5:UInt8),(5:UInt8),(6:UInt8),(3:UInt8),(4:UInt8),(4:UInt8),(5:UInt8),(4:UInt8),(5:UInt8),(5:UInt8),(6:UInt8),(4:UInt8),(5:UInt8),(5:UInt8),(6:UInt8),(5:UInt8),(6:UInt8),(6:UInt8),(7:UInt8)]) (List.append [(1:UInt8),(2:UInt8),(2:UInt8),(3:UInt8),(2:UInt8),(3:UInt8),(3:UInt8),(4:UInt8),(2:UInt8),(3:UInt8),(3:UInt8),(4:UInt8),(3:UInt8),(4:UInt8),(4:UInt8),(5:UInt8),(2:UInt8),(3:UInt8),(3:UInt8),(4:UInt8),(3:UInt8),(4:UInt8),(4:UInt8),(5:UInt8),(3:UInt8),(4:UInt8),(4:UInt8),(5:UInt8),(4:UInt8),(5:UInt8),(5:UInt8),(6:UInt8),(2:UInt8),(3:UInt8),(3:UInt8),(4:UInt8),(3:UInt8),(4:UInt8),(4:UInt8),(5:UInt8),(3:UInt8),(4:UInt8),(4:UInt8),(5:UInt8),(4:UInt8),(5:UInt8),(5:UInt8),(6:UInt8),(3:UInt8),(4:UInt8),(4:UInt8),(5:UInt8),(4:UInt8),(5:UInt8),(5:UInt8),(6:UInt8),(4:UInt8),(5:UInt8),(5:UInt8),(6:UInt8),(5:UInt8),(6:UInt8),(6:UInt8),(7:UInt8)] [(2:UInt8),(3:UInt8),(3:UInt8),(4:UInt8),(3:UInt8),(4:UInt8),(4:UInt8),(5:UInt8),(3:UInt8),(4:UInt8),(4:UInt8),(5:UInt8),(4:UInt8),(5:UInt8),(5:UInt8),(6:UInt8),(3:UInt8),(4:UInt8),(4:UInt8),(5:UInt8),(4:UInt8),(5:UInt8),(5:UInt8),(6:UInt8),(4:UInt8),(5:UInt8),(5:UInt8),(6:UInt8),(5:UInt8),(6:UInt8),(6:UInt8),(7:UInt8),(3:UInt8),(4:UInt8),(4:UInt8),(5:UInt8),(4:UInt8),(5:UInt8),(5:UInt8),(6:UInt8),(4:UInt8),(5:UInt8),(5:UInt8),(6:UInt8),(5:UInt8),(6:UInt8),(6:UInt8),(7:UInt8),(4:UInt8),(5:UInt8),(5:UInt8),(6:UInt8),(5:UInt8),(6:UInt8),(6:UInt8),(7:UInt8),(5:UInt8),(6:UInt8),(6:UInt8),(7:UInt8),(6:UInt8),(7:UInt8),(7:UInt8),(8:UInt8)])))))) (ibits BinOp.and IntKind.u32 (Int.fdiv x ((2:Int) ^ (16:Nat))) (255:Int))) fun y_1=>
 bnd (idx (Array.toList (ByteArray.data (ByteArray.mk (List.toArray (List.append (List.append [(0:UInt8),(1:UInt8),(1:UInt8),(2:UInt8),(1:UInt8),(2:UInt8),(2:UInt8),(3:UInt8),(1:UInt8),(2:UInt8),(2:UInt8),(3:UInt8),(2:UInt8),(3:UInt8),(3:UInt8),(4:UInt8),(1:UInt8),(2:UInt8),(2:UInt8),(3:UInt8),(2:UInt8),(3:UInt8),(3:UInt8),(4:UInt8),(2:UInt8),(3:UInt8),(3:UInt8),(4:UInt8),(3:UInt8),(4:UInt8),(4:UInt8),(5:UInt8),(1:UInt8),(2:UInt8),(2:UInt8),(3:UInt8),(2:UInt8),(3:UInt8),(3:UInt8),(4:UInt8),(2:UInt8),(3:UInt8),(3:UInt8),(4:UInt8),(3:UInt8),(4:UInt8),(4:UInt8),(5:UInt8),(2:UInt8),(3:UInt8),(3:UInt8),(4:UInt8),(3:UInt8),(4:UInt8),(4:UInt8),(5:UInt8),(3:UInt8),(4:UInt8),(4:UInt8),(5:UInt8),(4:UInt8),(5:UInt8),(5:UInt8),(6:UInt8)] [(1:UInt8),(2:UInt8),(2:UInt8),(3:UInt8),(2:UInt8),(3:UInt8),(3:UInt8),(4:UInt8),(2:UInt8),(3:UInt8),(3:UInt8),(4:UInt8),(3:UInt8),(4:UInt8),(4:UInt8),(5:UInt8),(2:UInt8),(3:UInt8),(3:UInt8),(4:UInt8),(3:UInt8),(4:UInt8),(4:UInt8),(5:UInt8),(3:UInt8),(4:UInt8),(4:UInt8),(5:UInt8),(4:UInt8),(5:UInt8),(5:UInt8),(6:UInt8),(2:UInt8),(3:UInt8),(3:UInt8),(4:UInt8),(3:UInt8),(4:UInt8),(4:UInt8),(5:UInt8),(3:UInt8),(4:UInt8),(4:UInt8),(5:UInt8),(4:UInt8),(5:UInt8),(5:UInt8),(6:UInt8),(3:UInt8),(4:UInt8),(4:UInt8),(5:UInt8),(4:UInt8),(5:UInt8),(5:UInt8),(6:UInt8),(4:UInt8),(5:UInt8),(5:UInt8),(6:UInt8),(5:UInt8),(6:UInt8),(6:UInt8),(7:UInt8)]) (List.append [(1:UInt8),(2:UInt8),(2:UInt8),(3:UInt8),(2:UInt8),(3:UInt8),(3:UInt8),(4:UInt8),(2:UInt8),(3:UInt8),(3:UInt8),(4:UInt8),(3:UInt8),(4:UInt8),(4:UInt8),(5:UInt8),(2:UInt8),(3:UInt8),(3:UInt8),(4:UInt8),(3:UInt8),(4:UInt8),(4:UInt8),(5:UInt8),(3:UInt8),(4:UInt8),(4:UInt8),(5:UInt8),(4:UInt8),(5:UInt8),(5:UInt8),(6:UInt8),(2:UInt8),(3:UInt8),(3:UInt8),(4:UInt8),(3:UInt8),(4:UInt8),(4:UInt8),(5:UInt8),(3:UInt8),(4:UInt8),(4:UInt8),(5:UInt8),(4:UInt8),(5:UInt8),(5:UInt8),(6:UInt8),(3:UInt8),(4:UInt8),(4:UInt8),(5:UInt8),(4:UInt8),(5:UInt8),(5:UInt8),(6:UInt8),(4:UInt8),(5:UInt8),(5:UInt8),(6:UInt8),(5:UInt8),(6:UInt8),(6:UInt8),(7:UInt8)] [(2:UInt8),(3:UInt8),(3:UInt8),(4:UInt8),(3:UInt8),(4:UInt8),(4:UInt8),(5:UInt8),(3:UInt8),(4:UInt8),(4:UInt8),(5:UInt8),(4:UInt8),(5:UInt8),(5:UInt8),(6:UInt8),(3:UInt8),(4:UInt8),(4:UInt8),(5:UInt8),(4:UInt8),(5:UInt8),(5:UInt8),(6:UInt8),(4:UInt8),(5:UInt8),(5:UInt8),(6:UInt8),(5:UInt8),(6:UInt8),(6:UInt8),(7:UInt8),(3:UInt8),(4:UInt8),(4:UInt8),(5:UInt8),(4:UInt8),(5:UInt8),(5:UInt8),(6:UInt8),(4:UInt8),(5:UInt8),(5:UInt8),(6:UInt8),(5:UInt8),(6:UInt8),(6:UInt8),(7:UInt8),(4:UInt8),(5:UInt8),(5:UInt8),(6:UInt8),(5:UInt8),(6:UInt8),(6:UInt8),(7:UInt8),(5:UInt8),(6:UInt8),(6:UInt8),(7:UInt8),(6:UInt8),(7:UInt8),(7:UInt8),(8:UInt8)])))))) (ibits BinOp.and IntKind.u32 (Int.fdiv x ((2:Int) ^ (8:Nat))) (255:Int))) fun y_2=>
 bnd (idx (Array.toList (ByteArray.data (ByteArray.mk (List.toArray (List.append (List.append [(0:UInt8),(1:UInt8),(1:UInt8),(2:UInt8),(1:UInt8),(2:UInt8),(2:UInt8),(3:UInt8),(1:UInt8),(2:UInt8),(2:UInt8),(3:UInt8),(2:UInt8),(3:UInt8),(3:UInt8),(4:UInt8),(1:UInt8),(2:UInt8),(2:UInt8),(3:UInt8),(2:UInt8),(3:UInt8),(3:UInt8),(4:UInt8),(2:UInt8),(3:UInt8),(3:UInt8),(4:UInt8),(3:UInt8),(4:UInt8),(4:UInt8),(5:UInt8),(1:UInt8),(2:UInt8),(2:UInt8),(3:UInt8),(2:UInt8),(3:UInt8),(3:UInt8),(4:UInt8),(2:UInt8),(3:UInt8),(3:UInt8),(4:UInt8),(3:UInt8),(4:UInt8),(4:UInt8),(5:UInt8),(2:UInt8),(3:UInt8),(3:UInt8),(4:UInt8),(3:UInt8),(4:UInt8),(4:UInt8),(5:UInt8),(3:UInt8),(4:UInt8),(4:UInt8),(5:UInt8),(4:UInt8),(5:UInt8),(5:UInt8),(6:UInt8)] [(1:UInt8),(2:UInt8),(2:UInt8),(3:UInt8),(2:UInt8),(3:UInt8),(3:UInt8),(4:UInt8),(2:UInt8),(3:UInt8),(3:UInt8),(4:UInt8),(3:UInt8),(4:UInt8),(4:UInt8),(5:UInt8),(2:UInt8),(3:UInt8),(3:UInt8),(4:UInt8),(3:UInt8),(4:UInt8),(4:UInt8),(5:UInt8),(3:UInt8),(4:UInt8),(4:UInt8),(5:UInt8),(4:UInt8),(5:UInt8),(5:UInt8),(6:UInt8),(2:UInt8),(3:UInt8),(3:UInt8),(4:UInt8),(3:UInt8),(4:UInt8),(4:UInt8),(5:UInt8),(3:UInt8),(4:UInt8),(4:UInt8),(5:UInt8),(4:UInt8),(5:UInt8),(5:UInt8),(6:UInt8),(3:UInt8),(4:UInt8),(4:UInt8),(5:UInt8),(4:UInt8),(5:UInt8),(5:UInt8),(6:UInt8),(4:UInt8),(5:UInt8),(5:UInt8),(6:UInt8),(5:UInt8),(6:UInt8),(6:UInt8),(7:UInt8)]) (List.append [(1:UInt8),(2:UInt8),(2:UInt8),(3:UInt8),(2:UInt8),(3:UInt8),(3:UInt8),(4:UInt8),(2:UInt8),(3:UInt8),(3:UInt8),(4:UInt8),(3:UInt8),(4:UInt8),(4:UInt8),(5:UInt8),(2:UInt8),(3:UInt8),(3:UInt8),(4:UInt8),(3:UInt8),(4:UInt8),(4:UInt8),(5:UInt8),(3:UInt8),(4:UInt8),(4:UInt8),(5:UInt8),(4:UInt8),(5:UInt8),(5:UInt8),(6:UInt8),(2:UInt8),(3:UInt8),(3:UInt8),(4:UInt8),(3:UInt8),(4:UInt8),(4:UInt8),(5:UInt8),(3:UInt8),(4:UInt8),(4:UInt8),(5:UInt8),(4:UInt8),(5:UInt8),(5:UInt8),(6:UInt8),(3:UInt8),(4:UInt8),(4:UInt8),(5:UInt8),(4:UInt8),(5:UInt8),(5:UInt8),(6:UInt8),(4:UInt8),(5:UInt8),(5:UInt8),(6:UInt8),(5:UInt8),(6:UInt8),(6:UInt8),(7:UInt8)] [(2:UInt8),(3:UInt8),(3:UInt8),(4:UInt8),(3:UInt8),(4:UInt8),(4:UInt8),(5:UInt8),(3:UInt8),(4:UInt8),(4:UInt8),(5:UInt8),(4:UInt8),(5:UInt8),(5:UInt8),(6:UInt8),(3:UInt8),(4:UInt8),(4:UInt8),(5:UInt8),(4:UInt8),(5:UInt8),(5:UInt8),(6:UInt8),(4:UInt8),(5:UInt8),(5:UInt8),(6:UInt8),(5:UInt8),(6:UInt8),(6:UInt8),(7:UInt8),(3:UInt8),(4:UInt8),(4:UInt8),(5:UInt8),(4:UInt8),(5:UInt8),(5:UInt8),(6:UInt8),(4:UInt8),(5:UInt8),(5:UInt8),(6:UInt8),(5:UInt8),(6:UInt8),(6:UInt8),(7:UInt8),(4:UInt8),(5:UInt8),(5:UInt8),(6:UInt8),(5:UInt8),(6:UInt8),(6:UInt8),(7:UInt8),(5:UInt8),(6:UInt8),(6:UInt8),(7:UInt8),(6:UInt8),(7:UInt8),(7:UInt8),(8:UInt8)])))))) (ibits BinOp.and IntKind.u32 x (255:Int))) fun y_3=>
 k_ (IntKind.i64.wrap (IntKind.wrap IntKind.u8 (IntKind.wrap IntKind.u8 (IntKind.wrap IntKind.u8 ((↑(UInt8.toNat y):Int)+(↑(UInt8.toNat y_1):Int))+(↑(UInt8.toNat y_2):Int))+(↑(UInt8.toNat y_3):Int))))
def Jl.c1s:Shape:=⟨[(0,tb10),(2,tb5)],[]⟩
def Jl.c1x0:Shape:=Jl.c1s
def Jl.c1r:Ck:=Ck.of (T:=Int) Jl.c1s (fun ρ x_ k_=>Jl.c1 x_.1 k_) (fun ρ x_ r_ k_=>k_ 0 (Shape.inj Jl.c1x0 (x_.1,r_,())))
def Jl (x:Int):Option Int:=
 bnd (W.Jl.c1 x some) fun y=>
 some y
def Jl.ce:Go.Ql.Callee:=⟨[(.int .u32)],[(.int .i64)],fun x_=>Jl x_⟩
def Jl.G:Env:=⟨21,tab,[],[0,2],[],[(1,[⟨[],[],[6,7,8,9,11,12,13,14,16,17,18],[]⟩,⟨[0],[],[6,7,8,9,11,12,13,14,16,17,18],[]⟩,⟨[1,0],[],[6,7,8,9,11,12,13,14,16,17,18],[]⟩,⟨[],[],[3,4,5,11,12,13,14,16,17,18],[]⟩,⟨[3],[],[3,4,5,11,12,13,14,16,17,18],[]⟩,⟨[4,3],[],[3,4,5,11,12,13,14,16,17,18],[]⟩,⟨[5,4,3],[],[3,4,5,11,12,13,14,16,17,18],[]⟩,⟨[2,1,0,6,5,4,3],[],[11,12,13,14,16,17,18],[]⟩,⟨[],[],[3,4,5,6,7,8,9,10,16,17,18],[]⟩,⟨[8],[],[3,4,5,6,7,8,9,10,16,17,18],[]⟩,⟨[9,8],[],[3,4,5,6,7,8,9,10,16,17,18],[]⟩,⟨[10,9,8],[],[3,4,5,6,7,8,9,10,16,17,18],[]⟩,⟨[7,2,1,0,6,5,4,3,11,10,9,8],[],[16,17,18],[]⟩,⟨[],[],[3,4,5,6,7,8,9,10,11,12,13,14,15],[]⟩,⟨[13],[],[3,4,5,6,7,8,9,10,11,12,13,14,15],[]⟩,⟨[14,13],[],[3,4,5,6,7,8,9,10,11,12,13,14,15],[]⟩,⟨[12,7,2,1,0,6,5,4,3,11,10,9,8,15,14,13],[],[],[]⟩,⟨[16,12,7,2,1,0,6,5,4,3,11,10,9,8,15,14,13],[],[],[]⟩,⟨[17,16,12,7,2,1,0,6,5,4,3,11,10,9,8,15,14,13],[],[],[]⟩])],[(1,Jl.c1r)],[],jZ⟩
theorem Jl.eq (x_:dens Jl.ce.params):den Jl.G Try.f135 Jl.ce.params Jl.ce.res x_=Jl.ce.F x_:=by kernel_rfl
theorem Jl.p0:PcA Jl.G Try.f135 0:=
 ju (s:=Jl.c1r) (by kernel_rfl) (by kernel_rfl) (jt (sh:=Jl.c1s) (fun ρ x_ k_=>(jc fun _=>(jc fun _=>(jc fun _=>(jc fun _=>jd))))) (fun ρ x_ t k=>(by kernel_rfl)) (fun x_=>by kernel_rfl))
theorem Jl.ok:CalleeOk Try.prog 135 Jl.ce:=fn_ok (G:=Jl.G) Jj mixed Try.func135 ⟨Ja,jR,jA⟩ (m:=1) (by kernel_rfl) ⟨trivial,Jl.p0⟩ (by kernel_rfl) Jl.eq
def JN (x:Int):Option Int:=
 some (ibits BinOp.and IntKind.i64 (IntKind.i64.wrap (IntKind.u64.wrap (IntKind.u64.wrap (IntKind.u64.wrap (ibits BinOp.and IntKind.u64 (IntKind.u64.wrap (Int.fdiv (IntKind.u64.wrap (ibits BinOp.and IntKind.u64 (Int.fdiv (IntKind.u64.wrap (ibits BinOp.and IntKind.u64 (Int.fdiv x ((2:Int) ^ (1:Nat))) (6148914691236517205:Int)+ibits BinOp.and IntKind.u64 x (6148914691236517205:Int))) ((2:Int) ^ (2:Nat))) (3689348814741910323:Int)+ibits BinOp.and IntKind.u64 (IntKind.u64.wrap (ibits BinOp.and IntKind.u64 (Int.fdiv x ((2:Int) ^ (1:Nat))) (6148914691236517205:Int)+ibits BinOp.and IntKind.u64 x (6148914691236517205:Int))) (3689348814741910323:Int))) ((2:Int) ^ (4:Nat))+IntKind.u64.wrap (ibits BinOp.and IntKind.u64 (Int.fdiv (IntKind.u64.wrap (ibits BinOp.and IntKind.u64 (Int.fdiv x ((2:Int) ^ (1:Nat))) (6148914691236517205:Int)+ibits BinOp.and IntKind.u64 x (6148914691236517205:Int))) ((2:Int) ^ (2:Nat))) (3689348814741910323:Int)+ibits BinOp.and IntKind.u64 (IntKind.u64.wrap (ibits BinOp.and IntKind.u64 (Int.fdiv x ((2:Int) ^ (1:Nat))) (6148914691236517205:Int)+ibits BinOp.and IntKind.u64 x (6148914691236517205:Int))) (3689348814741910323:Int)))) (1085102592571150095:Int)+Int.fdiv (ibits BinOp.and IntKind.u64 (IntKind.u64.wrap (Int.fdiv (IntKind.u64.wrap (ibits BinOp.and IntKind.u64 (Int.fdiv (IntKind.u64.wrap (ibits BinOp.and IntKind.u64 (Int.fdiv x ((2:Int) ^ (1:Nat))) (6148914691236517205:Int)+ibits BinOp.and IntKind.u64 x (6148914691236517205:Int))) ((2:Int) ^ (2:Nat))) (3689348814741910323:Int)+ibits BinOp.and IntKind.u64 (IntKind.u64.wrap (ibits BinOp.and IntKind.u64 (Int.fdiv x ((2:Int) ^ (1:Nat))) (6148914691236517205:Int)+ibits BinOp.and IntKind.u64 x (6148914691236517205:Int))) (3689348814741910323:Int))) ((2:Int) ^ (4:Nat))+IntKind.u64.wrap (ibits BinOp.and IntKind.u64 (Int.fdiv (IntKind.u64.wrap (ibits BinOp.and IntKind.u64 (Int.fdiv x ((2:Int) ^ (1:Nat))) (6148914691236517205:Int)+ibits BinOp.and IntKind.u64 x (6148914691236517205:Int))) ((2:Int) ^ (2:Nat))) (3689348814741910323:Int)+ibits BinOp.and IntKind.u64 (IntKind.u64.wrap (ibits BinOp.and IntKind.u64 (Int.fdiv x ((2:Int) ^ (1:Nat))) (6148914691236517205:Int)+ibits BinOp.and IntKind.u64 x (6148914691236517205:Int))) (3689348814741910323:Int)))) (1085102592571150095:Int)) ((2:Int) ^ (8:Nat)))+Int.fdiv (IntKind.u64.wrap (ibits BinOp.and IntKind.u64 (IntKind.u64.wrap (Int.fdiv (IntKind.u64.wrap (ibits BinOp.and IntKind.u64 (Int.fdiv (IntKind.u64.wrap (ibits BinOp.and IntKind.u64 (Int.fdiv x ((2:Int) ^ (1:Nat))) (6148914691236517205:Int)+ibits BinOp.and IntKind.u64 x (6148914691236517205:Int))) ((2:Int) ^ (2:Nat))) (3689348814741910323:Int)+ibits BinOp.and IntKind.u64 (IntKind.u64.wrap (ibits BinOp.and IntKind.u64 (Int.fdiv x ((2:Int) ^ (1:Nat))) (6148914691236517205:Int)+ibits BinOp.and IntKind.u64 x (6148914691236517205:Int))) (3689348814741910323:Int))) ((2:Int) ^ (4:Nat))+IntKind.u64.wrap (ibits BinOp.and IntKind.u64 (Int.fdiv (IntKind.u64.wrap (ibits BinOp.and IntKind.u64 (Int.fdiv x ((2:Int) ^ (1:Nat))) (6148914691236517205:Int)+ibits BinOp.and IntKind.u64 x (6148914691236517205:Int))) ((2:Int) ^ (2:Nat))) (3689348814741910323:Int)+ibits BinOp.and IntKind.u64 (IntKind.u64.wrap (ibits BinOp.and IntKind.u64 (Int.fdiv x ((2:Int) ^ (1:Nat))) (6148914691236517205:Int)+ibits BinOp.and IntKind.u64 x (6148914691236517205:Int))) (3689348814741910323:Int)))) (1085102592571150095:Int)+Int.fdiv (ibits BinOp.and IntKind.u64 (IntKind.u64.wrap (Int.fdiv (IntKind.u64.wrap (ibits BinOp.and IntKind.u64 (Int.fdiv (IntKind.u64.wrap (ibits BinOp.and IntKind.u64 (Int.fdiv x ((2:Int) ^ (1:Nat))) (6148914691236517205:Int)+ibits BinOp.and IntKind.u64 x (6148914691236517205:Int))) ((2:Int) ^ (2:Nat))) (3689348814741910323:Int)+ibits BinOp.and IntKind.u64 (IntKind.u64.wrap (ibits BinOp.and IntKind.u64 (Int.fdiv x ((2:Int) ^ (1:Nat))) (6148914691236517205:Int)+ibits BinOp.and IntKind.u64 x (6148914691236517205:Int))) (3689348814741910323:Int))) ((2:Int) ^ (4:Nat))+IntKind.u64.wrap (ibits BinOp.and IntKind.u64 (Int.fdiv (IntKind.u64.wrap (ibits BinOp.and IntKind.u64 (Int.fdiv x ((2:Int) ^ (1:Nat))) (6148914691236517205:Int)+ibits BinOp.and IntKind.u64 x (6148914691236517205:Int))) ((2:Int) ^ (2:Nat))) (3689348814741910323:Int)+ibits BinOp.and IntKind.u64 (IntKind.u64.wrap (ibits BinOp.and IntKind.u64 (Int.fdiv x ((2:Int) ^ (1:Nat))) (6148914691236517205:Int)+ibits BinOp.and IntKind.u64 x (6148914691236517205:Int))) (3689348814741910323:Int)))) (1085102592571150095:Int)) ((2:Int) ^ (8:Nat)))) ((2:Int) ^ (16:Nat)))+Int.fdiv (IntKind.u64.wrap (IntKind.u64.wrap (ibits BinOp.and IntKind.u64 (IntKind.u64.wrap (Int.fdiv (IntKind.u64.wrap (ibits BinOp.and IntKind.u64 (Int.fdiv (IntKind.u64.wrap (ibits BinOp.and IntKind.u64 (Int.fdiv x ((2:Int) ^ (1:Nat))) (6148914691236517205:Int)+ibits BinOp.and IntKind.u64 x (6148914691236517205:Int))) ((2:Int) ^ (2:Nat))) (3689348814741910323:Int)+ibits BinOp.and IntKind.u64 (IntKind.u64.wrap (ibits BinOp.and IntKind.u64 (Int.fdiv x ((2:Int) ^ (1:Nat))) (6148914691236517205:Int)+ibits BinOp.and IntKind.u64 x (6148914691236517205:Int))) (3689348814741910323:Int))) ((2:Int) ^ (4:Nat))+IntKind.u64.wrap (ibits BinOp.and IntKind.u64 (Int.fdiv (IntKind.u64.wrap (ibits BinOp.and IntKind.u64 (Int.fdiv x ((2:Int) ^ (1:Nat))) (6148914691236517205:Int)+ibits BinOp.and IntKind.u64 x (6148914691236517205:Int))) ((2:Int) ^ (2:Nat))) (3689348814741910323:Int)+ibits BinOp.and IntKind.u64 (IntKind.u64.wrap (ibits BinOp.and IntKind.u64 (Int.fdiv x ((2:Int) ^ (1:Nat))) (6148914691236517205:Int)+ibits BinOp.and IntKind.u64 x (6148914691236517205:Int))) (3689348814741910323:Int)))) (1085102592571150095:Int)+Int.fdiv (ibits BinOp.and IntKind.u64 (IntKind.u64.wrap (Int.fdiv (IntKind.u64.wrap (ibits BinOp.and IntKind.u64 (Int.fdiv (IntKind.u64.wrap (ibits BinOp.and IntKind.u64 (Int.fdiv x ((2:Int) ^ (1:Nat))) (6148914691236517205:Int)+ibits BinOp.and IntKind.u64 x (6148914691236517205:Int))) ((2:Int) ^ (2:Nat))) (3689348814741910323:Int)+ibits BinOp.and IntKind.u64 (IntKind.u64.wrap (ibits BinOp.and IntKind.u64 (Int.fdiv x ((2:Int) ^ (1:Nat))) (6148914691236517205:Int)+ibits BinOp.and IntKind.u64 x (6148914691236517205:Int))) (3689348814741910323:Int))) ((2:Int) ^ (4:Nat))+IntKind.u64.wrap (ibits BinOp.and IntKind.u64 (Int.fdiv (IntKind.u64.wrap (ibits BinOp.and IntKind.u64 (Int.fdiv x ((2:Int) ^ (1:Nat))) (6148914691236517205:Int)+ibits BinOp.and IntKind.u64 x (6148914691236517205:Int))) ((2:Int) ^ (2:Nat))) (3689348814741910323:Int)+ibits BinOp.and IntKind.u64 (IntKind.u64.wrap (ibits BinOp.and IntKind.u64 (Int.fdiv x ((2:Int) ^ (1:Nat))) (6148914691236517205:Int)+ibits BinOp.and IntKind.u64 x (6148914691236517205:Int))) (3689348814741910323:Int)))) (1085102592571150095:Int)) ((2:Int) ^ (8:Nat)))+Int.fdiv (IntKind.u64.wrap (ibits BinOp.and IntKind.u64 (IntKind.u64.wrap (Int.fdiv (IntKind.u64.wrap (ibits BinOp.and IntKind.u64 (Int.fdiv (IntKind.u64.wrap (ibits BinOp.and IntKind.u64 (Int.fdiv x ((2:Int) ^ (1:Nat))) (6148914691236517205:Int)+ibits BinOp.and IntKind.u64 x (6148914691236517205:Int))) ((2:Int) ^ (2:Nat))) (3689348814741910323:Int)+ibits BinOp.and IntKind.u64 (IntKind.u64.wrap (ibits BinOp.and IntKind.u64 (Int.fdiv x ((2:Int) ^ (1:Nat))) (6148914691236517205:Int)+ibits BinOp.and IntKind.u64 x (6148914691236517205:Int))) (3689348814741910323:Int))) ((2:Int) ^ (4:Nat))+IntKind.u64.wrap (ibits BinOp.and IntKind.u64 (Int.fdiv (IntKind.u64.wrap (ibits BinOp.and IntKind.u64 (Int.fdiv x ((2:Int) ^ (1:Nat))) (6148914691236517205:Int)+ibits BinOp.and IntKind.u64 x (6148914691236517205:Int))) ((2:Int) ^ (2:Nat))) (3689348814741910323:Int)+ibits BinOp.and IntKind.u64 (IntKind.u64.wrap (ibits BinOp.and IntKind.u64 (Int.fdiv x ((2:Int) ^ (1:Nat))) (6148914691236517205:Int)+ibits BinOp.and IntKind.u64 x (6148914691236517205:Int))) (3689348814741910323:Int)))) (1085102592571150095:Int)+Int.fdiv (ibits BinOp.and IntKind.u64 (IntKind.u64.wrap (Int.fdiv (IntKind.u64.wrap (ibits BinOp.and IntKind.u64 (Int.fdiv (IntKind.u64.wrap (ibits BinOp.and IntKind.u64 (Int.fdiv x ((2:Int) ^ (1:Nat))) (6148914691236517205:Int)+ibits BinOp.and IntKind.u64 x (6148914691236517205:Int))) ((2:Int) ^ (2:Nat))) (3689348814741910323:Int)+ibits BinOp.and IntKind.u64 (IntKind.u64.wrap (ibits BinOp.and IntKind.u64 (Int.fdiv x ((2:Int) ^ (1:Nat))) (6148914691236517205:Int)+ibits BinOp.and IntKind.u64 x (6148914691236517205:Int))) (3689348814741910323:Int))) ((2:Int) ^ (4:Nat))+IntKind.u64.wrap (ibits BinOp.and IntKind.u64 (Int.fdiv (IntKind.u64.wrap (ibits BinOp.and IntKind.u64 (Int.fdiv x ((2:Int) ^ (1:Nat))) (6148914691236517205:Int)+ibits BinOp.and IntKind.u64 x (6148914691236517205:Int))) ((2:Int) ^ (2:Nat))) (3689348814741910323:Int)+ibits BinOp.and IntKind.u64 (IntKind.u64.wrap (ibits BinOp.and IntKind.u64 (Int.fdiv x ((2:Int) ^ (1:Nat))) (6148914691236517205:Int)+ibits BinOp.and IntKind.u64 x (6148914691236517205:Int))) (3689348814741910323:Int)))) (1085102592571150095:Int)) ((2:Int) ^ (8:Nat)))) ((2:Int) ^ (16:Nat)))) ((2:Int) ^ (32:Nat))))) (127:Int))
def JN.ce:Go.Ql.Callee:=⟨[(.int .u64)],[(.int .i64)],fun x_=>JN x_⟩
def JN.G:Env:=⟨35,tab,[],[0,2],[],[],[],[],jZ⟩
theorem JN.eq (x_:dens JN.ce.params):den JN.G Try.f136 JN.ce.params JN.ce.res x_=JN.ce.F x_:=by kernel_rfl
theorem JN.ok:CalleeOk Try.prog 136 JN.ce:=fn_ok (G:=JN.G) Jj mixed Try.func136 ⟨Ja,jR,jA⟩ (m:=0) (by kernel_rfl) trivial (by kernel_rfl) JN.eq
def JA (x:Int):Option Int:=
 bnd (W.JN x) fun y=>
 some y
def JA.ce:Go.Ql.Callee:=⟨[(.int .u64)],[(.int .i64)],fun x_=>JA x_⟩
def JA.G:Env:=⟨8,tab,[(135,Jl.ce),(136,JN.ce)],[0,2],[],[],[],[],jZ⟩
theorem JA.eq (x_:dens JA.ce.params):den JA.G Try.f118 JA.ce.params JA.ce.res x_=JA.ce.F x_:=by kernel_rfl
theorem JA.ok:CalleeOk Try.prog 118 JA.ce:=fn_ok (G:=JA.G) Jj mixed Try.func118 ⟨(jx Jl.ok (jx JN.ok Ja)),jR,jA⟩ (m:=0) (by kernel_rfl) trivial (by kernel_rfl) JA.eq
abbrev tb11:SD:=.one (.val (.st (.pair (.int .u64) (.pair (.int .u64) .bool))))
abbrev tb12:SD:=.one (.ref 3 0)
def jH.c1 {ρ:Type} (p0:Int) (p1:Int) (o0:Int) (o1:Int) (k_:Bool→Option ρ):Option ρ:=
 bnd (W.JA (ibits BinOp.and IntKind.u64 p0 o1)) fun y=>
 bnd (W.JA (ibits BinOp.and IntKind.u64 p1 o0)) fun y_1=>
 k_ (ibits BinOp.and IntKind.i64 y (1:Int) != ibits BinOp.and IntKind.i64 y_1 (1:Int))
def jH.c1s:Shape:=⟨[(0,tb11),(1,tb11),(2,tb2),(3,tb12),(4,tb7)],[(2,tb9),(3,tb9)]⟩
def jH.c1x0:Shape:=jH.c1s
def jH.c1r:Ck:=Ck.of (T:=Bool) jH.c1s (fun ρ x_ k_=>jH.c1 x_.2.2.2.1 x_.2.2.2.2.1 x_.2.2.2.2.2.2.1 x_.2.2.2.2.2.2.2.1 k_) (fun ρ x_ r_ k_=>k_ 0 (Shape.inj jH.c1x0 (x_.1,x_.2.1,r_,x_.2.2.2)))
def jH (p:YP) (o:YP):Option Bool:=
 bnd (W.jH.c1 p.1 p.2.1 o.1 o.2.1 some) fun y=>
 some y
def jH.ce:Go.Ql.Callee:=⟨[(.st (.pair (.int .u64) (.pair (.int .u64) .bool))),(.st (.pair (.int .u64) (.pair (.int .u64) .bool)))],[.bool],fun x_=>jH x_.1 x_.2⟩
def jH.G:Env:=⟨20,tab,[(118,JA.ce)],[0,1,2,3,4],[],[(1,[⟨[],[],[7,8,12,13,14,15,16],[]⟩,⟨[0],[],[7,8,12,13,14,15,16],[]⟩,⟨[],[],[5,6,12,13,14,15,16],[]⟩,⟨[2],[],[5,6,12,13,14,15,16],[]⟩,⟨[1,0,3,2],[],[12,13,14,15,16],[]⟩,⟨[4,1,0,3,2],[],[12,13,14,15,16],[]⟩,⟨[5,4,1,0,3,2],[],[12,13,14,15,16,17,18],[]⟩,⟨[],[],[5,6,7,8,9,10,11,14,15],[]⟩,⟨[7],[],[5,6,7,8,9,10,11,14,15],[]⟩,⟨[],[],[5,6,7,8,9,10,11,12,13],[]⟩,⟨[9],[],[5,6,7,8,9,10,11,12,13],[]⟩,⟨[8,7,10,9],[],[5,6,7,8,9,10,11],[]⟩,⟨[11,8,7,10,9,5,4,1,0,3,2],[],[11],[]⟩,⟨[12,11,8,7,10,9,5,4,1,0,3,2],[],[11],[]⟩,⟨[6,5,4,1,0,3,2,13,12,11,8,7,10,9],[],[],[]⟩,⟨[14,6,5,4,1,0,3,2,13,12,11,8,7,10,9],[],[],[]⟩])],[(1,jH.c1r)],[],jZ⟩
theorem jH.eq (x_:dens jH.ce.params):den jH.G Try.f85 jH.ce.params jH.ce.res x_=jH.ce.F x_:=by kernel_rfl
theorem jH.p0:PcA jH.G Try.f85 0:=
 ju (s:=jH.c1r) (by kernel_rfl) (by kernel_rfl) (jt (sh:=jH.c1s) (fun ρ x_ k_=>(jc fun _=>(jc fun _=>jd))) (fun ρ x_ t k=>(by kernel_rfl)) (fun x_=>by kernel_rfl))
theorem jH.ok:CalleeOk Try.prog 85 jH.ce:=fn_ok (G:=jH.G) Jj mixed Try.func85 ⟨(jx JA.ok Ja),jR,jA⟩ (m:=1) (by kernel_rfl) ⟨trivial,jH.p0⟩ (by kernel_rfl) jH.eq
abbrev tb13:SD:=.one (.val (.int .u64))
abbrev tb17:SD:=.one (.val (.sl (.st (.pair (.int .u64) (.pair (.int .u64) .bool)))))
abbrev tb19:SO:=.box [.val (.int .i64),.val (.int .i64)]
abbrev tb20:SD:=.one (.own 5 0)
abbrev tb21:SD:=.one (.val (.sl .str))
abbrev tb22:SO:=.arr 0 false 80 (.st (.pair (.int .u64) (.pair (.int .u64) .bool)))
abbrev tb23:SD:=.one (.ref 11 0)
abbrev tb25:SD:=.one (.val (.st (.pair (.int .i64) (.pair (.int .i64) (.pair (.sl (.int .i64)) (.pair (.int .i64) (.pair (.int .i64) (.sl (.int .i64)))))))))
abbrev tb26:SO:=.box [.val (.int .i64),.val (.int .i64),.val (.sl (.int .i64)),.val (.int .i64),.val (.int .i64),.val (.sl (.int .i64))]
abbrev tb27:SD:=.one (.ref 8 0)
def ja.self.pre:Shape:=⟨[(0,tb11),(1,tb25)],[]⟩
def ja.self.post:Shape:=⟨[(0,tb11)],[]⟩
class ja.Self where
 F:densU ja.self.pre.tys→Option (densU ja.self.post.tys)
 ok:MOk Try.prog 57 ⟨57,ja.self.pre,ja.self.post,F⟩
section
variable [ja.Self]
def ja.self (x_:densU ja.self.pre.tys):Option (densU ja.self.post.tys):=ja.Self.F x_
def ja.self.mc:MCallee:=⟨57,ja.self.pre,ja.self.post,fun x_=>ja.self x_⟩
theorem ja.self.ok:MOk Try.prog 57 ja.self.mc:=ja.Self.ok
def ja.pre:Shape:=⟨[(0,tb11),(1,tb25)],[]⟩
def ja.post:Shape:=⟨[(0,tb11)],[]⟩
def ja.c2 {ρ:Type} (q:Int) (k_:Unit→Option ρ):Option ρ:=
 bnd (okIf (decide ((0:Int)≤q))) fun y=>
 bnd (okIf (decide ((0:Int)≤q))) fun y_1=>
 k_ ()
def ja.c2s:Shape:=⟨[(0,tb11),(1,tb25),(2,tb2),(3,tb12),(4,tb6),(5,tb13)],[(2,tb9),(3,tb26),(4,tb9)]⟩
def ja.c2x0:Shape:=⟨[(0,tb11),(1,tb25),(2,tb2),(3,tb12),(4,tb6),(5,tb13),(6,tb13),(7,tb13)],[(2,tb9),(3,tb26),(4,tb9)]⟩
def ja.c2r:Ck:=Ck.of (T:=Unit) ja.c2s (fun ρ x_ k_=>ja.c2 x_.2.2.1 k_) (fun ρ x_ r_ k_=>k_ 0 (Shape.inj ja.c2x0 (x_.1,x_.2.1,x_.2.2.1,(ibits BinOp.and IntKind.u64 (Int.fdiv x_.2.2.2.1 ((2:Int) ^ Min.min (Int.toNat x_.2.2.1) (64:Nat))) (1:Int)),(ibits BinOp.and IntKind.u64 (Int.fdiv x_.2.2.2.2.1 ((2:Int) ^ Min.min (Int.toNat x_.2.2.1) (64:Nat))) (1:Int)),x_.2.2.2)))
def ja.c216391 {ρ:Type} (q:Int) (x:Int) (z:Int) (p0:Int) (p1:Int) (k_:Int×Int→Option ρ):Option ρ:=
 br (x != z)
 (bnd (okIf (decide ((0:Int)≤q))) fun y=>
 bnd (okIf (decide ((0:Int)≤q))) fun y_1=>
 k_ ((ibits BinOp.xor IntKind.u64 p0 (IntKind.u64.wrap ((1:Int)*(2:Int) ^ Min.min (Int.toNat q) (64:Nat)))),(ibits BinOp.xor IntKind.u64 p1 (IntKind.u64.wrap ((1:Int)*(2:Int) ^ Min.min (Int.toNat q) (64:Nat))))))
 (k_ (p0,p1))
def ja.c216391s:Shape:=ja.c2x0
def ja.c216391x0:Shape:=ja.c2x0
def ja.c216391r:Ck:=Ck.of (T:=Int×Int) ja.c216391s (fun ρ x_ k_=>ja.c216391 x_.2.2.1 x_.2.2.2.1 x_.2.2.2.2.1 x_.2.2.2.2.2.1 x_.2.2.2.2.2.2.1 k_) (fun ρ x_ r_ k_=>k_ 0 (Shape.inj ja.c216391x0 (x_.1,x_.2.1,x_.2.2.1,x_.2.2.2.1,x_.2.2.2.2.1,r_.1,r_.2,x_.2.2.2.2.2.2.2)))
def ja.c8 {ρ:Type} (o0:Int) (o2:List Int) (k_:Bool→Option ρ):Option ρ:=
 br (o0 == (4:Int))
 (k_ ((↑(List.length o2):Int) == (0:Int)))
 (k_ false)
def ja.c8s:Shape:=ja.c2x0
def ja.c8x0:Shape:=⟨[(0,tb11),(1,tb25),(2,tb2),(3,tb12),(4,tb6),(5,tb13),(6,tb13),(7,tb13),(52,tb7)],[(2,tb9),(3,tb26),(4,tb9)]⟩
def ja.c8r:Ck:=Ck.of (T:=Bool) ja.c8s (fun ρ x_ k_=>ja.c8 x_.2.2.2.2.2.2.2.2.1 x_.2.2.2.2.2.2.2.2.2.2.1 k_) (fun ρ x_ r_ k_=>k_ 0 (Shape.inj ja.c8x0 (x_.1,x_.2.1,x_.2.2.1,x_.2.2.2.1,x_.2.2.2.2.1,r_,x_.2.2.2.2.2)))
def ja.c11 {ρ:Type} (q:Int) (k_:Unit→Option ρ):Option ρ:=
 bnd (okIf (decide ((0:Int)≤q))) fun y=>
 bnd (okIf (decide ((0:Int)≤q))) fun y_1=>
 k_ ()
def ja.c11s:Shape:=⟨[(0,tb11),(1,tb25),(2,tb2),(3,tb12),(4,tb6),(5,tb13),(6,tb13),(7,tb13),(64,tb5),(65,tb5)],[(2,tb9),(3,tb26),(4,tb9)]⟩
def ja.c11x0:Shape:=ja.c11s
def ja.c11r:Ck:=Ck.of (T:=Unit) ja.c11s (fun ρ x_ k_=>ja.c11 x_.2.2.1 k_) (fun ρ x_ r_ k_=>k_ 0 (Shape.inj ja.c11x0 (x_.1,x_.2.1,x_.2.2.1,(ibits BinOp.and IntKind.u64 (Int.fdiv x_.2.2.2.2.2.2.2.1 ((2:Int) ^ Min.min (Int.toNat x_.2.2.1) (64:Nat))) (1:Int)),(ibits BinOp.and IntKind.u64 (Int.fdiv x_.2.2.2.2.2.2.2.2.1 ((2:Int) ^ Min.min (Int.toNat x_.2.2.1) (64:Nat))) (1:Int)),x_.2.2.2.2.2)))
def ja.c100010 {ρ:Type} (q:Int) (x:Int) (z:Int) (t64:Int) (t65:Int) (p0:Int) (p1:Int) (p2:Bool) (k_:(Int×Int×Int×Int×Bool)⊕(Int×Int×Int×Int×Bool)→Option ρ):Option ρ:=
 br (decide (t65 < t64))
 (bnd (W.ja.c11 q some) fun y=>
 bnd (okIf (decide ((0:Int)≤q))) fun y_1=>
 k_ (.inl ((ibits BinOp.and IntKind.u64 (Int.fdiv p0 ((2:Int) ^ Min.min (Int.toNat q) (64:Nat))) (1:Int)),(ibits BinOp.and IntKind.u64 (Int.fdiv p1 ((2:Int) ^ Min.min (Int.toNat q) (64:Nat))) (1:Int)),(IntKind.i64.wrap (t65+(1:Int))),(ibits BinOp.xor IntKind.u64 p1 (IntKind.u64.wrap (ibits BinOp.and IntKind.u64 (Int.fdiv p0 ((2:Int) ^ Min.min (Int.toNat q) (64:Nat))) (1:Int)*(2:Int) ^ Min.min (Int.toNat q) (64:Nat)))),(!p2 == (ibits BinOp.and IntKind.u64 (ibits BinOp.and IntKind.u64 (Int.fdiv p0 ((2:Int) ^ Min.min (Int.toNat q) (64:Nat))) (1:Int)) (ibits BinOp.and IntKind.u64 (Int.fdiv p1 ((2:Int) ^ Min.min (Int.toNat q) (64:Nat))) (1:Int)) == (1:Int))))))
 (k_ (.inr (x,z,t65,p1,p2)))
def ja.c100010s:Shape:=ja.c11s
def ja.c100010x0:Shape:=ja.c11s
def ja.c100010r:Ck:=Ck.ofLoop (S:=Int×Int×Int×Int×Bool) (T:=Int×Int×Int×Int×Bool) ja.c100010s (fun x_=>(x_.2.2.2.1,x_.2.2.2.2.1,x_.2.2.2.2.2.2.1,x_.2.2.2.2.2.2.2.2.1,x_.2.2.2.2.2.2.2.2.2.1)) (fun ρ x_ s_ k_=>ja.c100010 x_.2.2.1 s_.1 s_.2.1 x_.2.2.2.2.2.1 s_.2.2.1 x_.2.2.2.2.2.2.2.1 s_.2.2.2.1 s_.2.2.2.2 k_) (fun ρ x_ r_ k_=>k_ 3 (Shape.inj ja.c100010x0 (x_.1,x_.2.1,x_.2.2.1,r_.1,r_.2.1,x_.2.2.2.2.2.1,r_.2.2.1,x_.2.2.2.2.2.2.2.1,r_.2.2.2.1,r_.2.2.2.2,x_.2.2.2.2.2.2.2.2.2.2)))
def ja.c15 {ρ:Type} (o0:Int) (o1:Int) (k_:Bool→Option ρ):Option ρ:=
 br (o0 == (4:Int))
 (k_ (o1 == (8:Int)))
 (k_ false)
def ja.c15s:Shape:=ja.c2x0
def ja.c15x0:Shape:=⟨[(0,tb11),(1,tb25),(2,tb2),(3,tb12),(4,tb6),(5,tb13),(6,tb13),(7,tb13),(93,tb7)],[(2,tb9),(3,tb26),(4,tb9)]⟩
def ja.c15r:Ck:=Ck.of (T:=Bool) ja.c15s (fun ρ x_ k_=>ja.c15 x_.2.2.2.2.2.2.2.2.1 x_.2.2.2.2.2.2.2.2.2.1 k_) (fun ρ x_ r_ k_=>k_ 0 (Shape.inj ja.c15x0 (x_.1,x_.2.1,x_.2.2.1,x_.2.2.2.1,x_.2.2.2.2.1,r_,x_.2.2.2.2.2)))
def ja.c17 {ρ:Type} (p0:Int) (p1:Int) (p2:Bool) (o2:List Int) (o3:Int) (h0:Int) (h1:Int) (h2:List Int) (h3:Int) (h4:Int) (h5:List Int) (k_:Int×Int×Bool→Option ρ):Option ρ:=
 bnd (W.ja.self ((p0,p1,p2),(h0,h1,h2,h3,h4,h5),())) fun y=>
 bnd (W.ja.self (y.1,((2:Int),(0:Int),o2,o3,(0:Int),[]),())) fun y_1=>
 bnd (W.ja.self (y_1.1,(h0,h1,h2,h3,h4,h5),())) fun y_2=>
 k_ (y_2.1.1,y_2.1.2.1,y_2.1.2.2)
def ja.c17s:Shape:=⟨[(0,tb11),(1,tb25),(2,tb2),(3,tb12),(4,tb6),(5,tb13),(6,tb13),(7,tb13),(8,tb27)],[(2,tb9),(3,tb26),(4,tb9),(8,tb26)]⟩
def ja.c17x0:Shape:=ja.c17s
def ja.c17r:Ck:=Ck.of (T:=Int×Int×Bool) ja.c17s (fun ρ x_ k_=>ja.c17 x_.2.2.2.2.2.1 x_.2.2.2.2.2.2.1 x_.2.2.2.2.2.2.2.1 x_.2.2.2.2.2.2.2.2.2.2.1 x_.2.2.2.2.2.2.2.2.2.2.2.1 x_.2.2.2.2.2.2.2.2.2.2.2.2.2.2.2.2.2.1 x_.2.2.2.2.2.2.2.2.2.2.2.2.2.2.2.2.2.2.1 x_.2.2.2.2.2.2.2.2.2.2.2.2.2.2.2.2.2.2.2.1 x_.2.2.2.2.2.2.2.2.2.2.2.2.2.2.2.2.2.2.2.2.1 x_.2.2.2.2.2.2.2.2.2.2.2.2.2.2.2.2.2.2.2.2.2.1 x_.2.2.2.2.2.2.2.2.2.2.2.2.2.2.2.2.2.2.2.2.2.2.1 k_) (fun ρ x_ r_ k_=>k_ 0 (Shape.inj ja.c17x0 (x_.1,x_.2.1,x_.2.2.1,x_.2.2.2.1,x_.2.2.2.2.1,r_.1,r_.2.1,r_.2.2,x_.2.2.2.2.2.2.2.2)))
def ja.c18 {ρ:Type} (o0:Int) (o2:List Int) (k_:Bool→Option ρ):Option ρ:=
 br (o0 == (2:Int))
 (k_ ((↑(List.length o2):Int) == (0:Int)))
 (k_ false)
def ja.c18s:Shape:=ja.c2x0
def ja.c18x0:Shape:=⟨[(0,tb11),(1,tb25),(2,tb2),(3,tb12),(4,tb6),(5,tb13),(6,tb13),(7,tb13),(116,tb7)],[(2,tb9),(3,tb26),(4,tb9)]⟩
def ja.c18r:Ck:=Ck.of (T:=Bool) ja.c18s (fun ρ x_ k_=>ja.c18 x_.2.2.2.2.2.2.2.2.1 x_.2.2.2.2.2.2.2.2.2.2.1 k_) (fun ρ x_ r_ k_=>k_ 0 (Shape.inj ja.c18x0 (x_.1,x_.2.1,x_.2.2.1,x_.2.2.2.1,x_.2.2.2.2.1,r_,x_.2.2.2.2.2)))
def ja.c22 {ρ:Type} (c:Int) (k_:Unit→Option ρ):Option ρ:=
 bnd (okIf (decide ((0:Int)≤c))) fun y=>
 bnd (okIf (decide ((0:Int)≤c))) fun y_1=>
 k_ ()
def ja.c22s:Shape:=⟨[(0,tb11),(1,tb25),(2,tb2),(3,tb12),(4,tb6),(5,tb13),(6,tb13),(7,tb13),(9,tb13)],[(2,tb9),(3,tb26),(4,tb9)]⟩
def ja.c22x0:Shape:=⟨[(0,tb11),(1,tb25),(2,tb2),(3,tb12),(4,tb6),(5,tb13),(6,tb13),(7,tb13),(9,tb13),(10,tb13),(11,tb13)],[(2,tb9),(3,tb26),(4,tb9)]⟩
def ja.c22r:Ck:=Ck.of (T:=Unit) ja.c22s (fun ρ x_ k_=>ja.c22 x_.2.2.2.2.2.1 k_) (fun ρ x_ r_ k_=>k_ 0 (Shape.inj ja.c22x0 (x_.1,x_.2.1,x_.2.2.1,x_.2.2.2.1,x_.2.2.2.2.1,x_.2.2.2.2.2.1,(ibits BinOp.and IntKind.u64 (Int.fdiv x_.2.2.2.2.2.2.1 ((2:Int) ^ Min.min (Int.toNat x_.2.2.2.2.2.1) (64:Nat))) (1:Int)),(ibits BinOp.and IntKind.u64 (Int.fdiv x_.2.2.2.2.2.2.2.1 ((2:Int) ^ Min.min (Int.toNat x_.2.2.2.2.2.1) (64:Nat))) (1:Int)),x_.2.2.2.2.2.2)))
def ja.c23 {ρ:Type} (x:Int) (z:Int) (cx:Int) (cz:Int) (p2:Bool) (k_:Bool→Option ρ):Option ρ:=
 br (ibits BinOp.and IntKind.u64 cx z == (1:Int))
 (k_ (!p2 == (x == cz)))
 (k_ (!p2 == false))
def ja.c23s:Shape:=ja.c22x0
def ja.c23x0:Shape:=ja.c22x0
def ja.c23r:Ck:=Ck.of (T:=Bool) ja.c23s (fun ρ x_ k_=>ja.c23 x_.2.2.2.1 x_.2.2.2.2.1 x_.2.2.2.2.2.2.1 x_.2.2.2.2.2.2.2.1 x_.2.2.2.2.2.2.2.2.2.2.1 k_) (fun ρ x_ r_ k_=>k_ 0 (Shape.inj ja.c23x0 (x_.1,x_.2.1,x_.2.2.1,x_.2.2.2.1,x_.2.2.2.2.1,x_.2.2.2.2.2.1,x_.2.2.2.2.2.2.1,x_.2.2.2.2.2.2.2.1,x_.2.2.2.2.2.2.2.2.1,x_.2.2.2.2.2.2.2.2.2.1,r_,x_.2.2.2.2.2.2.2.2.2.2.2)))
def ja.c212345 {ρ:Type} (q:Int) (x:Int) (z:Int) (p0:Int) (p1:Int) (p2:Bool) (o0:Int) (o1:Int) (o2:List Int) (o3:Int) (k_:Int×Int×Int×Int×Bool→Option ρ):Option ρ:=
 br (o0 == (3:Int))
 (bnd (W.ja.c216391 q x z p0 p1 some) fun y=>
 k_ (x,z,y.1,y.2,(!p2 == (ibits BinOp.and IntKind.u64 x z == (1:Int)))))
 (bnd (W.ja.c8 o0 o2 some) fun y_1=>
 br y_1
 (bnd (iter (fun s↦W.ja.c100010 q s.1 s.2.1 (IntKind.i64.wrap (Int.tdiv o1 (4:Int))) s.2.2.1 p0 s.2.2.2.1 s.2.2.2.2 some) (x,z,(0:Int),p1,p2)) fun y_2=>
 k_ (y_2.1,y_2.2.1,p0,y_2.2.2.2.1,y_2.2.2.2.2))
 (bnd (W.ja.c15 o0 o1 some) fun y_3=>
 br y_3
 (bnd (W.ja.c17 p0 p1 p2 o2 o3 (3:Int) (0:Int) [] o3 (0:Int) [] some) fun y_4=>
 k_ (x,z,y_4.1,y_4.2.1,y_4.2.2))
 (bnd (W.ja.c18 o0 o2 some) fun y_5=>
 br y_5
 (k_ (x,z,p0,p1,(!p2 == (z == (1:Int)))))
 (br (o0 == (2:Int))
 (bnd (idx o2 (0:Int)) fun y_6=>
 bnd (W.ja.c22 (IntKind.wrap IntKind.u64 y_6) some) fun y_7=>
 bnd (W.ja.c23 x z (ibits BinOp.and IntKind.u64 (Int.fdiv p0 ((2:Int) ^ Min.min (Int.toNat (IntKind.wrap IntKind.u64 y_6)) (64:Nat))) (1:Int)) (ibits BinOp.and IntKind.u64 (Int.fdiv p1 ((2:Int) ^ Min.min (Int.toNat (IntKind.wrap IntKind.u64 y_6)) (64:Nat))) (1:Int)) p2 some) fun y_8=>
 bnd (okIf (decide ((0:Int)≤q))) fun y_9=>
 bnd (okIf (decide ((0:Int)≤IntKind.wrap IntKind.u64 y_6))) fun y_10=>
 k_ (x,z,(ibits BinOp.xor IntKind.u64 p0 (IntKind.u64.wrap (ibits BinOp.and IntKind.u64 (Int.fdiv p0 ((2:Int) ^ Min.min (Int.toNat (IntKind.wrap IntKind.u64 y_6)) (64:Nat))) (1:Int)*(2:Int) ^ Min.min (Int.toNat q) (64:Nat)))),(ibits BinOp.xor IntKind.u64 p1 (IntKind.u64.wrap (z*(2:Int) ^ Min.min (Int.toNat (IntKind.wrap IntKind.u64 y_6)) (64:Nat)))),y_8))
 (k_ (x,z,p0,p1,p2))))))
def ja.c212345s:Shape:=ja.c2x0
def ja.c212345x0:Shape:=ja.c2x0
def ja.c212345r:Ck:=Ck.of (T:=Int×Int×Int×Int×Bool) ja.c212345s (fun ρ x_ k_=>ja.c212345 x_.2.2.1 x_.2.2.2.1 x_.2.2.2.2.1 x_.2.2.2.2.2.1 x_.2.2.2.2.2.2.1 x_.2.2.2.2.2.2.2.1 x_.2.2.2.2.2.2.2.2.1 x_.2.2.2.2.2.2.2.2.2.1 x_.2.2.2.2.2.2.2.2.2.2.1 x_.2.2.2.2.2.2.2.2.2.2.2.1 k_) (fun ρ x_ r_ k_=>k_ 0 (Shape.inj ja.c212345x0 (x_.1,x_.2.1,x_.2.2.1,r_.1,r_.2.1,r_.2.2.1,r_.2.2.2.1,r_.2.2.2.2,x_.2.2.2.2.2.2.2.2)))
def ja (p:YP) (o:YO):Option (YP×Unit):=
 bnd (W.ja.c2 (IntKind.u64.wrap o.2.2.2.1) some) fun y=>
 bnd (W.ja.c212345 (IntKind.u64.wrap o.2.2.2.1) (ibits BinOp.and IntKind.u64 (Int.fdiv p.1 ((2:Int) ^ Min.min (Int.toNat (IntKind.u64.wrap o.2.2.2.1)) (64:Nat))) (1:Int)) (ibits BinOp.and IntKind.u64 (Int.fdiv p.2.1 ((2:Int) ^ Min.min (Int.toNat (IntKind.u64.wrap o.2.2.2.1)) (64:Nat))) (1:Int)) p.1 p.2.1 p.2.2 o.1 o.2.1 o.2.2.1 o.2.2.2.1 some) fun y_1=>
 some ((y_1.2.2.1,y_1.2.2.2.1,y_1.2.2.2.2),())
def ja.mc:MCallee:=⟨57,ja.pre,ja.post,fun x_=>ja x_.1 x_.2.1⟩
def ja.G:Env:=⟨179,tab,[],[0,1,2,3,4,5,6,7,8,9,10,11,25,31,52,64,65,66,93,116,132],[],[(22,[⟨[],[],[143,146,147,148,149,150],[]⟩,⟨[0],[],[143,146,147,148,149,150],[]⟩,⟨[],[],[141,142,146,147,148,149,150],[]⟩,⟨[1,0,2],[],[146,147,148,149,150],[]⟩,⟨[3,1,0,2],[],[146,147,148,149,150],[]⟩,⟨[],[],[141,142,143,144,145,148,10],[]⟩,⟨[5],[],[141,142,143,144,145,148,10],[]⟩,⟨[],[],[141,142,143,144,145,146,147,10],[]⟩,⟨[6,5,7],[],[141,142,143,144,145,10],[]⟩,⟨[8,6,5,7],[],[141,142,143,144,145,10],[]⟩,⟨[4,3,1,0,2],[],[146,147,148,149,150],[]⟩,⟨[9,8,6,5,7,10,4,3,1,0,2],[],[],[]⟩]),
 (17,[⟨[],[],[106,108,109,110,111,112,114],[]⟩,⟨[],[],[105,108,109,110,111,112,114],[]⟩,⟨[0,1],[],[108,109,110,111,112,114],[]⟩,⟨[],[],[105,106,107,110,111,114],[]⟩,⟨[3],[],[105,106,107,110,111,114],[]⟩,⟨[],[],[105,106,107,108,109,114],[]⟩,⟨[5],[],[105,106,107,108,109,114],[]⟩,⟨[4,3,6,5],[],[105,106,107,114],[]⟩,⟨[2,0,1,7,4,3,6,5],[],[114],[]⟩,⟨[],[],[105,106,107,108,109,110,111,112,113],[]⟩,⟨[8,2,0,1,7,4,3,6,5,9],[],[],[]⟩,⟨[10,8,2,0,1,7,4,3,6,5,9],[2],[],[]⟩]),
 (11,[⟨[],[],[69,72,73,74,75,76],[]⟩,⟨[0],[],[69,72,73,74,75,76],[]⟩,⟨[],[],[67,68,72,73,74,75,76],[]⟩,⟨[1,0,2],[],[72,73,74,75,76],[]⟩,⟨[3,1,0,2],[],[72,73,74,75,76],[]⟩,⟨[],[],[67,68,69,70,71,74,6],[]⟩,⟨[5],[],[67,68,69,70,71,74,6],[]⟩,⟨[],[],[67,68,69,70,71,72,73,6],[]⟩,⟨[6,5,7],[],[67,68,69,70,71,6],[]⟩,⟨[8,6,5,7],[],[67,68,69,70,71,6],[]⟩,⟨[4,3,1,0,2],[],[72,73,74,75,76],[]⟩,⟨[9,8,6,5,7,10,4,3,1,0,2],[],[],[]⟩]),
 (2,[⟨[],[],[17,20,21,22,23,24],[]⟩,⟨[0],[],[17,20,21,22,23,24],[]⟩,⟨[],[],[15,16,20,21,22,23,24],[]⟩,⟨[1,0,2],[],[20,21,22,23,24],[]⟩,⟨[3,1,0,2],[],[20,21,22,23,24],[]⟩,⟨[],[],[15,16,17,18,19,22,6],[]⟩,⟨[5],[],[15,16,17,18,19,22,6],[]⟩,⟨[],[],[15,16,17,18,19,20,21,6],[]⟩,⟨[6,5,7],[],[15,16,17,18,19,6],[]⟩,⟨[8,6,5,7],[],[15,16,17,18,19,6],[]⟩,⟨[4,3,1,0,2],[],[20,21,22,23,24],[]⟩,⟨[9,8,6,5,7,10,4,3,1,0,2],[],[],[]⟩])],[(212345,ja.c212345r),(23,ja.c23r),(22,ja.c22r),(18,ja.c18r),(17,ja.c17r),(15,ja.c15r),(100010,ja.c100010r),(11,ja.c11r),(8,ja.c8r),(216391,ja.c216391r),(2,ja.c2r)],[(57,ja.self.mc)],jZ⟩
theorem ja.eq (x_:densU ja.mc.pre.tys):denM ja.G Try.f57 ja.mc.pre ja.mc.post x_=ja.mc.F x_:=by kernel_rfl
theorem ja.p0:PcA ja.G Try.f57 0:=
 ju (s:=ja.c2r) (by kernel_rfl) (by kernel_rfl) (jt (sh:=ja.c2s) (fun ρ x_ k_=>(jc fun _=>(jc fun _=>jd))) (fun ρ x_ t k=>(by kernel_rfl)) (fun x_=>by kernel_rfl))
theorem ja.p1:PcA ja.G Try.f57 1:=
 JV (s:=ja.c212345r) (by kernel_rfl) (by kernel_rfl) (jt (sh:=ja.c212345s) (fun ρ x_ k_=>(jm (jc fun _=>jd) (jc fun _=>(jm (jc fun _=>jd) (jc fun _=>(jm (jc fun _=>jd) (jc fun _=>(jm jd (jm (jc fun _=>(jc fun _=>(jc fun _=>(jc fun _=>(jc fun _=>jd))))) jd))))))))) (fun ρ x_ t k=>(by kernel_rfl)) (fun x_=>by kernel_rfl))
theorem ja.p2:PcA ja.G Try.f57 2:=
 JV (s:=ja.c216391r) (by kernel_rfl) (by kernel_rfl) (jt (sh:=ja.c216391s) (fun ρ x_ k_=>(jm (jc fun _=>(jc fun _=>jd)) jd)) (fun ρ x_ t k=>(by kernel_rfl)) (fun x_=>by kernel_rfl))
theorem ja.p3:PcA ja.G Try.f57 3:=
 ju (s:=ja.c8r) (by kernel_rfl) (by kernel_rfl) (jt (sh:=ja.c8s) (fun ρ x_ k_=>(jm jd jd)) (fun ρ x_ t k=>(by kernel_rfl)) (fun x_=>by kernel_rfl))
theorem ja.p4:PcA ja.G Try.f57 4:=
 Jk (s:=ja.c100010r) (by kernel_rfl) (by kernel_rfl) (Jc (sh:=ja.c100010s) (I:=fun x_ s_=>(x_.1,x_.2.1,x_.2.2.1,s_.1,s_.2.1,x_.2.2.2.2.2.1,s_.2.2.1,x_.2.2.2.2.2.2.2.1,s_.2.2.2.1,s_.2.2.2.2,x_.2.2.2.2.2.2.2.2.2.2)) (fun x_=>rfl) (fun ρ x_ s_ k_=>(jm (jc fun _=>(jc fun _=>jd)) jd)) (fun ρ x_ t k=>(by kernel_rfl)) (fun x_ s=>by kernel_rfl))
theorem ja.p5:PcA ja.G Try.f57 5:=
 ju (s:=ja.c11r) (by kernel_rfl) (by kernel_rfl) (jt (sh:=ja.c11s) (fun ρ x_ k_=>(jc fun _=>(jc fun _=>jd))) (fun ρ x_ t k=>(by kernel_rfl)) (fun x_=>by kernel_rfl))
theorem ja.p6:PcA ja.G Try.f57 6:=
 ju (s:=ja.c15r) (by kernel_rfl) (by kernel_rfl) (jt (sh:=ja.c15s) (fun ρ x_ k_=>(jm jd jd)) (fun ρ x_ t k=>(by kernel_rfl)) (fun x_=>by kernel_rfl))
theorem ja.p7:PcA ja.G Try.f57 7:=
 ju (s:=ja.c17r) (by kernel_rfl) (by kernel_rfl) (jt (sh:=ja.c17s) (fun ρ x_ k_=>(jc fun _=>(jc fun _=>(jc fun _=>jd)))) (fun ρ x_ t k=>(by kernel_rfl)) (fun x_=>by kernel_rfl))
theorem ja.p8:PcA ja.G Try.f57 8:=
 ju (s:=ja.c18r) (by kernel_rfl) (by kernel_rfl) (jt (sh:=ja.c18s) (fun ρ x_ k_=>(jm jd jd)) (fun ρ x_ t k=>(by kernel_rfl)) (fun x_=>by kernel_rfl))
theorem ja.p9:PcA ja.G Try.f57 9:=
 ju (s:=ja.c22r) (by kernel_rfl) (by kernel_rfl) (jt (sh:=ja.c22s) (fun ρ x_ k_=>(jc fun _=>(jc fun _=>jd))) (fun ρ x_ t k=>(by kernel_rfl)) (fun x_=>by kernel_rfl))
theorem ja.p10:PcA ja.G Try.f57 10:=
 ju (s:=ja.c23r) (by kernel_rfl) (by kernel_rfl) (jt (sh:=ja.c23s) (fun ρ x_ k_=>(jm jd jd)) (fun ρ x_ t k=>(by kernel_rfl)) (fun x_=>by kernel_rfl))
theorem ja.ok:MOk Try.prog 57 ja.mc:=UI (G:=ja.G) Jj mixed Try.func57 ⟨Ja,(YT ja.self.ok jR),jA⟩ (m:=11) (by kernel_rfl) ⟨⟨⟨⟨⟨⟨⟨⟨⟨⟨⟨trivial,ja.p0⟩,ja.p1⟩,ja.p2⟩,ja.p3⟩,ja.p4⟩,ja.p5⟩,ja.p6⟩,ja.p7⟩,ja.p8⟩,ja.p9⟩,ja.p10⟩ (by kernel_rfl) ja.eq
end
@[reducible] def ja.fuel:Nat→ja.Self
 | 0=>⟨fun _=>none,⟨⟨Try.f57,Try.func57,by kernel_rfl,by kernel_rfl⟩,fun _ _ _ _ _ _ _ hy=>by cases hy⟩⟩
 | n+1=>⟨fun x_=>(@ja.mc (ja.fuel n)).F x_,@ja.ok (ja.fuel n)⟩
def kh (x_:densU ja.self.pre.tys):Option (densU ja.self.post.tys):=(ja.fuel (3)).F x_
def kh.mc:MCallee:=⟨57,ja.self.pre,ja.self.post,fun x_=>kh x_⟩
theorem kh.ok:MOk Try.prog 57 kh.mc:=mok_diag (F:=fun n=>(ja.fuel n).F) (fun n=>(ja.fuel n).ok) (fun x_=>3)
abbrev tb28:SD:=.one (.ref 1000700 0)
abbrev tb30:SO:=.arr 0 false 53 (.st (.pair (.int .i64) (.pair (.int .i64) (.pair (.sl (.int .i64)) (.pair (.int .i64) (.pair (.int .i64) (.sl (.int .i64))))))))
abbrev tb31:SD:=.one (.val (.sl (.st (.pair (.int .i64) (.pair (.int .i64) (.pair (.sl (.int .i64)) (.pair (.int .i64) (.pair (.int .i64) (.sl (.int .i64))))))))))
def kl (code:Int) (t1:Int):Option (Int×Int):=
 some (code,t1)
def kl.ce:Go.Ql.Callee:=⟨[(.int .i64),(.int .i64)],[(.st (.pair (.int .i64) (.int .i64)))],fun x_=>kl x_.1 x_.2⟩
def kl.G:Env:=⟨8,tab,[],[0,1,4],[],[],[],[],jZ⟩
theorem kl.eq (x_:dens kl.ce.params):den kl.G Try.f80 kl.ce.params kl.ce.res x_=kl.ce.F x_:=by kernel_rfl
theorem kl.ok:CalleeOk Try.prog 80 kl.ce:=fn_ok (G:=kl.G) Jj mixed Try.func80 ⟨Ja,jR,jA⟩ (m:=0) (by kernel_rfl) trivial (by kernel_rfl) kl.eq
def JD.c1 {ρ:Type} (kind:Int) (k_:Bool→Option ρ):Option ρ:=
 br (kind == (1:Int))
 (k_ true)
 (k_ (kind == (4:Int)))
def JD.c1s:Shape:=⟨[(0,tb5),(2,tb7)],[]⟩
def JD.c1x0:Shape:=JD.c1s
def JD.c1r:Ck:=Ck.of (T:=Bool) JD.c1s (fun ρ x_ k_=>JD.c1 x_.1 k_) (fun ρ x_ r_ k_=>k_ 0 (Shape.inj JD.c1x0 (x_.1,r_,())))
def JD (kind:Int):Option Bool:=
 bnd (W.JD.c1 kind some) fun y=>
 some y
def JD.ce:Go.Ql.Callee:=⟨[(.int .i64)],[.bool],fun x_=>JD x_⟩
def JD.G:Env:=⟨9,tab,[],[0,2],[],[],[(1,JD.c1r)],[],jZ⟩
theorem JD.eq (x_:dens JD.ce.params):den JD.G Try.f116 JD.ce.params JD.ce.res x_=JD.ce.F x_:=by kernel_rfl
theorem JD.p0:PcA JD.G Try.f116 0:=
 ju (s:=JD.c1r) (by kernel_rfl) (by kernel_rfl) (jt (sh:=JD.c1s) (fun ρ x_ k_=>(jm jd jd)) (fun ρ x_ t k=>(by kernel_rfl)) (fun x_=>by kernel_rfl))
theorem JD.ok:CalleeOk Try.prog 116 JD.ce:=fn_ok (G:=JD.G) Jj mixed Try.func116 ⟨Ja,jR,jA⟩ (m:=1) (by kernel_rfl) ⟨trivial,JD.p0⟩ (by kernel_rfl) JD.eq
def JI.c1 {ρ:Type} (kind:Int) (k_:Bool→Option ρ):Option ρ:=
 br (kind == (2:Int))
 (k_ true)
 (br (kind == (3:Int))
 (k_ true)
 (k_ (kind == (4:Int))))
def JI.c1s:Shape:=⟨[(0,tb5),(2,tb7)],[]⟩
def JI.c1x0:Shape:=JI.c1s
def JI.c1r:Ck:=Ck.of (T:=Bool) JI.c1s (fun ρ x_ k_=>JI.c1 x_.1 k_) (fun ρ x_ r_ k_=>k_ 0 (Shape.inj JI.c1x0 (x_.1,r_,())))
def JI (kind:Int):Option Bool:=
 bnd (W.JI.c1 kind some) fun y=>
 some y
def JI.ce:Go.Ql.Callee:=⟨[(.int .i64)],[.bool],fun x_=>JI x_⟩
def JI.G:Env:=⟨13,tab,[],[0,2],[],[],[(1,JI.c1r)],[],jZ⟩
theorem JI.eq (x_:dens JI.ce.params):den JI.G Try.f117 JI.ce.params JI.ce.res x_=JI.ce.F x_:=by kernel_rfl
theorem JI.p0:PcA JI.G Try.f117 0:=
 ju (s:=JI.c1r) (by kernel_rfl) (by kernel_rfl) (jt (sh:=JI.c1s) (fun ρ x_ k_=>(jm jd (jm jd jd))) (fun ρ x_ t k=>(by kernel_rfl)) (fun x_=>by kernel_rfl))
theorem JI.ok:CalleeOk Try.prog 117 JI.ce:=fn_ok (G:=JI.G) Jj mixed Try.func117 ⟨Ja,jR,jA⟩ (m:=1) (by kernel_rfl) ⟨trivial,JI.p0⟩ (by kernel_rfl) JI.eq
abbrev tb33:SD:=.one (.ref 1000100 0)
abbrev tb34:SO:=.box [.val (.int .i64),.val (.int .i64),.val (.sl (.st (.pair (.int .i64) (.pair (.int .i64) (.pair (.sl (.int .i64)) (.pair (.int .i64) (.pair (.int .i64) (.sl (.int .i64)))))))))]
abbrev tb35:SD:=.one (.aptr 5 0)
abbrev tb36:SD:=.one (.val (.sl (.int .i64)))
abbrev tb37:SO:=.arr 0 false 152 .bool
def jn.pre:Shape:=⟨[(0,tb25),(1,tb33)],[(1000100,tb34)]⟩
def jn.post:Shape:=⟨[(0,tb5)],[(1000100,tb34)]⟩
def jn.c1 {ρ:Type} (o0:Int) (k_:Bool→Option ρ):Option ρ:=
 br (decide (o0 < (1:Int)))
 (k_ true)
 (k_ (decide (o0 > (6:Int))))
def jn.c1s:Shape:=⟨[(0,tb25),(1,tb33),(2,tb2),(4,tb5)],[(2,tb26),(1000100,tb34)]⟩
def jn.c1x0:Shape:=⟨[(0,tb25),(1,tb33),(2,tb2),(4,tb5),(17,tb7)],[(2,tb26),(1000100,tb34)]⟩
def jn.c1r:Ck:=Ck.of (T:=Bool) jn.c1s (fun ρ x_ k_=>jn.c1 x_.2.2.1 k_) (fun ρ x_ r_ k_=>k_ 0 (Shape.inj jn.c1x0 (x_.1,x_.2.1,r_,x_.2.2)))
def jn.c3 {ρ:Type} (o0:Int) (o1:Int) (k_:Bool→Option ρ):Option ρ:=
 br (decide (o1 < (0:Int)))
 (k_ true)
 (br (decide (o1 > (15:Int)))
 (k_ true)
 (bnd (W.JD o0) fun y=>
 br (!y)
 (k_ (o1 != (0:Int)))
 (k_ false)))
def jn.c3s:Shape:=jn.c1s
def jn.c3x0:Shape:=⟨[(0,tb25),(1,tb33),(2,tb2),(4,tb5),(36,tb7)],[(2,tb26),(1000100,tb34)]⟩
def jn.c3r:Ck:=Ck.of (T:=Bool) jn.c3s (fun ρ x_ k_=>jn.c3 x_.2.2.1 x_.2.2.2.1 k_) (fun ρ x_ r_ k_=>k_ 0 (Shape.inj jn.c3x0 (x_.1,x_.2.1,r_,x_.2.2)))
def jn.c5 {ρ:Type} (o0:Int) (o3:Int) (t10001000:Int) (k_:Bool→Option ρ):Option ρ:=
 br (decide (o3 < (0:Int)))
 (k_ true)
 (br (decide (o3≥t10001000))
 (k_ true)
 (br (o0 == (1:Int))
 (k_ (o3 != (0:Int)))
 (k_ false)))
def jn.c5s:Shape:=jn.c1s
def jn.c5x0:Shape:=⟨[(0,tb25),(1,tb33),(2,tb2),(4,tb5),(58,tb7)],[(2,tb26),(1000100,tb34)]⟩
def jn.c5r:Ck:=Ck.of (T:=Bool) jn.c5s (fun ρ x_ k_=>jn.c5 x_.2.2.1 x_.2.2.2.2.2.1 x_.2.2.2.2.2.2.2.2.1 k_) (fun ρ x_ r_ k_=>k_ 0 (Shape.inj jn.c5x0 (x_.1,x_.2.1,r_,x_.2.2)))
def jn.c7 {ρ:Type} (o0:Int) (o2:List Int) (k_:Bool→Option ρ):Option ρ:=
 br (decide ((↑(List.length o2):Int) > (0:Int)))
 (bnd (W.JI o0) fun y=>
 k_ (!y))
 (k_ false)
def jn.c7s:Shape:=jn.c1s
def jn.c7x0:Shape:=⟨[(0,tb25),(1,tb33),(2,tb2),(4,tb5),(68,tb7)],[(2,tb26),(1000100,tb34)]⟩
def jn.c7r:Ck:=Ck.of (T:=Bool) jn.c7s (fun ρ x_ k_=>jn.c7 x_.2.2.1 x_.2.2.2.2.1 k_) (fun ρ x_ r_ k_=>k_ 0 (Shape.inj jn.c7x0 (x_.1,x_.2.1,r_,x_.2.2)))
def jn.c14 {ρ:Type} (q:Int) (t10001000:Int) (k_:Bool→Option ρ):Option ρ:=
 br (decide (q < (0:Int)))
 (k_ true)
 (k_ (decide (q≥t10001000)))
def jn.c14s:Shape:=⟨[(0,tb25),(1,tb33),(2,tb2),(4,tb5),(5,tb35),(7,tb5),(74,tb36),(75,tb5),(76,tb5)],[(2,tb26),(5,tb37),(1000100,tb34)]⟩
def jn.c14x0:Shape:=⟨[(0,tb25),(1,tb33),(2,tb2),(4,tb5),(5,tb35),(7,tb5),(74,tb36),(75,tb5),(76,tb5),(80,tb7)],[(2,tb26),(5,tb37),(1000100,tb34)]⟩
def jn.c14r:Ck:=Ck.of (T:=Bool) jn.c14s (fun ρ x_ k_=>jn.c14 x_.2.2.1 x_.2.2.2.2.2.2.2.2.2.2.2.2.2.1 k_) (fun ρ x_ r_ k_=>k_ 0 (Shape.inj jn.c14x0 (x_.1,x_.2.1,x_.2.2.1,x_.2.2.2.1,x_.2.2.2.2.1,x_.2.2.2.2.2.1,r_,x_.2.2.2.2.2.2)))
def jn.c100012 {ρ:Type} (t74:List Int) (t75:Int) (t76:Int) (seen:List Bool) (t10001000:Int) (k_:(Int×(List Bool))⊕((Int×Int×(List Bool))⊕(Int×(List Bool)))→Option ρ):Option ρ:=
 br (decide (t76 < t75))
 (bnd (idx t74 t76) fun y=>
 bnd (W.jn.c14 y t10001000 some) fun y_1=>
 br y_1
 (k_ (.inr (.inl ((10:Int),t76,seen))))
 (bnd (okIf (decide ((0:Ty.den (Ty.int IntKind.i64))≤y) && decide (y < (↑(12:Nat):Int)))) fun y_2=>
 bnd (inR (List.length seen) y) fun y_3=>
 bnd (idx seen y) fun y_4=>
 br y_4
 (k_ (.inr (.inl ((12:Int),t76,seen))))
 (bnd (okIf (decide ((0:Ty.den (Ty.int IntKind.i64))≤y) && decide (y < (↑(12:Nat):Int)))) fun y_5=>
 bnd (inR (List.length seen) y) fun y_6=>
 bnd (idx seen y) fun y_7=>
 k_ (.inl ((IntKind.i64.wrap (t76+(1:Int))),(List.set seen (Int.toNat y) true))))))
 (k_ (.inr (.inr (t76,seen))))
def jn.c100012s:Shape:=⟨[(0,tb25),(1,tb33),(2,tb2),(4,tb5),(5,tb35),(74,tb36),(75,tb5),(76,tb5)],[(2,tb26),(5,tb37),(1000100,tb34)]⟩
def jn.c100012x0:Shape:=jn.c100012s
def jn.c100012x1:Shape:=jn.c100012s
def jn.c100012r:Ck:=Ck.ofLoop (S:=Int×(List Bool)) (T:=(Int×Int×(List Bool))⊕(Int×(List Bool))) jn.c100012s (fun x_=>(x_.2.2.2.2.1,x_.2.2.2.2.2.2.2.2.2.2.2.1)) (fun ρ x_ s_ k_=>jn.c100012 x_.2.2.1 x_.2.2.2.1 s_.1 s_.2 x_.2.2.2.2.2.2.2.2.2.2.2.2.1 k_) (fun ρ x_ r_ k_=>sel r_ (fun r_=>k_ 1 (Shape.inj jn.c100012x0 (x_.1,r_.1,x_.2.2.1,x_.2.2.2.1,r_.2.1,x_.2.2.2.2.2.1,x_.2.2.2.2.2.2.1,x_.2.2.2.2.2.2.2.1,x_.2.2.2.2.2.2.2.2.1,x_.2.2.2.2.2.2.2.2.2.1,x_.2.2.2.2.2.2.2.2.2.2.1,r_.2.2,x_.2.2.2.2.2.2.2.2.2.2.2.2))) (fun r_=>k_ 2 (Shape.inj jn.c100012x1 (x_.1,x_.2.1,x_.2.2.1,x_.2.2.2.1,r_.1,x_.2.2.2.2.2.1,x_.2.2.2.2.2.2.1,x_.2.2.2.2.2.2.2.1,x_.2.2.2.2.2.2.2.2.1,x_.2.2.2.2.2.2.2.2.2.1,x_.2.2.2.2.2.2.2.2.2.2.1,r_.2,x_.2.2.2.2.2.2.2.2.2.2.2.2))))
def jn.c20 {ρ:Type} (o0:Int) (o4:Int) (t10001001:Int) (k_:Bool→Option ρ):Option ρ:=
 br (o0 == (5:Int))
 (br (decide (o4 < (0:Int)))
 (k_ true)
 (br (decide (o4≥t10001001))
 (k_ true)
 (br (o0 != (5:Int))
 (k_ (o4 != (0:Int)))
 (k_ false))))
 (br (o0 != (5:Int))
 (k_ (o4 != (0:Int)))
 (k_ false))
def jn.c20s:Shape:=jn.c100012s
def jn.c20x0:Shape:=⟨[(0,tb25),(1,tb33),(2,tb2),(4,tb5),(5,tb35),(74,tb36),(75,tb5),(76,tb5),(124,tb7)],[(2,tb26),(5,tb37),(1000100,tb34)]⟩
def jn.c20r:Ck:=Ck.of (T:=Bool) jn.c20s (fun ρ x_ k_=>jn.c20 x_.2.2.2.2.2.1 x_.2.2.2.2.2.2.2.2.2.1 x_.2.2.2.2.2.2.2.2.2.2.2.2.2.1 k_) (fun ρ x_ r_ k_=>k_ 0 (Shape.inj jn.c20x0 (x_.1,x_.2.1,x_.2.2.1,x_.2.2.2.1,x_.2.2.2.2.1,r_,x_.2.2.2.2.2)))
def jn.c27 {ρ:Type} (v:Int) (t10001001:Int) (k_:Bool→Option ρ):Option ρ:=
 br (v == (0:Int))
 (k_ true)
 (br (decide (v > t10001001))
 (k_ true)
 (k_ (decide (v < IntKind.i64.wrap ((0:Int) - t10001001)))))
def jn.c27s:Shape:=⟨[(0,tb25),(1,tb33),(2,tb2),(4,tb5),(5,tb35),(9,tb5),(74,tb36),(75,tb5),(76,tb5),(130,tb36),(131,tb5),(132,tb5)],[(2,tb26),(5,tb37),(1000100,tb34)]⟩
def jn.c27x0:Shape:=⟨[(0,tb25),(1,tb33),(2,tb2),(4,tb5),(5,tb35),(9,tb5),(74,tb36),(75,tb5),(76,tb5),(130,tb36),(131,tb5),(132,tb5),(154,tb7)],[(2,tb26),(5,tb37),(1000100,tb34)]⟩
def jn.c27r:Ck:=Ck.of (T:=Bool) jn.c27s (fun ρ x_ k_=>jn.c27 x_.2.2.1 x_.2.2.2.2.2.2.2.2.2.2.2.2.2.2.2.2.2.1 k_) (fun ρ x_ r_ k_=>k_ 0 (Shape.inj jn.c27x0 (x_.1,x_.2.1,x_.2.2.1,x_.2.2.2.1,x_.2.2.2.2.1,x_.2.2.2.2.2.1,x_.2.2.2.2.2.2.1,x_.2.2.2.2.2.2.2.1,x_.2.2.2.2.2.2.2.2.1,r_,x_.2.2.2.2.2.2.2.2.2)))
def jn.c100025 {ρ:Type} (t130:List Int) (t131:Int) (t132:Int) (t10001001:Int) (k_:Int⊕(Int⊕Int)→Option ρ):Option ρ:=
 br (decide (t132 < t131))
 (bnd (idx t130 t132) fun y=>
 bnd (W.jn.c27 y t10001001 some) fun y_1=>
 br y_1
 (k_ (.inr (.inl t132)))
 (k_ (.inl (IntKind.i64.wrap (t132+(1:Int))))))
 (k_ (.inr (.inr t132)))
def jn.c100025s:Shape:=⟨[(0,tb25),(1,tb33),(2,tb2),(4,tb5),(5,tb35),(74,tb36),(75,tb5),(76,tb5),(130,tb36),(131,tb5),(132,tb5)],[(2,tb26),(5,tb37),(1000100,tb34)]⟩
def jn.c100025x0:Shape:=jn.c100025s
def jn.c100025x1:Shape:=jn.c100025s
def jn.c100025r:Ck:=Ck.ofLoop (S:=Int) (T:=Int⊕Int) jn.c100025s (fun x_=>x_.2.2.2.2.2.2.2.1) (fun ρ x_ s_ k_=>jn.c100025 x_.2.2.2.2.2.1 x_.2.2.2.2.2.2.1 s_ x_.2.2.2.2.2.2.2.2.2.2.2.2.2.2.2.2.1 k_) (fun ρ x_ r_ k_=>sel r_ (fun r_=>k_ 1 (Shape.inj jn.c100025x0 (x_.1,(14:Int),x_.2.2.1,x_.2.2.2.1,x_.2.2.2.2.1,x_.2.2.2.2.2.1,x_.2.2.2.2.2.2.1,r_,x_.2.2.2.2.2.2.2.2))) (fun r_=>k_ 5 (Shape.inj jn.c100025x1 (x_.1,x_.2.1,x_.2.2.1,x_.2.2.2.1,x_.2.2.2.2.1,x_.2.2.2.2.2.1,x_.2.2.2.2.2.2.1,r_,x_.2.2.2.2.2.2.2.2))))
def jn (o:YO) (t10001000:Int) (t10001001:Int) (t10001002:List YO):Option (Int×Int×Int×(List YO)×Unit):=
 bnd (W.jn.c1 o.1 some) fun y=>
 br y
 (some ((8:Int),t10001000,t10001001,t10001002,()))
 (bnd (W.jn.c3 o.1 o.2.1 some) fun y_1=>
 br y_1
 (some ((9:Int),t10001000,t10001001,t10001002,()))
 (bnd (W.jn.c5 o.1 o.2.2.2.1 t10001000 some) fun y_2=>
 br y_2
 (some ((10:Int),t10001000,t10001001,t10001002,()))
 (bnd (W.jn.c7 o.1 o.2.2.1 some) fun y_3=>
 br y_3
 (some ((11:Int),t10001000,t10001001,t10001002,()))
 (bnd (okIf (decide ((0:Ty.den (Ty.int IntKind.i64))≤o.2.2.2.1) && decide (o.2.2.2.1 < (↑(12:Nat):Int)))) fun y_4=>
 bnd (inR (List.length (List.replicate (12:Nat) false)) o.2.2.2.1) fun y_5=>
 bnd (idx (List.replicate (12:Nat) false) o.2.2.2.1) fun y_6=>
 bnd (iter (fun s↦W.jn.c100012 o.2.2.1 (↑(List.length o.2.2.1):Int) s.1 s.2 t10001000 some) ((0:Int),List.set (List.replicate (12:Nat) false) (Int.toNat o.2.2.2.1) true)) fun y_7=>
 sel y_7
 (fun u=>some (u.1,t10001000,t10001001,t10001002,()))
 (fun v=>bnd (W.jn.c20 o.1 o.2.2.2.2.1 t10001001 some) fun y_8=>
 br y_8
 (some ((13:Int),t10001000,t10001001,t10001002,()))
 (br (decide ((↑(List.length o.2.2.2.2.2):Int) > (24:Int)))
 (some ((14:Int),t10001000,t10001001,t10001002,()))
 (bnd (iter (fun s↦W.jn.c100025 o.2.2.2.2.2 (↑(List.length o.2.2.2.2.2):Int) s t10001001 some) (0:Int)) fun y_9=>
 sel y_9
 (fun u_1=>some ((14:Int),t10001000,t10001001,t10001002,()))
 (fun v_1=>some ((0:Int),t10001000,t10001001,t10001002,())))))))))
def jn.mc:MCallee:=⟨81,jn.pre,jn.post,fun x_=>jn x_.1 x_.2.1 x_.2.2.1 x_.2.2.2.1⟩
def jn.G:Env:=⟨156,tab,[(116,JD.ce),(117,JI.ce)],[0,1,2,4,5,7,9,17,36,58,68,74,75,76,77,80,91,124,128,130,131,132,133,154],[5,69],[(20,[⟨[],[],[],[]⟩,⟨[0],[],[],[]⟩,⟨[1,0],[],[],[]⟩,⟨[2,1,0],[],[],[]⟩,⟨[3,2,1,0],[],[],[]⟩,⟨[4,3,2,1,0],[],[],[]⟩,⟨[5,4,3,2,1,0],[],[],[]⟩,⟨[6,5,4,3,2,1,0],[],[],[]⟩,⟨[7,6,5,4,3,2,1,0],[],[108,109,110,111],[]⟩,⟨[8,7,6,5,4,3,2,1,0],[],[108,109,110,111],[]⟩,⟨[7,6,5,4,3,2,1,0],[],[106,107],[]⟩,⟨[10,7,6,5,4,3,2,1,0],[],[106,107],[]⟩,⟨[11,10,7,6,5,4,3,2,1,0],[],[106,107],[]⟩,⟨[12,11,10,7,6,5,4,3,2,1,0],[],[106,107],[]⟩,⟨[9,8,7,6,5,4,3,2,1,0,13,12,11,10],[],[],[]⟩,⟨[7,6,5,4,3,2,1,0,14,9,8,13,12,11,10],[],[],[]⟩,⟨[3,2,1,0,15,7,6,5,4,14,9,8,13,12,11,10],[],[],[]⟩,⟨[16,3,2,1,0,15,7,6,5,4,14,9,8,13,12,11,10],[],[],[]⟩,⟨[17,16,3,2,1,0,15,7,6,5,4,14,9,8,13,12,11,10],[],[],[]⟩,⟨[18,17,16,3,2,1,0,15,7,6,5,4,14,9,8,13,12,11,10],[],[],[]⟩,⟨[19,18,17,16,3,2,1,0,15,7,6,5,4,14,9,8,13,12,11,10],[],[],[]⟩,⟨[20,19,18,17,16,3,2,1,0,15,7,6,5,4,14,9,8,13,12,11,10],[],[],[]⟩,⟨[21,20,19,18,17,16,3,2,1,0,15,7,6,5,4,14,9,8,13,12,11,10],[],[],[]⟩,⟨[22,21,20,19,18,17,16,3,2,1,0,15,7,6,5,4,14,9,8,13,12,11,10],[],[],[]⟩,⟨[23,22,21,20,19,18,17,16,3,2,1,0,15,7,6,5,4,14,9,8,13,12,11,10],[],[],[]⟩,⟨[21,20,19,18,17,16,3,2,1,0,15,7,6,5,4,14,9,8,13,12,11,10,24,23,22],[],[],[]⟩,⟨[17,16,3,2,1,0,15,7,6,5,4,14,9,8,13,12,11,10,25,21,20,19,18,24,23,22],[],[],[]⟩]),
 (5,[⟨[],[],[],[]⟩,⟨[0],[],[],[]⟩,⟨[1,0],[],[],[]⟩,⟨[2,1,0],[],[],[]⟩,⟨[3,2,1,0],[],[43,44,45,46],[]⟩,⟨[4,3,2,1,0],[],[43,44,45,46],[]⟩,⟨[3,2,1,0],[],[41,42],[]⟩,⟨[6,3,2,1,0],[],[41,42],[]⟩,⟨[7,6,3,2,1,0],[],[41,42],[]⟩,⟨[8,7,6,3,2,1,0],[],[41,42],[]⟩,⟨[5,4,3,2,1,0,9,8,7,6],[],[],[]⟩,⟨[3,2,1,0,10,5,4,9,8,7,6],[],[],[]⟩,⟨[11,3,2,1,0,10,5,4,9,8,7,6],[],[],[]⟩,⟨[12,11,3,2,1,0,10,5,4,9,8,7,6],[],[],[]⟩,⟨[13,12,11,3,2,1,0,10,5,4,9,8,7,6],[],[],[]⟩,⟨[14,13,12,11,3,2,1,0,10,5,4,9,8,7,6],[],[],[]⟩,⟨[15,14,13,12,11,3,2,1,0,10,5,4,9,8,7,6],[],[],[]⟩,⟨[16,15,14,13,12,11,3,2,1,0,10,5,4,9,8,7,6],[],[],[]⟩,⟨[17,16,15,14,13,12,11,3,2,1,0,10,5,4,9,8,7,6],[],[],[]⟩,⟨[18,17,16,15,14,13,12,11,3,2,1,0,10,5,4,9,8,7,6],[],[],[]⟩,⟨[16,15,14,13,12,11,3,2,1,0,10,5,4,9,8,7,6,19,18,17],[],[],[]⟩,⟨[12,11,3,2,1,0,10,5,4,9,8,7,6,20,16,15,14,13,19,18,17],[],[],[]⟩])],[(100025,jn.c100025r),(27,jn.c27r),(20,jn.c20r),(100012,jn.c100012r),(14,jn.c14r),(7,jn.c7r),(5,jn.c5r),(3,jn.c3r),(1,jn.c1r)],[],jZ⟩
theorem jn.eq (x_:densU jn.mc.pre.tys):denM jn.G Try.f81 jn.mc.pre jn.mc.post x_=jn.mc.F x_:=by kernel_rfl
theorem jn.p0:PcA jn.G Try.f81 0:=
 ju (s:=jn.c1r) (by kernel_rfl) (by kernel_rfl) (jt (sh:=jn.c1s) (fun ρ x_ k_=>(jm jd jd)) (fun ρ x_ t k=>(by kernel_rfl)) (fun x_=>by kernel_rfl))
theorem jn.p1:PcA jn.G Try.f81 1:=
 ju (s:=jn.c3r) (by kernel_rfl) (by kernel_rfl) (jt (sh:=jn.c3s) (fun ρ x_ k_=>(jm jd (jm jd (jc fun _=>(jm jd jd))))) (fun ρ x_ t k=>(by kernel_rfl)) (fun x_=>by kernel_rfl))
theorem jn.p2:PcA jn.G Try.f81 2:=
 ju (s:=jn.c5r) (by kernel_rfl) (by kernel_rfl) (jt (sh:=jn.c5s) (fun ρ x_ k_=>(jm jd (jm jd (jm jd jd)))) (fun ρ x_ t k=>(by kernel_rfl)) (fun x_=>by kernel_rfl))
theorem jn.p3:PcA jn.G Try.f81 3:=
 ju (s:=jn.c7r) (by kernel_rfl) (by kernel_rfl) (jt (sh:=jn.c7s) (fun ρ x_ k_=>(jm (jc fun _=>jd) jd)) (fun ρ x_ t k=>(by kernel_rfl)) (fun x_=>by kernel_rfl))
theorem jn.p4:PcA jn.G Try.f81 4:=
 Jk (s:=jn.c100012r) (by kernel_rfl) (by kernel_rfl) (Jc (sh:=jn.c100012s) (I:=fun x_ s_=>(x_.1,x_.2.1,x_.2.2.1,x_.2.2.2.1,s_.1,x_.2.2.2.2.2.1,x_.2.2.2.2.2.2.1,x_.2.2.2.2.2.2.2.1,x_.2.2.2.2.2.2.2.2.1,x_.2.2.2.2.2.2.2.2.2.1,x_.2.2.2.2.2.2.2.2.2.2.1,s_.2,x_.2.2.2.2.2.2.2.2.2.2.2.2)) (fun x_=>rfl) (fun ρ x_ s_ k_=>(jm (jc fun _=>(jc fun _=>(jm jd (jc fun _=>(jc fun _=>(jc fun _=>(jm jd (jc fun _=>(jc fun _=>(jc fun _=>jd)))))))))) jd)) (fun ρ x_ t k=>(ka (fun _=>(by kernel_rfl)) (fun _=>(by kernel_rfl)))) (fun x_ s=>by kernel_rfl))
theorem jn.p5:PcA jn.G Try.f81 5:=
 ju (s:=jn.c14r) (by kernel_rfl) (by kernel_rfl) (jt (sh:=jn.c14s) (fun ρ x_ k_=>(jm jd jd)) (fun ρ x_ t k=>(by kernel_rfl)) (fun x_=>by kernel_rfl))
theorem jn.p6:PcA jn.G Try.f81 6:=
 ju (s:=jn.c20r) (by kernel_rfl) (by kernel_rfl) (jt (sh:=jn.c20s) (fun ρ x_ k_=>(jm (jm jd (jm jd (jm jd jd))) (jm jd jd))) (fun ρ x_ t k=>(by kernel_rfl)) (fun x_=>by kernel_rfl))
theorem jn.p7:PcA jn.G Try.f81 7:=
 Jk (s:=jn.c100025r) (by kernel_rfl) (by kernel_rfl) (Jc (sh:=jn.c100025s) (I:=fun x_ s_=>(x_.1,x_.2.1,x_.2.2.1,x_.2.2.2.1,x_.2.2.2.2.1,x_.2.2.2.2.2.1,x_.2.2.2.2.2.2.1,s_,x_.2.2.2.2.2.2.2.2)) (fun x_=>rfl) (fun ρ x_ s_ k_=>(jm (jc fun _=>(jc fun _=>(jm jd jd))) jd)) (fun ρ x_ t k=>(ka (fun _=>(by kernel_rfl)) (fun _=>(by kernel_rfl)))) (fun x_ s=>by kernel_rfl))
theorem jn.p8:PcA jn.G Try.f81 8:=
 ju (s:=jn.c27r) (by kernel_rfl) (by kernel_rfl) (jt (sh:=jn.c27s) (fun ρ x_ k_=>(jm jd (jm jd jd))) (fun ρ x_ t k=>(by kernel_rfl)) (fun x_=>by kernel_rfl))
theorem jn.ok:MOk Try.prog 81 jn.mc:=UI (G:=jn.G) Jj mixed Try.func81 ⟨(jx JD.ok (jx JI.ok Ja)),jR,jA⟩ (m:=9) (by kernel_rfl) ⟨⟨⟨⟨⟨⟨⟨⟨⟨trivial,jn.p0⟩,jn.p1⟩,jn.p2⟩,jn.p3⟩,jn.p4⟩,jn.p5⟩,jn.p6⟩,jn.p7⟩,jn.p8⟩ (by kernel_rfl) jn.eq
abbrev tb38:SD:=.one (.val (.st (.pair (.int .i64) (.pair (.int .i64) (.sl (.st (.pair (.int .i64) (.pair (.int .i64) (.pair (.sl (.int .i64)) (.pair (.int .i64) (.pair (.int .i64) (.sl (.int .i64)))))))))))))
def jL.c1 {ρ:Type} (c0:Int) (k_:Bool→Option ρ):Option ρ:=
 br (decide (c0 < (1:Int)))
 (k_ true)
 (k_ (decide (c0 > (12:Int))))
def jL.c1s:Shape:=⟨[(0,tb38),(1,tb1),(2,tb2)],[(1,tb34),(2,tb19)]⟩
def jL.c1x0:Shape:=⟨[(0,tb38),(1,tb1),(2,tb2),(6,tb7)],[(1,tb34),(2,tb19)]⟩
def jL.c1r:Ck:=Ck.of (T:=Bool) jL.c1s (fun ρ x_ k_=>jL.c1 x_.2.1 k_) (fun ρ x_ r_ k_=>k_ 0 (Shape.inj jL.c1x0 (x_.1,r_,x_.2)))
def jL.c3 {ρ:Type} (c1:Int) (k_:Bool→Option ρ):Option ρ:=
 br (decide (c1 < (0:Int)))
 (k_ true)
 (k_ (decide (c1 > (12:Int))))
def jL.c3s:Shape:=jL.c1s
def jL.c3x0:Shape:=⟨[(0,tb38),(1,tb1),(2,tb2),(16,tb7)],[(1,tb34),(2,tb19)]⟩
def jL.c3r:Ck:=Ck.of (T:=Bool) jL.c3s (fun ρ x_ k_=>jL.c3 x_.2.2.1 k_) (fun ρ x_ r_ k_=>k_ 0 (Shape.inj jL.c3x0 (x_.1,r_,x_.2)))
def jL.c100008 {ρ:Type} (t33:List YO) (t34:Int) (t35:Int) (c0:Int) (c1:Int) (c2:List YO) (k_:(Int×Int×Int×(List YO))⊕((Int×Int×Int×(List YO)×Int×Int)⊕(Int×Int×Int×(List YO)))→Option ρ):Option ρ:=
 br (decide (t35 < t34))
 (bnd (idx t33 t35) fun y=>
 bnd (W.jn (y.1,y.2.1,y.2.2.1,y.2.2.2.1,y.2.2.2.2.1,y.2.2.2.2.2) c0 c1 c2) fun y_1=>
 br (y_1.1 != (0:Int))
 (bnd (W.kl y_1.1 t35) fun y_2=>
 k_ (.inr (.inl (t35,y_1.2.1,y_1.2.2.1,y_1.2.2.2.1,y_2.1,y_2.2))))
 (k_ (.inl ((IntKind.i64.wrap (t35+(1:Int))),y_1.2.1,y_1.2.2.1,y_1.2.2.2.1))))
 (k_ (.inr (.inr (t35,c0,c1,c2))))
def jL.c100008s:Shape:=⟨[(0,tb38),(1,tb1),(2,tb2),(33,tb31),(34,tb5),(35,tb5)],[(1,tb34),(2,tb19)]⟩
def jL.c100008x0:Shape:=jL.c100008s
def jL.c100008x1:Shape:=jL.c100008s
def jL.c100008r:Ck:=Ck.ofLoop (S:=Int×Int×Int×(List YO)) (T:=(Int×Int×Int×(List YO)×Int×Int)⊕(Int×Int×Int×(List YO))) jL.c100008s (fun x_=>(x_.2.2.2.1,x_.2.2.2.2.1,x_.2.2.2.2.2.1,x_.2.2.2.2.2.2.1)) (fun ρ x_ s_ k_=>jL.c100008 x_.2.1 x_.2.2.1 s_.1 s_.2.1 s_.2.2.1 s_.2.2.2 k_) (fun ρ x_ r_ k_=>sel r_ (fun r_=>k_ 1 (Shape.inj jL.c100008x0 (x_.1,x_.2.1,x_.2.2.1,r_.1,r_.2.1,r_.2.2.1,r_.2.2.2.1,r_.2.2.2.2.1,r_.2.2.2.2.2,()))) (fun r_=>k_ 3 (Shape.inj jL.c100008x1 (x_.1,x_.2.1,x_.2.2.1,r_.1,r_.2.1,r_.2.2.1,r_.2.2.2,x_.2.2.2.2.2.2.2))))
def jL (c:Int×(Int×(List YO))):Option (Int×Int):=
 bnd (W.jL.c1 c.1 some) fun y=>
 br y
 (bnd (W.kl (6:Int) (0:Int)) fun y_1=>
 some (y_1.1,y_1.2))
 (bnd (W.jL.c3 c.2.1 some) fun y_2=>
 br y_2
 (bnd (W.kl (7:Int) (0:Int)) fun y_3=>
 some (y_3.1,y_3.2))
 (br (decide ((↑(List.length c.2.2):Int) > (4096:Int)))
 (bnd (W.kl (2:Int) (0:Int)) fun y_4=>
 some (y_4.1,y_4.2))
 (bnd (iter (fun s↦W.jL.c100008 c.2.2 (↑(List.length c.2.2):Int) s.1 s.2.1 s.2.2.1 s.2.2.2 some) ((0:Int),c.1,c.2.1,c.2.2)) fun y_5=>
 sel y_5
 (fun u=>some (u.2.2.2.2.1,u.2.2.2.2.2))
 (fun v=>some ((0:Int),(0:Int))))))
def jL.ce:Go.Ql.Callee:=⟨[(.st (.pair (.int .i64) (.pair (.int .i64) (.sl (.st (.pair (.int .i64) (.pair (.int .i64) (.pair (.sl (.int .i64)) (.pair (.int .i64) (.pair (.int .i64) (.sl (.int .i64))))))))))))],[(.st (.pair (.int .i64) (.int .i64)))],fun x_=>jL x_⟩
def jL.G:Env:=⟨49,tab,[(80,kl.ce)],[0,1,2,3,4,5,6,16,26,33,34,35,36,43],[],[],[(100008,jL.c100008r),(3,jL.c3r),(1,jL.c1r)],[(81,jn.mc)],jZ⟩
theorem jL.eq (x_:dens jL.ce.params):den jL.G Try.f36 jL.ce.params jL.ce.res x_=jL.ce.F x_:=by kernel_rfl
theorem jL.p0:PcA jL.G Try.f36 0:=
 ju (s:=jL.c1r) (by kernel_rfl) (by kernel_rfl) (jt (sh:=jL.c1s) (fun ρ x_ k_=>(jm jd jd)) (fun ρ x_ t k=>(by kernel_rfl)) (fun x_=>by kernel_rfl))
theorem jL.p1:PcA jL.G Try.f36 1:=
 ju (s:=jL.c3r) (by kernel_rfl) (by kernel_rfl) (jt (sh:=jL.c3s) (fun ρ x_ k_=>(jm jd jd)) (fun ρ x_ t k=>(by kernel_rfl)) (fun x_=>by kernel_rfl))
theorem jL.p2:PcA jL.G Try.f36 2:=
 Jk (s:=jL.c100008r) (by kernel_rfl) (by kernel_rfl) (Jc (sh:=jL.c100008s) (I:=fun x_ s_=>(x_.1,x_.2.1,x_.2.2.1,s_.1,s_.2.1,s_.2.2.1,s_.2.2.2,x_.2.2.2.2.2.2.2)) (fun x_=>rfl) (fun ρ x_ s_ k_=>(jm (jc fun _=>(jc fun _=>(jm (jc fun _=>jd) jd))) jd)) (fun ρ x_ t k=>(ka (fun _=>(by kernel_rfl)) (fun _=>(by kernel_rfl)))) (fun x_ s=>by kernel_rfl))
theorem jL.ok:CalleeOk Try.prog 36 jL.ce:=fn_ok (G:=jL.G) Jj mixed Try.func36 ⟨(jx kl.ok Ja),(YT jn.ok jR),jA⟩ (m:=3) (by kernel_rfl) ⟨⟨⟨trivial,jL.p0⟩,jL.p1⟩,jL.p2⟩ (by kernel_rfl) jL.eq
abbrev tb39:SD:=.one (.ref 5 0)
abbrev tb42:SD:=.one (.ref 7 0)
def JX (code:Int) (t1:Int):Option (Int×Int):=
 some (code,t1)
def JX.ce:Go.Ql.Callee:=⟨[(.int .i64),(.int .i64)],[(.st (.pair (.int .i64) (.int .i64)))],fun x_=>JX x_.1 x_.2⟩
def JX.G:Env:=⟨8,tab,[],[0,1,4],[],[],[],[],jZ⟩
theorem JX.eq (x_:dens JX.ce.params):den JX.G Try.f44 JX.ce.params JX.ce.res x_=JX.ce.F x_:=by kernel_rfl
theorem JX.ok:CalleeOk Try.prog 44 JX.ce:=fn_ok (G:=JX.G) Jj mixed Try.func44 ⟨Ja,jR,jA⟩ (m:=0) (by kernel_rfl) trivial (by kernel_rfl) JX.eq
abbrev tb45:SO:=.box [.val .bool,.val .str]
def jB.c1 {ρ:Type} (text:List UInt8) (n:Int) (k_:Bool→Option ρ):Option ρ:=
 br (decide (n < (1:Int)))
 (k_ true)
 (br ((↑(List.length text):Int) != IntKind.i64.wrap (n+(1:Int)))
 (k_ true)
 (bnd (idx text (0:Int)) fun y=>
 br ((↑(UInt8.toNat y):Int) != (43:Int))
 (bnd (idx text (0:Int)) fun y_1=>
 k_ ((↑(UInt8.toNat y_1):Int) != (45:Int)))
 (k_ false)))
def jB.c1s:Shape:=⟨[(0,tb4),(1,tb5),(4,tb6),(5,tb7)],[(4,tb45)]⟩
def jB.c1x0:Shape:=⟨[(0,tb4),(1,tb5),(4,tb6),(5,tb7),(25,tb7)],[(4,tb45)]⟩
def jB.c1r:Ck:=Ck.of (T:=Bool) jB.c1s (fun ρ x_ k_=>jB.c1 x_.1 x_.2.1 k_) (fun ρ x_ r_ k_=>k_ 0 (Shape.inj jB.c1x0 (x_.1,x_.2.1,x_.2.2.1,r_,x_.2.2.2)))
def jB.c6 {ρ:Type} (text:List UInt8) (i:Int) (k_:Bool→Option ρ):Option ρ:=
 bnd (idx text i) fun y=>
 br ((↑(UInt8.toNat y):Int) != (73:Int))
 (bnd (idx text i) fun y_1=>
 br ((↑(UInt8.toNat y_1):Int) != (88:Int))
 (bnd (idx text i) fun y_2=>
 br ((↑(UInt8.toNat y_2):Int) != (89:Int))
 (bnd (idx text i) fun y_3=>
 k_ ((↑(UInt8.toNat y_3):Int) != (90:Int)))
 (k_ false))
 (k_ false))
 (k_ false)
def jB.c6s:Shape:=⟨[(0,tb4),(1,tb5),(4,tb6),(5,tb7),(6,tb5)],[(4,tb45)]⟩
def jB.c6x0:Shape:=⟨[(0,tb4),(1,tb5),(4,tb6),(5,tb7),(6,tb5),(53,tb7)],[(4,tb45)]⟩
def jB.c6r:Ck:=Ck.of (T:=Bool) jB.c6s (fun ρ x_ k_=>jB.c6 x_.1 x_.2.2.2.1 k_) (fun ρ x_ r_ k_=>k_ 0 (Shape.inj jB.c6x0 (x_.1,x_.2.1,x_.2.2.1,x_.2.2.2.1,r_,x_.2.2.2.2)))
def jB.c100004 {ρ:Type} (text:List UInt8) (n:Int) (i:Int) (k_:Int⊕(Int⊕Int)→Option ρ):Option ρ:=
 br (decide (i≤n))
 (bnd (W.jB.c6 text i some) fun y=>
 br y
 (k_ (.inr (.inl i)))
 (k_ (.inl (IntKind.i64.wrap (i+(1:Int))))))
 (k_ (.inr (.inr i)))
def jB.c100004s:Shape:=jB.c6s
def jB.c100004x0:Shape:=jB.c6s
def jB.c100004x1:Shape:=jB.c6s
def jB.c100004r:Ck:=Ck.ofLoop (S:=Int) (T:=Int⊕Int) jB.c100004s (fun x_=>x_.2.2.2.1) (fun ρ x_ s_ k_=>jB.c100004 x_.1 x_.2.1 s_ k_) (fun ρ x_ r_ k_=>sel r_ (fun r_=>k_ 1 (Shape.inj jB.c100004x0 (x_.1,x_.2.1,false,r_,false,[],()))) (fun r_=>k_ 2 (Shape.inj jB.c100004x1 (x_.1,x_.2.1,x_.2.2.1,r_,x_.2.2.2.2))))
def jB.c8 {ρ:Type} (text:List UInt8) (k_:Bool→Option ρ):Option ρ:=
 bnd (idx text (0:Int)) fun y=>
 bnd (okIf (decide ((1:Int)≤(↑(List.length text):Int)) && decide ((↑(List.length text):Int)≤(↑(List.length text):Int)))) fun y_1=>
 k_ ((↑(UInt8.toNat y):Int) == (45:Int))
def jB.c8s:Shape:=jB.c6s
def jB.c8x0:Shape:=jB.c6s
def jB.c8r:Ck:=Ck.of (T:=Bool) jB.c8s (fun ρ x_ k_=>jB.c8 x_.1 k_) (fun ρ x_ r_ k_=>k_ 0 (Shape.inj jB.c8x0 (x_.1,x_.2.1,true,x_.2.2.2.1,r_,(List.drop (1:Nat) (List.take (Int.toNat (↑(List.length x_.1):Int)) x_.1)),())))
def jB (text:List UInt8) (n:Int):Option ((Bool×(List UInt8))×Bool):=
 bnd (W.jB.c1 text n some) fun y=>
 br y
 (some ((false,[]),false))
 (bnd (iter (fun s↦W.jB.c100004 text n s some) (1:Int)) fun y_1=>
 sel y_1
 (fun u=>some ((false,[]),false))
 (fun v=>bnd (W.jB.c8 text some) fun y_2=>
 some ((y_2,List.drop (1:Nat) (List.take (Int.toNat (↑(List.length text):Int)) text)),true)))
def jB.ce:Go.Ql.Callee:=⟨[.str,(.int .i64)],[(.st (.pair .bool .str)),.bool],fun x_=>jB x_.1 x_.2⟩
def jB.G:Env:=⟨61,tab,[],[0,1,4,5,6,25,29,53],[],[(8,[⟨[],[],[58,59],[]⟩,⟨[0],[],[58,59],[]⟩,⟨[1,0],[],[58,59],[]⟩,⟨[],[],[55,56,57],[]⟩,⟨[3],[],[55,56,57],[]⟩,⟨[2,1,0,4,3],[],[],[]⟩,⟨[5,2,1,0,4,3],[4],[],[]⟩,⟨[6,5,2,1,0,4,3],[],[],[]⟩])],[(8,jB.c8r),(100004,jB.c100004r),(6,jB.c6r),(1,jB.c1r)],[],jZ⟩
theorem jB.eq (x_:dens jB.ce.params):den jB.G Try.f15 jB.ce.params jB.ce.res x_=jB.ce.F x_:=by kernel_rfl
theorem jB.p0:PcA jB.G Try.f15 0:=
 ju (s:=jB.c1r) (by kernel_rfl) (by kernel_rfl) (jt (sh:=jB.c1s) (fun ρ x_ k_=>(jm jd (jm jd (jc fun _=>(jm (jc fun _=>jd) jd))))) (fun ρ x_ t k=>(by kernel_rfl)) (fun x_=>by kernel_rfl))
theorem jB.p1:PcA jB.G Try.f15 1:=
 Jk (s:=jB.c100004r) (by kernel_rfl) (by kernel_rfl) (Jc (sh:=jB.c100004s) (I:=fun x_ s_=>(x_.1,x_.2.1,x_.2.2.1,s_,x_.2.2.2.2)) (fun x_=>rfl) (fun ρ x_ s_ k_=>(jm (jc fun _=>(jm jd jd)) jd)) (fun ρ x_ t k=>(ka (fun _=>(by kernel_rfl)) (fun _=>(by kernel_rfl)))) (fun x_ s=>by kernel_rfl))
theorem jB.p2:PcA jB.G Try.f15 2:=
 ju (s:=jB.c6r) (by kernel_rfl) (by kernel_rfl) (jt (sh:=jB.c6s) (fun ρ x_ k_=>(jc fun _=>(jm (jc fun _=>(jm (jc fun _=>(jm (jc fun _=>jd) jd)) jd)) jd))) (fun ρ x_ t k=>(by kernel_rfl)) (fun x_=>by kernel_rfl))
theorem jB.p3:PcA jB.G Try.f15 3:=
 ju (s:=jB.c8r) (by kernel_rfl) (by kernel_rfl) (jt (sh:=jB.c8s) (fun ρ x_ k_=>(jc fun _=>(jc fun _=>jd))) (fun ρ x_ t k=>(by kernel_rfl)) (fun x_=>by kernel_rfl))
theorem jB.ok:CalleeOk Try.prog 15 jB.ce:=fn_ok (G:=jB.G) Jj mixed Try.func15 ⟨Ja,jR,jA⟩ (m:=4) (by kernel_rfl) ⟨⟨⟨⟨trivial,jB.p0⟩,jB.p1⟩,jB.p2⟩,jB.p3⟩ (by kernel_rfl) jB.eq
abbrev tb46:SD:=.one (.own 3 0)
abbrev tb47:SO:=.arr 0 false 9 .str
end
end W
end
