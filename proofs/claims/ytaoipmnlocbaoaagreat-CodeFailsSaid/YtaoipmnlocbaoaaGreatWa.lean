/- Lifted functions, part 1: each with its contract. -/
import Derived.Test.YtaoipmnlocbaoaaGreatCa
import Derived.Test.YtaoipmnlocbaoaaGreatProg
set_option linter.all false
section
set_option maxHeartbeats 4000000
set_option maxRecDepth 100000
namespace W
open Go Go.Ql Go.Proofs
noncomputable section
variable {ρ:Type}
abbrev ff0:SD:=.one (.val (.st (.pair (.int .i64) (.sl .str))))
abbrev ff1:SD:=.one (.ref 1 0)
abbrev ff2:SD:=.one (.ref 2 0)
abbrev ff3:SO:=.box [.val (.int .i64),.val (.sl .str)]
abbrev q4 {a b c d e:Type} (x:a×b×c×d×e):e:=x.2.2.2.2
abbrev q8 {a b c d e f g h i:Type} (x:a×b×c×d×e×f×g×h×i):i:=x.2.2.2.2.2.2.2.2
abbrev YO:=Int×(Int×((List Int)×(Int×(Int×(List Int)))))
abbrev YD:=(Bool)×(List Int)
abbrev YP:=Int×(Int×(Bool))
abbrev YN:=(List YD)×Int
def Jr.c1 (c1:List (List UInt8))(Z:Unit→Option ρ):Option ρ:=
 bnd (okIf (decide (((0:Nat)+List.length c1)*(16:Nat)≤(140737488355328:Nat))&&decide ((0:Nat)+List.length c1≤(140737488355328:Nat)))) fun y=>
 Z ()
def Jr.c1s:Shape:=⟨[(0,ff0),(1,ff1),(2,ff2)],[(1,ff3),(2,ff3)]⟩
def Jr.c1r:Ck:=Ck.of (T:=Unit) Jr.c1s (fun ρ X Z=>Jr.c1 X.2.2.1 Z) (fun ρ X V Z=>Z 0 (Shape.inj Jr.c1s (X.1,X.2.1,X.2.2.1,X.2.1,X.2.2.1,())))
def Jr (c:Int×(List (List UInt8))):Option (Int×(List (List UInt8))):=
 bnd (Jr.c1 c.2 some) fun y=>
 some (c.1,c.2)
def Jr.ce:Go.Ql.Callee:=⟨[(.st (.pair (.int .i64) (.sl .str)))],[(.st (.pair (.int .i64) (.sl .str)))],fun X=>Jr X⟩
def Jr.G:Env:=⟨9,tab,[],[0,1,2],[],[(1,[⟨[],[],[5,6,7],[7]⟩,⟨[0],[],[5,6,7],[7]⟩,⟨[],[],[3,4],[]⟩,⟨[2],[],[3,4],[]⟩,⟨[3,2],[7],[3,4],[]⟩,⟨[1,0,4,3,2],[],[],[]⟩,⟨[5,1,0,4,3,2],[2],[],[]⟩])],[(1,Jr.c1r)],[],jy⟩
theorem Jr.p0:PcA Jr.G Tryz.f5 0:=
 js (s:=Jr.c1r) (by kernel_rfl) (by kernel_rfl) (jq (sh:=Jr.c1s) (fun ρ X Z=>(jb fun _=>jc)) (fun ρ X t k=>(by kernel_rfl)) (fun X=>by kernel_rfl))
theorem Jr.ok:CalleeOk Tryz.prog 5 Jr.ce:=fn_ok (G:=Jr.G) jG mixed Tryz.func5 ⟨jz,jx,jn⟩ (m:=1) (by kernel_rfl) ⟨trivial,Jr.p0⟩ (by kernel_rfl) (fun _=>by kernel_rfl)
abbrev ff4:SD:=.one (.val .str)
abbrev ff5:SD:=.one (.val (.int .i64))
abbrev ff6:SD:=.one (.ref 4 0)
abbrev ff7:SD:=.one (.val .bool)
abbrev ff8:SD:=.one (.ref 6 0)
abbrev ff9:SO:=.box [.val (.int .u64),.val (.int .u64),.val .bool]
def ju.c2 (s:List UInt8)(n:Int)(Z:Bool→Option ρ):Option ρ:=
 br ((↑(List.length s):Int) !=IntKind.i64.wrap (n+(1:Int)))
 (Z true)
 (bnd (idx s (0:Int)) fun y=>
 br ((↑(UInt8.toNat y):Int) !=(43:Int))
 (bnd (idx s (0:Int)) fun y1=>
 Z ((↑(UInt8.toNat y1):Int) !=(45:Int)))
 (Z false))
def ju.c2s:Shape:=⟨[(0,ff4),(1,ff5),(4,ff6),(5,ff7),(6,ff8)],[(4,ff9),(6,ff9)]⟩
def ju.c2x0:Shape:=⟨[(0,ff4),(1,ff5),(4,ff6),(5,ff7),(6,ff8),(23,ff7)],[(4,ff9),(6,ff9)]⟩
def ju.c2r:Ck:=Ck.of (T:=Bool) ju.c2s (fun ρ X Z=>ju.c2 X.1 X.2.1 Z) (fun ρ X V Z=>Z 0 (Shape.inj ju.c2x0 (X.1,X.2.1,X.2.2.1,V,X.2.2.2)))
def ju.c11 (q:Int)(Z:Unit→Option ρ):Option ρ:=
 bnd (okIf (decide ((0:Int)≤q))) fun y=>
 Z ()
def ju.c11s:Shape:=⟨[(0,ff4),(1,ff5),(4,ff6),(5,ff7),(6,ff8),(7,ff5),(8,ff5),(29,ff5),(30,ff5)],[(4,ff9),(6,ff9)]⟩
def ju.c11r:Ck:=Ck.of (T:=Unit) ju.c11s (fun ρ X Z=>ju.c11 X.2.2.2.1 Z) (fun ρ X V Z=>Z 0 (Shape.inj ju.c11s (X.1,X.2.1,X.2.2.1,X.2.2.2.1,(q4 X).1,(q4 X).2.1,(q4 X).2.2.1,(q4 X).2.2.2.1,(q8 X).1,(q8 X).2.1,(ibits BinOp.or IntKind.u64 (q8 X).2.2.1 (IntKind.u64.wrap (IntKind.u64.wrap (ibits BinOp.and IntKind.i64 (q4 X).1 (1:Int))*(2:Int)^Min.min (Int.toNat X.2.2.2.1) (64:Nat)))),(q8 X).2.2.2)))
def ju.c12 (q:Int)(Z:Unit→Option ρ):Option ρ:=
 bnd (okIf (decide ((0:Int)≤q))) fun y=>
 Z ()
def ju.c12r:Ck:=Ck.of (T:=Unit) ju.c11s (fun ρ X Z=>ju.c12 X.2.2.2.1 Z) (fun ρ X V Z=>Z 0 (Shape.inj ju.c11s (X.1,X.2.1,X.2.2.1,X.2.2.2.1,(q4 X).1,(q4 X).2.1,(q4 X).2.2.1,(q4 X).2.2.2.1,(q8 X).1,(q8 X).2.1,(q8 X).2.2.1,(ibits BinOp.or IntKind.u64 (q8 X).2.2.2.1 (IntKind.u64.wrap (IntKind.u64.wrap (Int.fdiv (q4 X).1 ((2:Int)^(1:Nat)))*(2:Int)^Min.min (Int.toNat X.2.2.2.1) (64:Nat)))),(q4 (q8 X)))))
def ju.cc_ (s:List UInt8)(t29:Int)(t30:Int)(p0:Int)(p1:Int)(Z:(Int×Int×Int)⊕((Int×Int×Int×Int×Int)⊕(Int×Int×Int))→Option ρ):Option ρ:=
 br (decide (t30<t29))
 (bnd (idx s (IntKind.i64.wrap (t30+(1:Int)))) fun y=>
 bnd (kn (Array.toList (ByteArray.data (ByteArray.mk #[73,88,90,89]))) (↑(UInt8.toNat y):Int)) fun y1=>
 br (decide (y1<(0:Int)))
 (Z (.inr (.inl (t30,p0,p1,p0,p1))))
 (bnd (ju.c11 t30 some) fun y2=>
 bnd (ju.c12 t30 some) fun y3=>
 Z (.inl ((IntKind.i64.wrap (t30+(1:Int))),(ibits BinOp.or IntKind.u64 p0 (IntKind.u64.wrap (IntKind.u64.wrap (ibits BinOp.and IntKind.i64 y1 (1:Int))*(2:Int)^Min.min (Int.toNat t30) (64:Nat)))),(ibits BinOp.or IntKind.u64 p1 (IntKind.u64.wrap (IntKind.u64.wrap (Int.fdiv y1 ((2:Int)^(1:Nat)))*(2:Int)^Min.min (Int.toNat t30) (64:Nat))))))))
 (Z (.inr (.inr (t30,p0,p1))))
def ju.cc_s:Shape:=⟨[(0,ff4),(1,ff5),(4,ff6),(5,ff7),(6,ff8),(29,ff5),(30,ff5)],[(4,ff9),(6,ff9)]⟩
def ju.cc_r:Ck:=Ck.ofLoop (S:=Int×Int×Int) (T:=(Int×Int×Int×Int×Int)⊕(Int×Int×Int)) ju.cc_s (fun X=>((q4 X).1,(q8 X).1,(q8 X).2.1)) (fun ρ X Q Z=>ju.cc_ X.1 X.2.2.2.1 Q.1 Q.2.1 Q.2.2 Z) (fun ρ X V Z=>sel V (fun V=>Z 1 (Shape.inj ju.cc_s (X.1,X.2.1,false,X.2.2.2.1,V.1,V.2.1,V.2.2.1,(q8 X).2.2.1,V.2.2.2.1,V.2.2.2.2,(q8 X).2.2))) (fun V=>Z 2 (Shape.inj ju.cc_s (X.1,X.2.1,X.2.2.1,X.2.2.2.1,V.1,(q4 X).2.1,(q4 X).2.2.1,(q4 X).2.2.2.1,V.2.1,V.2.2,(q8 X).2.2))))
def ju (s:List UInt8) (n:Int):Option (YP×Bool):=
 bnd (ju.c2 s n some) fun y=>
 br y
 (some (((0:Int),(0:Int),false),false))
 (bnd (idx s (0:Int)) fun y1=>
 bnd (iter (fun s_1↦ju.cc_ s n s_1.1 s_1.2.1 s_1.2.2 some) ((0:Int),(0:Int),(0:Int))) fun y2=>
 sel y2
 (fun u=>some ((u.2.1,u.2.2.1,(↑(UInt8.toNat y1):Int)==(45:Int)),false))
 (fun v=>some ((v.2.1,v.2.2,(↑(UInt8.toNat y1):Int)==(45:Int)),true)))
def ju.ce:Go.Ql.Callee:=⟨[.str,(.int .i64)],[(.st (.pair (.int .u64) (.pair (.int .u64) .bool))),.bool],fun X=>ju X.1 X.2⟩
def ju.G:Env:=⟨61,tab,[(104,kn.ce)],[0,1,4,5,6,7,8,23,29,30,31,39],[],[(12,[⟨[],[],[52,53,54,55,56],[]⟩,⟨[0],[],[52,53,54,55,56],[]⟩,⟨[],[],[50,51,55],[]⟩,⟨[2],[],[50,51,55],[]⟩,⟨[3,2],[],[50,51,55],[]⟩,⟨[],[],[50,51,52,53,54],[]⟩,⟨[4,3,2,5],[],[50,51],[]⟩,⟨[1,0,6,4,3,2,5],[],[],[]⟩,⟨[0,1,2,3,4,5,6,7],[],[],[]⟩,⟨[8,0,1,2,3,4,5,6,7],[6],[],[]⟩]),
 (11,[⟨[],[],[43,44,45,46,47],[]⟩,⟨[0],[],[43,44,45,46,47],[]⟩,⟨[],[],[41,42,46],[]⟩,⟨[2],[],[41,42,46],[]⟩,⟨[3,2],[],[41,42,46],[]⟩,⟨[],[],[41,42,43,44,45],[]⟩,⟨[4,3,2,5],[],[41,42],[]⟩,⟨[1,0,6,4,3,2,5],[],[],[]⟩,⟨[0,1,2,3,4,5,6,7],[],[],[]⟩,⟨[8,0,1,2,3,4,5,6,7],[6],[],[]⟩])],[(100006,ju.cc_r),(12,ju.c12r),(11,ju.c11r),(2,ju.c2r)],[],jy⟩
theorem ju.p0:PcA ju.G Tryz.f84 0:=
 js (s:=ju.c2r) (by kernel_rfl) (by kernel_rfl) (jq (sh:=ju.c2s) (fun ρ X Z=>(jl jc (jb fun _=>(jl (jb fun _=>jc) jc)))) (fun ρ X t k=>(by kernel_rfl)) (fun X=>by kernel_rfl))
theorem ju.p1:PcA ju.G Tryz.f84 1:=
 jW (s:=ju.cc_r) (by kernel_rfl) (by kernel_rfl) (jT (sh:=ju.cc_s) (I:=fun X Q=>(X.1,X.2.1,X.2.2.1,X.2.2.2.1,Q.1,(q4 X).2.1,(q4 X).2.2.1,(q4 X).2.2.2.1,Q.2.1,Q.2.2,(q8 X).2.2)) (fun X=>rfl) (fun ρ X Q Z=>(jl (jb fun _=>(jb fun _=>(jl jc (jb fun _=>(jb fun _=>jc))))) jc)) (fun ρ X t k=>(kU (fun _=>(by kernel_rfl)) (fun _=>(by kernel_rfl)))) (fun X s=>by kernel_rfl))
theorem ju.p2:PcA ju.G Tryz.f84 2:=
 js (s:=ju.c11r) (by kernel_rfl) (by kernel_rfl) (jq (sh:=ju.c11s) (fun ρ X Z=>(jb fun _=>jc)) (fun ρ X t k=>(by kernel_rfl)) (fun X=>by kernel_rfl))
theorem ju.p3:PcA ju.G Tryz.f84 3:=
 js (s:=ju.c12r) (by kernel_rfl) (by kernel_rfl) (jq (sh:=ju.c11s) (fun ρ X Z=>(jb fun _=>jc)) (fun ρ X t k=>(by kernel_rfl)) (fun X=>by kernel_rfl))
theorem ju.ok:CalleeOk Tryz.prog 84 ju.ce:=fn_ok (G:=ju.G) jG mixed Tryz.func84 ⟨(jj kn.ok jz),jx,jn⟩ (m:=4) (by kernel_rfl) ⟨⟨⟨⟨trivial,ju.p0⟩,ju.p1⟩,ju.p2⟩,ju.p3⟩ (by kernel_rfl) (fun _=>by kernel_rfl)
def JD (s:List UInt8) (n:Int):Option (YP×Bool):=
 bnd (ju s n) fun y=>
 some ((y.1.1,y.1.2.1,y.1.2.2),y.2)
def JD.ce:Go.Ql.Callee:=⟨[.str,(.int .i64)],[(.st (.pair (.int .u64) (.pair (.int .u64) .bool))),.bool],fun X=>JD X.1 X.2⟩
def JD.G:Env:=⟨11,tab,[(84,ju.ce)],[0,1,4,5],[],[],[],[],jy⟩
theorem JD.ok:CalleeOk Tryz.prog 59 JD.ce:=fn_ok (G:=JD.G) jG mixed Tryz.func59 ⟨(jj ju.ok jz),jx,jn⟩ (m:=0) (by kernel_rfl) trivial (by kernel_rfl) (fun _=>by kernel_rfl)
abbrev ff10:SD:=.one (.val (.int .u32))
def Je.c1 (x:Int)(Z:Int→Option ρ):Option ρ:=
 bnd (idx (Array.toList (ByteArray.data (ByteArray.mk (List.toArray (List.append (List.append [0,1,1,2,1,2,2,3,1,2,2,3,2,3,3,4,1,2,2,3,2,3,3,4,2,3,3,4,3,4,4,5,1,2,2,3,2,3,3,4,2,3,3,4,3,4,4,5,2,3,3,4,3,4,4,5,3,4,4,5,4,5,5,6] [1,2,2,3,2,3,3,4,2,3,3,4,3,4,4,5,2,3,3,4,3,4,4,5,3,4,4,5,4,5,5,6,2,3,3,4,3,4,4,5,3,4,4,5,4,5,5,6,3,4,4,5,4,5,5,6,4,5,5,6,5,6,6,7]) (List.append [1,2,2,3,2,3,3,4,2,3,3,4,3,4,4,5,2,3,3,4,3,4,4,5,3,4,4,5,4,5,5,6,2,3,3,4,3,4,4,5,3,4,4,5,4,5,5,6,3,4,4,5,4,5,5,6,4,5,5,6,5,6,6,7] [2,3,3,4,3,4,4,5,3,4,4,5,4,5,5,6,3,4,4,5,4,5,5,6,4,5,5,6,5,6,6,7,3,4,4,5,4,5,5,6,4,5,5,6,5,6,6,7,4,5,5,6,5,6,6,7,5,6,6,7,6,7,7,8])))))) (Int.fdiv x ((2:Int)^(24:Nat)))) fun y=>
 bnd (idx (Array.toList (ByteArray.data (ByteArray.mk (List.toArray (List.append (List.append [0,1,1,2,1,2,2,3,1,2,2,3,2,3,3,4,1,2,2,3,2,3,3,4,2,3,3,4,3,4,4,5,1,2,2,3,2,3,3,4,2,3,3,4,3,4,4,5,2,3,3,4,3,4,4,5,3,4,4,5,4,5,5,6] [1,2,2,3,2,3,3,4,2,3,3,4,3,4,4,5,2,3,3,4,3,4,4,5,3,4,4,5,4,5,5,6,2,3,3,4,3,4,4,5,3,4,4,5,4,5,5,6,3,4,4,5,4,5,5,6,4,5,5,6,5,6,6,7]) (List.append [1,2,2,3,2,3,3,4,2,3,3,4,3,4,4,5,2,3,3,4,3,4,4,5,3,4,4,5,4,5,5,6,2,3,3,4,3,4,4,5,3,4,4,5,4,5,5,6,3,4,4,5,4,5,5,6,4,5,5,6,5,6,6,7] [2,3,3,4,3,4,4,5,3,4,4,5,4,5,5,6,3,4,4,5,4,5,5,6,4,5,5,6,5,6,6,7,3,4,4,5,4,5,5,6,4,5,5,6,5,6,6,7,4,5,5,6,5,6,6,7,5,6,6,7,6,7,7,8])))))) (ibits BinOp.and IntKind.u32 (Int.fdiv x ((2:Int)^(16:Nat))) (255:Int))) fun y1=>
 bnd (idx (Array.toList (ByteArray.data (ByteArray.mk (List.toArray (List.append (List.append [0,1,1,2,1,2,2,3,1,2,2,3,2,3,3,4,1,2,2,3,2,3,3,4,2,3,3,4,3,4,4,5,1,2,2,3,2,3,3,4,2,3,3,4,3,4,4,5,2,3,3,4,3,4,4,5,3,4,4,5,4,5,5,6] [1,2,2,3,2,3,3,4,2,3,3,4,3,4,4,5,2,3,3,4,3,4,4,5,3,4,4,5,4,5,5,6,2,3,3,4,3,4,4,5,3,4,4,5,4,5,5,6,3,4,4,5,4,5,5,6,4,5,5,6,5,6,6,7]) (List.append [1,2,2,3,2,3,3,4,2,3,3,4,3,4,4,5,2,3,3,4,3,4,4,5,3,4,4,5,4,5,5,6,2,3,3,4,3,4,4,5,3,4,4,5,4,5,5,6,3,4,4,5,4,5,5,6,4,5,5,6,5,6,6,7] [2,3,3,4,3,4,4,5,3,4,4,5,4,5,5,6,3,4,4,5,4,5,5,6,4,5,5,6,5,6,6,7,3,4,4,5,4,5,5,6,4,5,5,6,5,6,6,7,4,5,5,6,5,6,6,7,5,6,6,7,6,7,7,8])))))) (ibits BinOp.and IntKind.u32 (Int.fdiv x ((2:Int)^(8:Nat))) (255:Int))) fun y2=>
 bnd (idx (Array.toList (ByteArray.data (ByteArray.mk (List.toArray (List.append (List.append [0,1,1,2,1,2,2,3,1,2,2,3,2,3,3,4,1,2,2,3,2,3,3,4,2,3,3,4,3,4,4,5,1,2,2,3,2,3,3,4,2,3,3,4,3,4,4,5,2,3,3,4,3,4,4,5,3,4,4,5,4,5,5,6] [1,2,2,3,2,3,3,4,2,3,3,4,3,4,4,5,2,3,3,4,3,4,4,5,3,4,4,5,4,5,5,6,2,3,3,4,3,4,4,5,3,4,4,5,4,5,5,6,3,4,4,5,4,5,5,6,4,5,5,6,5,6,6,7]) (List.append [1,2,2,3,2,3,3,4,2,3,3,4,3,4,4,5,2,3,3,4,3,4,4,5,3,4,4,5,4,5,5,6,2,3,3,4,3,4,4,5,3,4,4,5,4,5,5,6,3,4,4,5,4,5,5,6,4,5,5,6,5,6,6,7] [2,3,3,4,3,4,4,5,3,4,4,5,4,5,5,6,3,4,4,5,4,5,5,6,4,5,5,6,5,6,6,7,3,4,4,5,4,5,5,6,4,5,5,6,5,6,6,7,4,5,5,6,5,6,6,7,5,6,6,7,6,7,7,8])))))) (ibits BinOp.and IntKind.u32 x (255:Int))) fun y3=>
 Z (IntKind.i64.wrap (IntKind.wrap IntKind.u8 (IntKind.wrap IntKind.u8 (IntKind.wrap IntKind.u8 ((↑(UInt8.toNat y):Int)+(↑(UInt8.toNat y1):Int))+(↑(UInt8.toNat y2):Int))+(↑(UInt8.toNat y3):Int))))
def Je.c1s:Shape:=⟨[(0,ff10),(2,ff5)],[]⟩
def Je.c1r:Ck:=Ck.of (T:=Int) Je.c1s (fun ρ X Z=>Je.c1 X.1 Z) (fun ρ X V Z=>Z 0 (Shape.inj Je.c1s (X.1,V,())))
def Je (x:Int):Option Int:=
 bnd (Je.c1 x some) fun y=>
 some y
def Je.ce:Go.Ql.Callee:=⟨[(.int .u32)],[(.int .i64)],fun X=>Je X⟩
def Je.G:Env:=⟨21,tab,[],[0,2],[],[(1,[⟨[],[],[6,7,8,9,11,12,13,14,16,17,18],[]⟩,⟨[0],[],[6,7,8,9,11,12,13,14,16,17,18],[]⟩,⟨[1,0],[],[6,7,8,9,11,12,13,14,16,17,18],[]⟩,⟨[],[],[3,4,5,11,12,13,14,16,17,18],[]⟩,⟨[3],[],[3,4,5,11,12,13,14,16,17,18],[]⟩,⟨[4,3],[],[3,4,5,11,12,13,14,16,17,18],[]⟩,⟨[5,4,3],[],[3,4,5,11,12,13,14,16,17,18],[]⟩,⟨[2,1,0,6,5,4,3],[],[11,12,13,14,16,17,18],[]⟩,⟨[],[],[3,4,5,6,7,8,9,10,16,17,18],[]⟩,⟨[8],[],[3,4,5,6,7,8,9,10,16,17,18],[]⟩,⟨[9,8],[],[3,4,5,6,7,8,9,10,16,17,18],[]⟩,⟨[10,9,8],[],[3,4,5,6,7,8,9,10,16,17,18],[]⟩,⟨[7,2,1,0,6,5,4,3,11,10,9,8],[],[16,17,18],[]⟩,⟨[],[],[3,4,5,6,7,8,9,10,11,12,13,14,15],[]⟩,⟨[13],[],[3,4,5,6,7,8,9,10,11,12,13,14,15],[]⟩,⟨[14,13],[],[3,4,5,6,7,8,9,10,11,12,13,14,15],[]⟩,⟨[12,7,2,1,0,6,5,4,3,11,10,9,8,15,14,13],[],[],[]⟩,⟨[16,12,7,2,1,0,6,5,4,3,11,10,9,8,15,14,13],[],[],[]⟩,⟨[17,16,12,7,2,1,0,6,5,4,3,11,10,9,8,15,14,13],[],[],[]⟩])],[(1,Je.c1r)],[],jy⟩
theorem Je.p0:PcA Je.G Tryz.f114 0:=
 js (s:=Je.c1r) (by kernel_rfl) (by kernel_rfl) (jq (sh:=Je.c1s) (fun ρ X Z=>(jb fun _=>(jb fun _=>(jb fun _=>(jb fun _=>jc))))) (fun ρ X t k=>(by kernel_rfl)) (fun X=>by kernel_rfl))
theorem Je.ok:CalleeOk Tryz.prog 114 Je.ce:=fn_ok (G:=Je.G) jG mixed Tryz.func114 ⟨jz,jx,jn⟩ (m:=1) (by kernel_rfl) ⟨trivial,Je.p0⟩ (by kernel_rfl) (fun _=>by kernel_rfl)
def JR (x:Int):Option Int:=
 some (ibits BinOp.and IntKind.i64 (IntKind.i64.wrap (IntKind.u64.wrap (IntKind.u64.wrap (IntKind.u64.wrap (ibits BinOp.and IntKind.u64 (IntKind.u64.wrap (Int.fdiv (IntKind.u64.wrap (ibits BinOp.and IntKind.u64 (Int.fdiv (IntKind.u64.wrap (ibits BinOp.and IntKind.u64 (Int.fdiv x ((2:Int)^(1:Nat))) (6148914691236517205:Int)+ibits BinOp.and IntKind.u64 x (6148914691236517205:Int))) ((2:Int)^(2:Nat))) (3689348814741910323:Int)+ibits BinOp.and IntKind.u64 (IntKind.u64.wrap (ibits BinOp.and IntKind.u64 (Int.fdiv x ((2:Int)^(1:Nat))) (6148914691236517205:Int)+ibits BinOp.and IntKind.u64 x (6148914691236517205:Int))) (3689348814741910323:Int))) ((2:Int)^(4:Nat))+IntKind.u64.wrap (ibits BinOp.and IntKind.u64 (Int.fdiv (IntKind.u64.wrap (ibits BinOp.and IntKind.u64 (Int.fdiv x ((2:Int)^(1:Nat))) (6148914691236517205:Int)+ibits BinOp.and IntKind.u64 x (6148914691236517205:Int))) ((2:Int)^(2:Nat))) (3689348814741910323:Int)+ibits BinOp.and IntKind.u64 (IntKind.u64.wrap (ibits BinOp.and IntKind.u64 (Int.fdiv x ((2:Int)^(1:Nat))) (6148914691236517205:Int)+ibits BinOp.and IntKind.u64 x (6148914691236517205:Int))) (3689348814741910323:Int)))) (1085102592571150095:Int)+Int.fdiv (ibits BinOp.and IntKind.u64 (IntKind.u64.wrap (Int.fdiv (IntKind.u64.wrap (ibits BinOp.and IntKind.u64 (Int.fdiv (IntKind.u64.wrap (ibits BinOp.and IntKind.u64 (Int.fdiv x ((2:Int)^(1:Nat))) (6148914691236517205:Int)+ibits BinOp.and IntKind.u64 x (6148914691236517205:Int))) ((2:Int)^(2:Nat))) (3689348814741910323:Int)+ibits BinOp.and IntKind.u64 (IntKind.u64.wrap (ibits BinOp.and IntKind.u64 (Int.fdiv x ((2:Int)^(1:Nat))) (6148914691236517205:Int)+ibits BinOp.and IntKind.u64 x (6148914691236517205:Int))) (3689348814741910323:Int))) ((2:Int)^(4:Nat))+IntKind.u64.wrap (ibits BinOp.and IntKind.u64 (Int.fdiv (IntKind.u64.wrap (ibits BinOp.and IntKind.u64 (Int.fdiv x ((2:Int)^(1:Nat))) (6148914691236517205:Int)+ibits BinOp.and IntKind.u64 x (6148914691236517205:Int))) ((2:Int)^(2:Nat))) (3689348814741910323:Int)+ibits BinOp.and IntKind.u64 (IntKind.u64.wrap (ibits BinOp.and IntKind.u64 (Int.fdiv x ((2:Int)^(1:Nat))) (6148914691236517205:Int)+ibits BinOp.and IntKind.u64 x (6148914691236517205:Int))) (3689348814741910323:Int)))) (1085102592571150095:Int)) ((2:Int)^(8:Nat)))+Int.fdiv (IntKind.u64.wrap (ibits BinOp.and IntKind.u64 (IntKind.u64.wrap (Int.fdiv (IntKind.u64.wrap (ibits BinOp.and IntKind.u64 (Int.fdiv (IntKind.u64.wrap (ibits BinOp.and IntKind.u64 (Int.fdiv x ((2:Int)^(1:Nat))) (6148914691236517205:Int)+ibits BinOp.and IntKind.u64 x (6148914691236517205:Int))) ((2:Int)^(2:Nat))) (3689348814741910323:Int)+ibits BinOp.and IntKind.u64 (IntKind.u64.wrap (ibits BinOp.and IntKind.u64 (Int.fdiv x ((2:Int)^(1:Nat))) (6148914691236517205:Int)+ibits BinOp.and IntKind.u64 x (6148914691236517205:Int))) (3689348814741910323:Int))) ((2:Int)^(4:Nat))+IntKind.u64.wrap (ibits BinOp.and IntKind.u64 (Int.fdiv (IntKind.u64.wrap (ibits BinOp.and IntKind.u64 (Int.fdiv x ((2:Int)^(1:Nat))) (6148914691236517205:Int)+ibits BinOp.and IntKind.u64 x (6148914691236517205:Int))) ((2:Int)^(2:Nat))) (3689348814741910323:Int)+ibits BinOp.and IntKind.u64 (IntKind.u64.wrap (ibits BinOp.and IntKind.u64 (Int.fdiv x ((2:Int)^(1:Nat))) (6148914691236517205:Int)+ibits BinOp.and IntKind.u64 x (6148914691236517205:Int))) (3689348814741910323:Int)))) (1085102592571150095:Int)+Int.fdiv (ibits BinOp.and IntKind.u64 (IntKind.u64.wrap (Int.fdiv (IntKind.u64.wrap (ibits BinOp.and IntKind.u64 (Int.fdiv (IntKind.u64.wrap (ibits BinOp.and IntKind.u64 (Int.fdiv x ((2:Int)^(1:Nat))) (6148914691236517205:Int)+ibits BinOp.and IntKind.u64 x (6148914691236517205:Int))) ((2:Int)^(2:Nat))) (3689348814741910323:Int)+ibits BinOp.and IntKind.u64 (IntKind.u64.wrap (ibits BinOp.and IntKind.u64 (Int.fdiv x ((2:Int)^(1:Nat))) (6148914691236517205:Int)+ibits BinOp.and IntKind.u64 x (6148914691236517205:Int))) (3689348814741910323:Int))) ((2:Int)^(4:Nat))+IntKind.u64.wrap (ibits BinOp.and IntKind.u64 (Int.fdiv (IntKind.u64.wrap (ibits BinOp.and IntKind.u64 (Int.fdiv x ((2:Int)^(1:Nat))) (6148914691236517205:Int)+ibits BinOp.and IntKind.u64 x (6148914691236517205:Int))) ((2:Int)^(2:Nat))) (3689348814741910323:Int)+ibits BinOp.and IntKind.u64 (IntKind.u64.wrap (ibits BinOp.and IntKind.u64 (Int.fdiv x ((2:Int)^(1:Nat))) (6148914691236517205:Int)+ibits BinOp.and IntKind.u64 x (6148914691236517205:Int))) (3689348814741910323:Int)))) (1085102592571150095:Int)) ((2:Int)^(8:Nat)))) ((2:Int)^(16:Nat)))+Int.fdiv (IntKind.u64.wrap (IntKind.u64.wrap (ibits BinOp.and IntKind.u64 (IntKind.u64.wrap (Int.fdiv (IntKind.u64.wrap (ibits BinOp.and IntKind.u64 (Int.fdiv (IntKind.u64.wrap (ibits BinOp.and IntKind.u64 (Int.fdiv x ((2:Int)^(1:Nat))) (6148914691236517205:Int)+ibits BinOp.and IntKind.u64 x (6148914691236517205:Int))) ((2:Int)^(2:Nat))) (3689348814741910323:Int)+ibits BinOp.and IntKind.u64 (IntKind.u64.wrap (ibits BinOp.and IntKind.u64 (Int.fdiv x ((2:Int)^(1:Nat))) (6148914691236517205:Int)+ibits BinOp.and IntKind.u64 x (6148914691236517205:Int))) (3689348814741910323:Int))) ((2:Int)^(4:Nat))+IntKind.u64.wrap (ibits BinOp.and IntKind.u64 (Int.fdiv (IntKind.u64.wrap (ibits BinOp.and IntKind.u64 (Int.fdiv x ((2:Int)^(1:Nat))) (6148914691236517205:Int)+ibits BinOp.and IntKind.u64 x (6148914691236517205:Int))) ((2:Int)^(2:Nat))) (3689348814741910323:Int)+ibits BinOp.and IntKind.u64 (IntKind.u64.wrap (ibits BinOp.and IntKind.u64 (Int.fdiv x ((2:Int)^(1:Nat))) (6148914691236517205:Int)+ibits BinOp.and IntKind.u64 x (6148914691236517205:Int))) (3689348814741910323:Int)))) (1085102592571150095:Int)+Int.fdiv (ibits BinOp.and IntKind.u64 (IntKind.u64.wrap (Int.fdiv (IntKind.u64.wrap (ibits BinOp.and IntKind.u64 (Int.fdiv (IntKind.u64.wrap (ibits BinOp.and IntKind.u64 (Int.fdiv x ((2:Int)^(1:Nat))) (6148914691236517205:Int)+ibits BinOp.and IntKind.u64 x (6148914691236517205:Int))) ((2:Int)^(2:Nat))) (3689348814741910323:Int)+ibits BinOp.and IntKind.u64 (IntKind.u64.wrap (ibits BinOp.and IntKind.u64 (Int.fdiv x ((2:Int)^(1:Nat))) (6148914691236517205:Int)+ibits BinOp.and IntKind.u64 x (6148914691236517205:Int))) (3689348814741910323:Int))) ((2:Int)^(4:Nat))+IntKind.u64.wrap (ibits BinOp.and IntKind.u64 (Int.fdiv (IntKind.u64.wrap (ibits BinOp.and IntKind.u64 (Int.fdiv x ((2:Int)^(1:Nat))) (6148914691236517205:Int)+ibits BinOp.and IntKind.u64 x (6148914691236517205:Int))) ((2:Int)^(2:Nat))) (3689348814741910323:Int)+ibits BinOp.and IntKind.u64 (IntKind.u64.wrap (ibits BinOp.and IntKind.u64 (Int.fdiv x ((2:Int)^(1:Nat))) (6148914691236517205:Int)+ibits BinOp.and IntKind.u64 x (6148914691236517205:Int))) (3689348814741910323:Int)))) (1085102592571150095:Int)) ((2:Int)^(8:Nat)))+Int.fdiv (IntKind.u64.wrap (ibits BinOp.and IntKind.u64 (IntKind.u64.wrap (Int.fdiv (IntKind.u64.wrap (ibits BinOp.and IntKind.u64 (Int.fdiv (IntKind.u64.wrap (ibits BinOp.and IntKind.u64 (Int.fdiv x ((2:Int)^(1:Nat))) (6148914691236517205:Int)+ibits BinOp.and IntKind.u64 x (6148914691236517205:Int))) ((2:Int)^(2:Nat))) (3689348814741910323:Int)+ibits BinOp.and IntKind.u64 (IntKind.u64.wrap (ibits BinOp.and IntKind.u64 (Int.fdiv x ((2:Int)^(1:Nat))) (6148914691236517205:Int)+ibits BinOp.and IntKind.u64 x (6148914691236517205:Int))) (3689348814741910323:Int))) ((2:Int)^(4:Nat))+IntKind.u64.wrap (ibits BinOp.and IntKind.u64 (Int.fdiv (IntKind.u64.wrap (ibits BinOp.and IntKind.u64 (Int.fdiv x ((2:Int)^(1:Nat))) (6148914691236517205:Int)+ibits BinOp.and IntKind.u64 x (6148914691236517205:Int))) ((2:Int)^(2:Nat))) (3689348814741910323:Int)+ibits BinOp.and IntKind.u64 (IntKind.u64.wrap (ibits BinOp.and IntKind.u64 (Int.fdiv x ((2:Int)^(1:Nat))) (6148914691236517205:Int)+ibits BinOp.and IntKind.u64 x (6148914691236517205:Int))) (3689348814741910323:Int)))) (1085102592571150095:Int)+Int.fdiv (ibits BinOp.and IntKind.u64 (IntKind.u64.wrap (Int.fdiv (IntKind.u64.wrap (ibits BinOp.and IntKind.u64 (Int.fdiv (IntKind.u64.wrap (ibits BinOp.and IntKind.u64 (Int.fdiv x ((2:Int)^(1:Nat))) (6148914691236517205:Int)+ibits BinOp.and IntKind.u64 x (6148914691236517205:Int))) ((2:Int)^(2:Nat))) (3689348814741910323:Int)+ibits BinOp.and IntKind.u64 (IntKind.u64.wrap (ibits BinOp.and IntKind.u64 (Int.fdiv x ((2:Int)^(1:Nat))) (6148914691236517205:Int)+ibits BinOp.and IntKind.u64 x (6148914691236517205:Int))) (3689348814741910323:Int))) ((2:Int)^(4:Nat))+IntKind.u64.wrap (ibits BinOp.and IntKind.u64 (Int.fdiv (IntKind.u64.wrap (ibits BinOp.and IntKind.u64 (Int.fdiv x ((2:Int)^(1:Nat))) (6148914691236517205:Int)+ibits BinOp.and IntKind.u64 x (6148914691236517205:Int))) ((2:Int)^(2:Nat))) (3689348814741910323:Int)+ibits BinOp.and IntKind.u64 (IntKind.u64.wrap (ibits BinOp.and IntKind.u64 (Int.fdiv x ((2:Int)^(1:Nat))) (6148914691236517205:Int)+ibits BinOp.and IntKind.u64 x (6148914691236517205:Int))) (3689348814741910323:Int)))) (1085102592571150095:Int)) ((2:Int)^(8:Nat)))) ((2:Int)^(16:Nat)))) ((2:Int)^(32:Nat))))) (127:Int))
def JR.ce:Go.Ql.Callee:=⟨[(.int .u64)],[(.int .i64)],fun X=>JR X⟩
def JR.G:Env:=⟨35,tab,[],[0,2],[],[],[],[],jy⟩
theorem JR.ok:CalleeOk Tryz.prog 115 JR.ce:=fn_ok (G:=JR.G) jG mixed Tryz.func115 ⟨jz,jx,jn⟩ (m:=0) (by kernel_rfl) trivial (by kernel_rfl) (fun _=>by kernel_rfl)
def JP (x:Int):Option Int:=
 bnd (JR x) fun y=>
 some y
def JP.ce:Go.Ql.Callee:=⟨[(.int .u64)],[(.int .i64)],fun X=>JP X⟩
def JP.G:Env:=⟨8,tab,[(114,Je.ce),(115,JR.ce)],[0,2],[],[],[],[],jy⟩
theorem JP.ok:CalleeOk Tryz.prog 105 JP.ce:=fn_ok (G:=JP.G) jG mixed Tryz.func105 ⟨(jj Je.ok (jj JR.ok jz)),jx,jn⟩ (m:=0) (by kernel_rfl) trivial (by kernel_rfl) (fun _=>by kernel_rfl)
abbrev ff11:SD:=.one (.val (.st (.pair (.int .u64) (.pair (.int .u64) .bool))))
abbrev ff12:SD:=.one (.ref 3 0)
def jQ.c1 (p0:Int)(p1:Int)(o0:Int)(o1:Int)(Z:Bool→Option ρ):Option ρ:=
 bnd (JP (ibits BinOp.and IntKind.u64 p0 o1)) fun y=>
 bnd (JP (ibits BinOp.and IntKind.u64 p1 o0)) fun y1=>
 Z (ibits BinOp.and IntKind.i64 y (1:Int) !=ibits BinOp.and IntKind.i64 y1 (1:Int))
def jQ.c1s:Shape:=⟨[(0,ff11),(1,ff11),(2,ff2),(3,ff12),(4,ff7)],[(2,ff9),(3,ff9)]⟩
def jQ.c1r:Ck:=Ck.of (T:=Bool) jQ.c1s (fun ρ X Z=>jQ.c1 X.2.2.2.1 (q4 X).1 (q4 X).2.2.1 (q4 X).2.2.2.1 Z) (fun ρ X V Z=>Z 0 (Shape.inj jQ.c1s (X.1,X.2.1,V,X.2.2.2)))
def jQ (p:YP) (o:YP):Option Bool:=
 bnd (jQ.c1 p.1 p.2.1 o.1 o.2.1 some) fun y=>
 some y
def jQ.ce:Go.Ql.Callee:=⟨[(.st (.pair (.int .u64) (.pair (.int .u64) .bool))),(.st (.pair (.int .u64) (.pair (.int .u64) .bool)))],[.bool],fun X=>jQ X.1 X.2⟩
def jQ.G:Env:=⟨20,tab,[(105,JP.ce)],[0,1,2,3,4],[],[(1,[⟨[],[],[7,8,12,13,14,15,16],[]⟩,⟨[0],[],[7,8,12,13,14,15,16],[]⟩,⟨[],[],[5,6,12,13,14,15,16],[]⟩,⟨[2],[],[5,6,12,13,14,15,16],[]⟩,⟨[1,0,3,2],[],[12,13,14,15,16],[]⟩,⟨[4,1,0,3,2],[],[12,13,14,15,16],[]⟩,⟨[5,4,1,0,3,2],[],[12,13,14,15,16,17,18],[]⟩,⟨[],[],[5,6,7,8,9,10,11,14,15],[]⟩,⟨[7],[],[5,6,7,8,9,10,11,14,15],[]⟩,⟨[],[],[5,6,7,8,9,10,11,12,13],[]⟩,⟨[9],[],[5,6,7,8,9,10,11,12,13],[]⟩,⟨[8,7,10,9],[],[5,6,7,8,9,10,11],[]⟩,⟨[11,8,7,10,9,5,4,1,0,3,2],[],[11],[]⟩,⟨[12,11,8,7,10,9,5,4,1,0,3,2],[],[11],[]⟩,⟨[6,5,4,1,0,3,2,13,12,11,8,7,10,9],[],[],[]⟩,⟨[14,6,5,4,1,0,3,2,13,12,11,8,7,10,9],[],[],[]⟩])],[(1,jQ.c1r)],[],jy⟩
theorem jQ.p0:PcA jQ.G Tryz.f85 0:=
 js (s:=jQ.c1r) (by kernel_rfl) (by kernel_rfl) (jq (sh:=jQ.c1s) (fun ρ X Z=>(jb fun _=>(jb fun _=>jc))) (fun ρ X t k=>(by kernel_rfl)) (fun X=>by kernel_rfl))
theorem jQ.ok:CalleeOk Tryz.prog 85 jQ.ce:=fn_ok (G:=jQ.G) jG mixed Tryz.func85 ⟨(jj JP.ok jz),jx,jn⟩ (m:=1) (by kernel_rfl) ⟨trivial,jQ.p0⟩ (by kernel_rfl) (fun _=>by kernel_rfl)
def Jl (p:YP) (o:YP):Option Bool:=
 bnd (jQ (p.1,p.2.1,p.2.2) (o.1,o.2.1,o.2.2)) fun y=>
 some y
def Jl.ce:Go.Ql.Callee:=⟨[(.st (.pair (.int .u64) (.pair (.int .u64) .bool))),(.st (.pair (.int .u64) (.pair (.int .u64) .bool)))],[.bool],fun X=>Jl X.1 X.2⟩
def Jl.G:Env:=⟨8,tab,[(85,jQ.ce)],[0,1,2,3,4],[],[],[],[],jy⟩
theorem Jl.ok:CalleeOk Tryz.prog 60 Jl.ce:=fn_ok (G:=Jl.G) jG mixed Tryz.func60 ⟨(jj jQ.ok jz),jx,jn⟩ (m:=0) (by kernel_rfl) trivial (by kernel_rfl) (fun _=>by kernel_rfl)
def Jc (p:YP):Option (List Int):=
 bnd (okIf (decide (List.length (List.set (List.set (List.replicate (2:Nat) (0:Int)) (0:Nat) p.1) (1:Nat) p.2.1)=List.length (List.replicate (2:Nat) (0:Int))))) fun y=>
 bnd (okIf (decide (List.length (List.set (List.set (List.replicate (2:Nat) (0:Int)) (0:Nat) p.1) (1:Nat) p.2.1)=(2:Nat)))) fun y1=>
 some (List.set (List.set (List.replicate (2:Nat) (0:Int)) (0:Nat) p.1) (1:Nat) p.2.1)
def Jc.ce:Go.Ql.Callee:=⟨[(.st (.pair (.int .u64) (.pair (.int .u64) .bool)))],[(.ar 2 (.int .u64))],fun X=>Jc X⟩
def Jc.G:Env:=⟨8,tab,[],[0,1,2],[2,7],[],[],[],jy⟩
theorem Jc.ok:CalleeOk Tryz.prog 25 Jc.ce:=fn_ok (G:=Jc.G) jG mixed Tryz.func25 ⟨jz,jx,jn⟩ (m:=0) (by kernel_rfl) trivial (by kernel_rfl) (fun _=>by kernel_rfl)
def JV (p:List Int):Option Int:=
 bnd (idx p (0:Int)) fun y=>
 bnd (idx p (1:Int)) fun y1=>
 some (ibits BinOp.or IntKind.u64 (IntKind.u64.wrap (y*(2:Int)^(16:Nat))) y1)
def JV.ce:Go.Ql.Callee:=⟨[(.ar 2 (.int .u64))],[(.int .u64)],fun X=>JV X⟩
def JV.G:Env:=⟨9,tab,[],[0,1,2],[8000001],[],[],[],jy⟩
theorem JV.ok:CalleeOk Tryz.prog 27 JV.ce:=fn_ok (G:=JV.G) jG mixed Tryz.func27 ⟨jz,jx,jn⟩ (m:=0) (by kernel_rfl) trivial (by kernel_rfl) (fun _=>by kernel_rfl)
abbrev ff13:SD:=.one (.val (.int .u64))
def jH.cp_ (x:Int)(n:Int)(Z:Int×Int→Option ρ):Option ρ:=
 br (decide (x≥(4294967296:Int)))
 (Z ((Int.fdiv x ((2:Int)^(32:Nat))),(32:Int)))
 (Z (x,n))
def jH.cp_s:Shape:=⟨[(0,ff13),(2,ff5)],[]⟩
def jH.cp_r:Ck:=Ck.of (T:=Int×Int) jH.cp_s (fun ρ X Z=>jH.cp_ X.1 X.2.1 Z) (fun ρ X V Z=>Z 0 (Shape.inj jH.cp_s (V.1,V.2,())))
def jH.cz_ (x:Int)(n:Int)(Z:Int×Int→Option ρ):Option ρ:=
 br (decide (x≥(65536:Int)))
 (Z ((Int.fdiv x ((2:Int)^(16:Nat))),(IntKind.i64.wrap (n+(16:Int)))))
 (Z (x,n))
def jH.cz_r:Ck:=Ck.of (T:=Int×Int) jH.cp_s (fun ρ X Z=>jH.cz_ X.1 X.2.1 Z) (fun ρ X V Z=>Z 0 (Shape.inj jH.cp_s (V.1,V.2,())))
def jH.cab_ (x:Int)(n:Int)(Z:Int×Int→Option ρ):Option ρ:=
 br (decide (x≥(256:Int)))
 (Z ((Int.fdiv x ((2:Int)^(8:Nat))),(IntKind.i64.wrap (n+(8:Int)))))
 (Z (x,n))
def jH.cab_r:Ck:=Ck.of (T:=Int×Int) jH.cp_s (fun ρ X Z=>jH.cab_ X.1 X.2.1 Z) (fun ρ X V Z=>Z 0 (Shape.inj jH.cp_s (V.1,V.2,())))
def jH (x:Int):Option Int:=
 bnd (jH.cp_ x (0:Int) some) fun y=>
 bnd (jH.cz_ y.1 y.2 some) fun y1=>
 bnd (jH.cab_ y1.1 y1.2 some) fun y2=>
 bnd (idx (Array.toList (ByteArray.data (ByteArray.mk (List.toArray (List.append (List.append [0,1,2,2,3,3,3,3,4,4,4,4,4,4,4,4,5,5,5,5,5,5,5,5,5,5,5,5,5,5,5,5,6,6,6,6,6,6,6,6,6,6,6,6,6,6,6,6,6,6,6,6,6,6,6,6,6,6,6,6,6,6,6,6] [7,7,7,7,7,7,7,7,7,7,7,7,7,7,7,7,7,7,7,7,7,7,7,7,7,7,7,7,7,7,7,7,7,7,7,7,7,7,7,7,7,7,7,7,7,7,7,7,7,7,7,7,7,7,7,7,7,7,7,7,7,7,7,7]) (List.append [8,8,8,8,8,8,8,8,8,8,8,8,8,8,8,8,8,8,8,8,8,8,8,8,8,8,8,8,8,8,8,8,8,8,8,8,8,8,8,8,8,8,8,8,8,8,8,8,8,8,8,8,8,8,8,8,8,8,8,8,8,8,8,8] [8,8,8,8,8,8,8,8,8,8,8,8,8,8,8,8,8,8,8,8,8,8,8,8,8,8,8,8,8,8,8,8,8,8,8,8,8,8,8,8,8,8,8,8,8,8,8,8,8,8,8,8,8,8,8,8,8,8,8,8,8,8,8,8])))))) (IntKind.wrap IntKind.u8 y2.1)) fun y3=>
 some (IntKind.i64.wrap (y2.2+IntKind.i64.wrap (↑(UInt8.toNat y3):Int)))
def jH.ce:Go.Ql.Callee:=⟨[(.int .u64)],[(.int .i64)],fun X=>jH X⟩
def jH.G:Env:=⟨25,tab,[],[0,2,4,8,14],[],[],[(228679,jH.cab_r),(216391,jH.cz_r),(204103,jH.cp_r)],[],jy⟩
theorem jH.p0:PcA jH.G Tryz.f73 0:=
 JE (s:=jH.cp_r) (by kernel_rfl) (by kernel_rfl) (jq (sh:=jH.cp_s) (fun ρ X Z=>(jl jc jc)) (fun ρ X t k=>(by kernel_rfl)) (fun X=>by kernel_rfl))
theorem jH.p1:PcA jH.G Tryz.f73 1:=
 JE (s:=jH.cz_r) (by kernel_rfl) (by kernel_rfl) (jq (sh:=jH.cp_s) (fun ρ X Z=>(jl jc jc)) (fun ρ X t k=>(by kernel_rfl)) (fun X=>by kernel_rfl))
theorem jH.p2:PcA jH.G Tryz.f73 2:=
 JE (s:=jH.cab_r) (by kernel_rfl) (by kernel_rfl) (jq (sh:=jH.cp_s) (fun ρ X Z=>(jl jc jc)) (fun ρ X t k=>(by kernel_rfl)) (fun X=>by kernel_rfl))
theorem jH.ok:CalleeOk Tryz.prog 73 jH.ce:=fn_ok (G:=jH.G) jG mixed Tryz.func73 ⟨jz,jx,jn⟩ (m:=3) (by kernel_rfl) ⟨⟨⟨trivial,jH.p0⟩,jH.p1⟩,jH.p2⟩ (by kernel_rfl) (fun _=>by kernel_rfl)
abbrev ff14:SD:=.one (.own 2000000 0)
abbrev ff15:SO:=.arr 0 false 60 (.sl (.pair (.int .i64) (.int .u64)))
def jK.pre:Shape:=⟨[(0,ff14),(1,ff13)],[(2000000,ff15)]⟩
def jK.post:Shape:=⟨[(0,ff13)],[(2000000,ff15)]⟩
def jK.cj_ (v:Int)(ua:List (List (Int×Int)))(Z:Int⊕((Int×Int)⊕Int)→Option ρ):Option ρ:=
 br (v !=(0:Int))
 (bnd (jH v) fun y=>
 br (!Option.isSome (mget ua y))
 (Z (.inr (.inl (v,v))))
 (Z (.inl (ibits BinOp.xor IntKind.u64 v (mzero (mget ua y))))))
 (Z (.inr (.inr v)))
def jK.cj_s:Shape:=⟨[(0,ff14),(1,ff13),(4,ff13)],[(2000000,ff15)]⟩
def jK.cj_r:Ck:=Ck.ofLoop (S:=Int) (T:=(Int×Int)⊕Int) jK.cj_s (fun X=>X.1) (fun ρ X Q Z=>jK.cj_ Q X.2.2.1 Z) (fun ρ X V Z=>sel V (fun V=>Z 1 (Shape.inj jK.cj_s (V.1,V.2,X.2.2))) (fun V=>Z 2 (Shape.inj jK.cj_s (V,X.2))))
def jK (v:Int) (ua:List (List (Int×Int))):Option (Int×(List (List (Int×Int)))×Unit):=
 bnd (iter (fun s↦jK.cj_ s ua some) v) fun y=>
 sel y
 (fun u=>some (u.2,ua,()))
 (fun v_1=>some ((0:Int),ua,()))
def jK.mc:MCallee:=⟨26,jK.pre,jK.post,fun X=>jK X.1 X.2.1⟩
def jK.G:Env:=⟨22,tab,[(73,jH.ce)],[0,1,4,5,6,8,17],[2000000],[],[(100001,jK.cj_r)],[],jy⟩
theorem jK.p0:PcA jK.G Tryz.f26 0:=
 jW (s:=jK.cj_r) (by kernel_rfl) (by kernel_rfl) (jT (sh:=jK.cj_s) (I:=fun X Q=>(Q,X.2)) (fun X=>rfl) (fun ρ X Q Z=>(jl (jb fun _=>(jl jc jc)) jc)) (fun ρ X t k=>(kU (fun _=>(by kernel_rfl)) (fun _=>(by kernel_rfl)))) (fun X s=>by kernel_rfl))
theorem jK.ok:MOk Tryz.prog 26 jK.mc:=YW (mc:=jK.mc) (G:=jK.G) jG mixed Tryz.func26 ⟨(jj jH.ok jz),jx,jn⟩ (m:=1) (by kernel_rfl) ⟨trivial,jK.p0⟩ (by kernel_rfl) (fun _=>by kernel_rfl)
abbrev ff16:SD:=.one (.val (.ar 2 (.int .u64)))
def Jw.pre:Shape:=⟨[(0,ff14),(1,ff16)],[(2000000,ff15)]⟩
def Jw.post:Shape:=⟨[(0,ff7)],[(2000000,ff15)]⟩
def Jw (p:List Int) (ua:List (List (Int×Int))):Option (Bool×(List (List (Int×Int)))×Unit):=
 bnd (JV p) fun y=>
 bnd (jK y ua) fun y1=>
 br (y1.1==(0:Int))
 (some (false,y1.2.1,()))
 (bnd (jH y1.1) fun y2=>
 some (true,mput y1.2.1 y2 y1.1,()))
def Jw.mc:MCallee:=⟨61,Jw.pre,Jw.post,fun X=>Jw X.1 X.2.1⟩
def Jw.G:Env:=⟨16,tab,[(27,JV.ce),(73,jH.ce)],[0,1,3,4,5,11],[2000000,8000003],[],[],[(26,jK.mc)],jy⟩
theorem Jw.ok:MOk Tryz.prog 61 Jw.mc:=YW (mc:=Jw.mc) (G:=Jw.G) jG mixed Tryz.func61 ⟨(jj JV.ok (jj jH.ok jz)),(kF jK.ok jx),jn⟩ (m:=0) (by kernel_rfl) trivial (by kernel_rfl) (fun _=>by kernel_rfl)
def JZ (t0:Int) (t1:Int):Option ((List YP)×(Int×Int)):=
 some ([],t0,t1)
def JZ.ce:Go.Ql.Callee:=⟨[(.int .i64),(.int .i64)],[(.sl (.st (.pair (.int .u64) (.pair (.int .u64) .bool)))),(.st (.pair (.int .i64) (.int .i64)))],fun X=>JZ X.1 X.2⟩
def JZ.G:Env:=⟨9,tab,[],[0,1,4,5],[],[],[],[],jy⟩
theorem JZ.ok:CalleeOk Tryz.prog 58 JZ.ce:=fn_ok (G:=JZ.G) jG mixed Tryz.func58 ⟨jz,jx,jn⟩ (m:=0) (by kernel_rfl) trivial (by kernel_rfl) (fun _=>by kernel_rfl)
abbrev ff17:SD:=.one (.val (.sl (.st (.pair (.int .u64) (.pair (.int .u64) .bool)))))
abbrev ff18:SD:=.one (.fn 58)
abbrev ff19:SO:=.box [.val (.int .i64),.val (.int .i64)]
abbrev ff20:SD:=.one (.own 5 0)
abbrev ff21:SD:=.one (.val (.sl .str))
abbrev ff22:SO:=.arr 0 false 65 (.st (.pair (.int .u64) (.pair (.int .u64) .bool)))
abbrev ff23:SD:=.one (.ref 11 0)
abbrev ff24:SD:=.one (.own 91 0)
def jo.c2 (c0:Int)(Z:Bool→Option ρ):Option ρ:=
 br (decide (c0<(1:Int)))
 (Z true)
 (Z (decide (c0>(12:Int))))
def jo.c2s:Shape:=⟨[(0,ff0),(1,ff1),(2,ff17),(3,ff12),(4,ff18)],[(1,ff3),(3,ff19)]⟩
def jo.c2x0:Shape:=⟨[(0,ff0),(1,ff1),(2,ff17),(3,ff12),(4,ff18),(24,ff7)],[(1,ff3),(3,ff19)]⟩
def jo.c2r:Ck:=Ck.of (T:=Bool) jo.c2s (fun ρ X Z=>jo.c2 X.2.2.1 Z) (fun ρ X V Z=>Z 0 (Shape.inj jo.c2x0 (X.1,X.2.1,V,X.2.2)))
def jo.ch_ (t40:List (List UInt8))(t41:Int)(t42:Int)(c0:Int)(l:List YP)(Z:(Int×(List YP))⊕(((List YP)×Int×Int×Int×(List YP))⊕(Int×(List YP)))→Option ρ):Option ρ:=
 br (decide (t42<t41))
 (bnd (idx t40 t42) fun y=>
 bnd (JD y c0) fun y1=>
 br (!y1.2)
 (bnd (JZ (33:Int) t42) fun y2=>
 Z (.inr (.inl (y2.1,t42,y2.2.1,y2.2.2,l))))
 (bnd (okIf (decide ((List.length l+(1:Nat))*(24:Nat)≤(140737488355328:Nat))&&decide (List.length l+(1:Nat)≤(140737488355328:Nat)))) fun y3=>
 Z (.inl ((IntKind.i64.wrap (t42+(1:Int))),(l++[(y1.1.1,y1.1.2.1,y1.1.2.2)])))))
 (Z (.inr (.inr (t42,l))))
def jo.ch_s:Shape:=⟨[(0,ff0),(1,ff1),(2,ff17),(3,ff12),(4,ff18),(5,ff20),(40,ff21),(41,ff5),(42,ff5)],[(1,ff3),(3,ff19),(5,ff22)]⟩
def jo.ch_r:Ck:=Ck.ofLoop (S:=Int×(List YP)) (T:=((List YP)×Int×Int×Int×(List YP))⊕(Int×(List YP))) jo.ch_s (fun X=>((q4 X).1,(q8 X).2.1)) (fun ρ X Q Z=>jo.ch_ X.2.2.1 X.2.2.2.1 Q.1 (q4 X).2.1 Q.2 Z) (fun ρ X V Z=>sel V (fun V=>Z 1 (Shape.inj jo.ch_s (X.1,V.1,X.2.2.1,X.2.2.2.1,V.2.1,(q4 X).2.1,(q4 X).2.2.1,V.2.2.1,V.2.2.2.1,V.2.2.2.2,()))) (fun V=>Z 2 (Shape.inj jo.ch_s (X.1,X.2.1,X.2.2.1,X.2.2.2.1,V.1,(q4 X).2.1,(q4 X).2.2.1,(q4 X).2.2.2.1,(q8 X).1,V.2,()))))
def jo.cA_ (i:Int)(t75:List YP)(t76:Int)(t77:Int)(p0:Int)(p1:Int)(p2:Bool)(Z:Int⊕(((List YP)×Int×Int×Int)⊕Int)→Option ρ):Option ρ:=
 br (decide (t77<t76))
 (bnd (idx t75 t77) fun y=>
 bnd (Jl (p0,p1,p2) (y.1,y.2.1,y.2.2)) fun y1=>
 br y1
 (bnd (JZ (34:Int) i) fun y2=>
 Z (.inr (.inl (y2.1,t77,y2.2.1,y2.2.2))))
 (Z (.inl (IntKind.i64.wrap (t77+(1:Int))))))
 (Z (.inr (.inr t77)))
def jo.cA_s:Shape:=⟨[(0,ff0),(1,ff1),(2,ff17),(3,ff12),(4,ff18),(5,ff17),(10,ff5),(11,ff23),(40,ff21),(41,ff5),(42,ff5),(66,ff17),(67,ff5),(68,ff5),(75,ff17),(76,ff5),(77,ff5)],[(1,ff3),(3,ff19),(11,ff9)]⟩
def jo.cA_r:Ck:=Ck.ofLoop (S:=Int) (T:=((List YP)×Int×Int×Int)⊕Int) jo.cA_s (fun X=>(q4 (q8 X)).1) (fun ρ X Q Z=>jo.cA_ X.2.2.2.1 (q8 X).2.2.1 (q8 X).2.2.2.1 Q (q8 (q8 X)).2.1 (q8 (q8 X)).2.2.1 (q8 (q8 X)).2.2.2.1 Z) (fun ρ X V Z=>sel V (fun V=>Z 1 (Shape.inj jo.cA_s (X.1,V.1,X.2.2.1,X.2.2.2.1,(q4 X).1,(q4 X).2.1,(q4 X).2.2.1,(q4 X).2.2.2.1,(q8 X).1,(q8 X).2.1,(q8 X).2.2.1,(q8 X).2.2.2.1,V.2.1,(q4 (q8 X)).2.1,(q4 (q8 X)).2.2.1,V.2.2.1,V.2.2.2,(q8 (q8 X)).2))) (fun V=>Z 6 (Shape.inj jo.cA_s (X.1,X.2.1,X.2.2.1,X.2.2.2.1,(q4 X).1,(q4 X).2.1,(q4 X).2.2.1,(q4 X).2.2.2.1,(q8 X).1,(q8 X).2.1,(q8 X).2.2.1,(q8 X).2.2.2.1,V,(q4 (q8 X)).2))))
def jo.ck_ (l:List YP)(t66:List YP)(t67:Int)(t68:Int)(Z:Int⊕(((List YP)×Int×Int×Int)⊕Int)→Option ρ):Option ρ:=
 br (decide (t68<t67))
 (bnd (idx t66 t68) fun y=>
 bnd (okIf (decide ((0:Int)≤t68)&&decide (t68≤(↑(List.length l):Int)))) fun y1=>
 bnd (iter (fun s↦jo.cA_ t68 (List.take (Int.toNat t68) l) (↑(List.length (List.take (Int.toNat t68) l)):Int) s y.1 y.2.1 y.2.2 some) (0:Int)) fun y2=>
 sel y2
 (fun u=>Z (.inr (.inl (u.1,t68,u.2.2.1,u.2.2.2))))
 (fun v=>Z (.inl (IntKind.i64.wrap (t68+(1:Int))))))
 (Z (.inr (.inr t68)))
def jo.ck_s:Shape:=⟨[(0,ff0),(1,ff1),(2,ff17),(3,ff12),(4,ff18),(5,ff17),(40,ff21),(41,ff5),(42,ff5),(66,ff17),(67,ff5),(68,ff5)],[(1,ff3),(3,ff19)]⟩
def jo.ck_r:Ck:=Ck.ofLoop (S:=Int) (T:=((List YP)×Int×Int×Int)⊕Int) jo.ck_s (fun X=>(q8 X).1) (fun ρ X Q Z=>jo.ck_ X.2.2.1 (q4 X).2.2.1 (q4 X).2.2.2.1 Q Z) (fun ρ X V Z=>sel V (fun V=>Z 1 (Shape.inj jo.ck_s (X.1,V.1,X.2.2.1,X.2.2.2.1,(q4 X).1,(q4 X).2.1,(q4 X).2.2.1,(q4 X).2.2.2.1,V.2.1,(q8 X).2.1,(q8 X).2.2.1,V.2.2.1,V.2.2.2,()))) (fun V=>Z 4 (Shape.inj jo.ck_s (X.1,X.2.1,X.2.2.1,X.2.2.2.1,(q4 X).1,(q4 X).2.1,(q4 X).2.2.1,(q4 X).2.2.2.1,V,(q8 X).2))))
def jo.cC_ (t92:List YP)(t93:Int)(t94:Int)(t91:List (List (Int×Int)))(Z:(Int×(List (List (Int×Int))))⊕(((List YP)×Int×Int×Int×(List (List (Int×Int))))⊕(Int×(List (List (Int×Int)))))→Option ρ):Option ρ:=
 br (decide (t94<t93))
 (bnd (idx t92 t94) fun y=>
 bnd (Jc (y.1,y.2.1,y.2.2)) fun y1=>
 bnd (Jw y1 t91) fun y2=>
 br (!y2.1)
 (bnd (JZ (35:Int) t94) fun y3=>
 Z (.inr (.inl (y3.1,t94,y3.2.1,y3.2.2,y2.2.1))))
 (Z (.inl ((IntKind.i64.wrap (t94+(1:Int))),y2.2.1))))
 (Z (.inr (.inr (t94,t91))))
def jo.cC_s:Shape:=⟨[(0,ff0),(1,ff1),(2,ff17),(3,ff12),(4,ff18),(5,ff17),(14,ff24),(40,ff21),(41,ff5),(42,ff5),(66,ff17),(67,ff5),(68,ff5),(92,ff17),(93,ff5),(94,ff5)],[(1,ff3),(3,ff19),(91,ff15)]⟩
def jo.cC_r:Ck:=Ck.ofLoop (S:=Int×(List (List (Int×Int)))) (T:=((List YP)×Int×Int×Int×(List (List (Int×Int))))⊕(Int×(List (List (Int×Int))))) jo.cC_s (fun X=>((q8 X).2.2.2.1,(q8 (q8 X)).1)) (fun ρ X Q Z=>jo.cC_ (q8 X).2.1 (q8 X).2.2.1 Q.1 Q.2 Z) (fun ρ X V Z=>uP X fun c X=>uP X fun t2 X=>uP X fun l X=>uP X fun t40 X=>uP X fun t41 X=>uP X fun t42 X=>uP X fun t66 X=>uP X fun t67 X=>uP X fun t68 X=>uP X fun t92 X=>uP X fun t93 X=>uP X fun t94 X=>uP X fun c0 X=>uP X fun c1 X=>uP X fun t30 X=>uP X fun t31 X=>uP X fun t91 X=>sel V (fun V=>Z 1 (Shape.inj jo.cC_s (c,V.1,l,t40,t41,t42,t66,t67,t68,t92,t93,V.2.1,c0,c1,V.2.2.1,V.2.2.2.1,V.2.2.2.2,()))) (fun V=>Z 8 (Shape.inj jo.cC_s (c,t2,l,t40,t41,t42,t66,t67,t68,t92,t93,V.1,c0,c1,t30,t31,V.2,()))))
def jo (c:Int×(List (List UInt8))):Option ((List YP)×(Int×Int)):=
 bnd (jo.c2 c.1 some) fun y=>
 br y
 (bnd (JZ (6:Int) (0:Int)) fun y1=>
 some (y1.1,y1.2.1,y1.2.2))
 (br (decide ((↑(List.length c.2):Int)>c.1))
 (bnd (JZ (21:Int) (0:Int)) fun y2=>
 some (y2.1,y2.2.1,y2.2.2))
 (bnd (iter (fun s↦jo.ch_ c.2 (↑(List.length c.2):Int) s.1 c.1 s.2 some) ((0:Int),[])) fun y3=>
 sel y3
 (fun u=>some (u.1,u.2.2.1,u.2.2.2.1))
 (fun v=>bnd (iter (fun s↦jo.ck_ v.2 v.2 (↑(List.length v.2):Int) s some) (0:Int)) fun y4=>
 sel y4
 (fun u_1=>some (u_1.1,u_1.2.2.1,u_1.2.2.2))
 (fun v_1=>bnd (iter (fun s↦jo.cC_ v.2 (↑(List.length v.2):Int) s.1 s.2 some) ((0:Int),UJ)) fun y5=>
 sel y5
 (fun u_2=>some (u_2.1,u_2.2.2.1,u_2.2.2.2.1))
 (fun v_2=>some (v.2,(0:Int),(0:Int)))))))
def jo.ce:Go.Ql.Callee:=⟨[(.st (.pair (.int .i64) (.sl .str)))],[(.sl (.st (.pair (.int .u64) (.pair (.int .u64) .bool)))),(.st (.pair (.int .i64) (.int .i64)))],fun X=>jo X⟩
def jo.G:Env:=⟨112,tab,[(59,JD.ce),(60,Jl.ce),(25,Jc.ce),(58,JZ.ce)],[0,1,2,3,4,5,6,7,8,9,10,11,13,14,15,16,24,34,40,41,42,43,55,66,67,68,69,75,76,77,78,83,92,93,94,95,103],[5,91,5000066],[],[(100027,jo.cC_r),(100016,jo.ck_r),(100019,jo.cA_r),(100008,jo.ch_r),(2,jo.c2r)],[(61,Jw.mc)],jy⟩
theorem jo.p0:PcA jo.G Tryz.f14 0:=
 js (s:=jo.c2r) (by kernel_rfl) (by kernel_rfl) (jq (sh:=jo.c2s) (fun ρ X Z=>(jl jc jc)) (fun ρ X t k=>(by kernel_rfl)) (fun X=>by kernel_rfl))
theorem jo.p1:PcA jo.G Tryz.f14 1:=
 jW (s:=jo.ch_r) (by kernel_rfl) (by kernel_rfl) (jT (sh:=jo.ch_s) (I:=fun X Q=>(X.1,X.2.1,X.2.2.1,X.2.2.2.1,Q.1,(q4 X).2.1,(q4 X).2.2.1,(q4 X).2.2.2.1,(q8 X).1,Q.2,())) (fun X=>rfl) (fun ρ X Q Z=>(jl (jb fun _=>(jb fun _=>(jl (jb fun _=>jc) (jb fun _=>jc)))) jc)) (fun ρ X t k=>(kU (fun _=>(by kernel_rfl)) (fun _=>(by kernel_rfl)))) (fun X s=>by kernel_rfl))
theorem jo.p2:PcA jo.G Tryz.f14 2:=
 jW (s:=jo.ck_r) (by kernel_rfl) (by kernel_rfl) (jT (sh:=jo.ck_s) (I:=fun X Q=>(X.1,X.2.1,X.2.2.1,X.2.2.2.1,(q4 X).1,(q4 X).2.1,(q4 X).2.2.1,(q4 X).2.2.2.1,Q,(q8 X).2)) (fun X=>rfl) (fun ρ X Q Z=>(jl (jb fun _=>(jb fun _=>(jb fun _=>(kU (fun _=>jc) (fun _=>jc))))) jc)) (fun ρ X t k=>(kU (fun _=>(by kernel_rfl)) (fun _=>(by kernel_rfl)))) (fun X s=>by kernel_rfl))
theorem jo.p3:PcA jo.G Tryz.f14 3:=
 jW (s:=jo.cA_r) (by kernel_rfl) (by kernel_rfl) (jT (sh:=jo.cA_s) (I:=fun X Q=>(X.1,X.2.1,X.2.2.1,X.2.2.2.1,(q4 X).1,(q4 X).2.1,(q4 X).2.2.1,(q4 X).2.2.2.1,(q8 X).1,(q8 X).2.1,(q8 X).2.2.1,(q8 X).2.2.2.1,Q,(q4 (q8 X)).2)) (fun X=>rfl) (fun ρ X Q Z=>(jl (jb fun _=>(jb fun _=>(jl (jb fun _=>jc) jc))) jc)) (fun ρ X t k=>(kU (fun _=>(by kernel_rfl)) (fun _=>(by kernel_rfl)))) (fun X s=>by kernel_rfl))
theorem jo.p4:PcA jo.G Tryz.f14 4:=
 jW (s:=jo.cC_r) (by kernel_rfl) (by kernel_rfl) (jT (sh:=jo.cC_s) (I:=fun X Q=>(X.1,X.2.1,X.2.2.1,X.2.2.2.1,(q4 X).1,(q4 X).2.1,(q4 X).2.2.1,(q4 X).2.2.2.1,(q8 X).1,(q8 X).2.1,(q8 X).2.2.1,Q.1,(q4 (q8 X)).1,(q4 (q8 X)).2.1,(q4 (q8 X)).2.2.1,(q4 (q8 X)).2.2.2.1,Q.2,())) (fun X=>rfl) (fun ρ X Q Z=>(jl (jb fun _=>(jb fun _=>(jb fun _=>(jl (jb fun _=>jc) jc)))) jc)) (fun ρ X t k=>(kU (fun _=>(by kernel_rfl)) (fun _=>(by kernel_rfl)))) (fun X s=>by kernel_rfl))
theorem jo.ok:CalleeOk Tryz.prog 14 jo.ce:=fn_ok (G:=jo.G) jG mixed Tryz.func14 ⟨(jj JD.ok (jj Jl.ok (jj Jc.ok (jj JZ.ok jz)))),(kF Jw.ok jx),jn⟩ (m:=5) (by kernel_rfl) ⟨⟨⟨⟨⟨trivial,jo.p0⟩,jo.p1⟩,jo.p2⟩,jo.p3⟩,jo.p4⟩ (by kernel_rfl) (fun _=>by kernel_rfl)
def stringslite_HasPrefix.c1 (s:List UInt8)(t1:List UInt8)(Z:Bool→Option ρ):Option ρ:=
 br (decide ((↑(List.length s):Int)≥(↑(List.length t1):Int)))
 (bnd (okIf (decide ((0:Int)≤(↑(List.length t1):Int))&&decide ((↑(List.length t1):Int)≤(↑(List.length s):Int)))) fun y=>
 Z (List.take (Int.toNat (↑(List.length t1):Int)) s==t1))
 (Z false)
def stringslite_HasPrefix.c1s:Shape:=⟨[(0,ff4),(1,ff4),(4,ff7)],[]⟩
def stringslite_HasPrefix.c1r:Ck:=Ck.of (T:=Bool) stringslite_HasPrefix.c1s (fun ρ X Z=>stringslite_HasPrefix.c1 X.1 X.2.1 Z) (fun ρ X V Z=>Z 0 (Shape.inj stringslite_HasPrefix.c1s (X.1,X.2.1,V,())))
def stringslite_HasPrefix (s:List UInt8) (t1:List UInt8):Option Bool:=
 bnd (stringslite_HasPrefix.c1 s t1 some) fun y=>
 some y
def stringslite_HasPrefix.ce:Go.Ql.Callee:=⟨[.str,.str],[.bool],fun X=>stringslite_HasPrefix X.1 X.2⟩
def stringslite_HasPrefix.G:Env:=⟨18,tab,[],[0,1,4],[],[],[(1,stringslite_HasPrefix.c1r)],[],jy⟩
theorem stringslite_HasPrefix.p0:PcA stringslite_HasPrefix.G Tryz.f106 0:=
 js (s:=stringslite_HasPrefix.c1r) (by kernel_rfl) (by kernel_rfl) (jq (sh:=stringslite_HasPrefix.c1s) (fun ρ X Z=>(jl (jb fun _=>jc) jc)) (fun ρ X t k=>(by kernel_rfl)) (fun X=>by kernel_rfl))
theorem stringslite_HasPrefix.ok:CalleeOk Tryz.prog 106 stringslite_HasPrefix.ce:=fn_ok (G:=stringslite_HasPrefix.G) jG mixed Tryz.func106 ⟨jz,jx,jn⟩ (m:=1) (by kernel_rfl) ⟨trivial,stringslite_HasPrefix.p0⟩ (by kernel_rfl) (fun _=>by kernel_rfl)
def JF (s:List UInt8) (t1:List UInt8):Option Bool:=
 bnd (stringslite_HasPrefix s t1) fun y=>
 some y
def JF.ce:Go.Ql.Callee:=⟨[.str,.str],[.bool],fun X=>JF X.1 X.2⟩
def JF.G:Env:=⟨8,tab,[(106,stringslite_HasPrefix.ce)],[0,1,4],[],[],[],[],jy⟩
theorem JF.ok:CalleeOk Tryz.prog 86 JF.ce:=fn_ok (G:=JF.G) jG mixed Tryz.func86 ⟨(jj stringslite_HasPrefix.ok jz),jx,jn⟩ (m:=0) (by kernel_rfl) trivial (by kernel_rfl) (fun _=>by kernel_rfl)
def whole_number.c2 (text:List UInt8)(signed:Bool)(Z:Bool→Option ρ):Option ρ:=
 br signed
 (bnd (JF text (Array.toList (ByteArray.data (ByteArray.mk #[45])))) fun y=>
 Z y)
 (Z false)
def whole_number.c2s:Shape:=⟨[(0,ff4),(1,ff7),(4,ff5),(5,ff7),(6,ff5)],[]⟩
def whole_number.c2x0:Shape:=⟨[(0,ff4),(1,ff7),(4,ff5),(5,ff7),(6,ff5),(12,ff7)],[]⟩
def whole_number.c2r:Ck:=Ck.of (T:=Bool) whole_number.c2s (fun ρ X Z=>whole_number.c2 X.1 X.2.1 Z) (fun ρ X V Z=>Z 0 (Shape.inj whole_number.c2x0 (X.1,X.2.1,X.2.2.1,X.2.2.2.1,(q4 X).1,V,())))
def whole_number.cg_ (text:List UInt8)(signed:Bool)(t6:Int)(Z:Int→Option ρ):Option ρ:=
 bnd (whole_number.c2 text signed some) fun y=>
 br y
 (Z (1:Int))
 (Z t6)
def whole_number.cg_r:Ck:=Ck.of (T:=Int) whole_number.c2s (fun ρ X Z=>whole_number.cg_ X.1 X.2.1 (q4 X).1 Z) (fun ρ X V Z=>Z 0 (Shape.inj whole_number.c2s (X.1,X.2.1,X.2.2.1,X.2.2.2.1,V,())))
def whole_number.c5 (signed:Bool)(t6:Int)(Z:Bool→Option ρ):Option ρ:=
 br (!signed)
 (Z true)
 (Z (t6==(1:Int)))
def whole_number.c5x0:Shape:=⟨[(0,ff4),(1,ff7),(4,ff5),(5,ff7),(6,ff5),(22,ff7)],[]⟩
def whole_number.c5r:Ck:=Ck.of (T:=Bool) whole_number.c2s (fun ρ X Z=>whole_number.c5 X.2.1 (q4 X).1 Z) (fun ρ X V Z=>Z 0 (Shape.inj whole_number.c5x0 (X.1,X.2.1,X.2.2.1,X.2.2.2.1,(q4 X).1,V,())))
def whole_number.c9 (text:List UInt8)(i:Int)(Z:Bool→Option ρ):Option ρ:=
 br (decide (i<(↑(List.length text):Int)))
 (bnd (idx text i) fun y=>
 br (decide ((48:Int)≤(↑(UInt8.toNat y):Int)))
 (bnd (idx text i) fun y1=>
 Z (decide ((↑(UInt8.toNat y1):Int)≤(57:Int))))
 (Z false))
 (Z false)
def whole_number.c9s:Shape:=⟨[(0,ff4),(1,ff7),(4,ff5),(5,ff7),(6,ff5),(7,ff5)],[]⟩
def whole_number.c9x0:Shape:=⟨[(0,ff4),(1,ff7),(4,ff5),(5,ff7),(6,ff5),(7,ff5),(40,ff7)],[]⟩
def whole_number.c9r:Ck:=Ck.of (T:=Bool) whole_number.c9s (fun ρ X Z=>whole_number.c9 X.1 (q4 X).2.1 Z) (fun ρ X V Z=>Z 0 (Shape.inj whole_number.c9x0 (X.1,X.2.1,X.2.2.1,X.2.2.2.1,(q4 X).1,(q4 X).2.1,V,())))
def whole_number.cY_ (text:List UInt8)(i:Int)(Z:Int⊕Int→Option ρ):Option ρ:=
 bnd (whole_number.c9 text i some) fun y=>
 br y
 (Z (.inl (IntKind.i64.wrap (i+(1:Int)))))
 (Z (.inr i))
def whole_number.cY_r:Ck:=Ck.ofLoop (S:=Int) (T:=Int) whole_number.c9s (fun X=>(q4 X).2.1) (fun ρ X Q Z=>whole_number.cY_ X.1 Q Z) (fun ρ X V Z=>Z 2 (Shape.inj whole_number.c9s (X.1,X.2.1,X.2.2.1,X.2.2.2.1,(q4 X).1,V,())))
def whole_number (text:List UInt8) (signed:Bool):Option (Int×Bool):=
 bnd (whole_number.cg_ text signed (0:Int) some) fun y=>
 bnd (okIf (decide ((0:Int)≤y)&&decide (y≤(↑(List.length text):Int))&&decide ((↑(List.length text):Int)≤(↑(List.length text):Int)))) fun y1=>
 bnd (JF (List.drop (Int.toNat y) (List.take (Int.toNat (↑(List.length text):Int)) text)) (Array.toList (ByteArray.data (ByteArray.mk #[48])))) fun y2=>
 br y2
 (bnd (whole_number.c5 signed y some) fun y3=>
 br y3
 (some (y,false))
 (some ((1:Int),true)))
 (bnd (iter (fun s↦whole_number.cY_ text s some) y) fun y4=>
 some (y4,decide (y4>y)))
def whole_number.ce:Go.Ql.Callee:=⟨[.str,.bool],[(.int .i64),.bool],fun X=>whole_number X.1 X.2⟩
def whole_number.G:Env:=⟨47,tab,[(86,JF.ce)],[0,1,4,5,6,7,12,16,22,40],[],[],[(100009,whole_number.cY_r),(9,whole_number.c9r),(5,whole_number.c5r),(208197,whole_number.cg_r),(2,whole_number.c2r)],[],jy⟩
theorem whole_number.p0:PcA whole_number.G Tryz.f62 0:=
 JE (s:=whole_number.cg_r) (by kernel_rfl) (by kernel_rfl) (jq (sh:=whole_number.c2s) (fun ρ X Z=>(jb fun _=>(jl jc jc))) (fun ρ X t k=>(by kernel_rfl)) (fun X=>by kernel_rfl))
theorem whole_number.p1:PcA whole_number.G Tryz.f62 1:=
 js (s:=whole_number.c2r) (by kernel_rfl) (by kernel_rfl) (jq (sh:=whole_number.c2s) (fun ρ X Z=>(jl (jb fun _=>jc) jc)) (fun ρ X t k=>(by kernel_rfl)) (fun X=>by kernel_rfl))
theorem whole_number.p2:PcA whole_number.G Tryz.f62 2:=
 js (s:=whole_number.c5r) (by kernel_rfl) (by kernel_rfl) (jq (sh:=whole_number.c2s) (fun ρ X Z=>(jl jc jc)) (fun ρ X t k=>(by kernel_rfl)) (fun X=>by kernel_rfl))
theorem whole_number.p3:PcA whole_number.G Tryz.f62 3:=
 jW (s:=whole_number.cY_r) (by kernel_rfl) (by kernel_rfl) (jT (sh:=whole_number.c9s) (I:=fun X Q=>(X.1,X.2.1,X.2.2.1,X.2.2.2.1,(q4 X).1,Q,())) (fun X=>rfl) (fun ρ X Q Z=>(jb fun _=>(jl jc jc))) (fun ρ X t k=>(by kernel_rfl)) (fun X s=>by kernel_rfl))
theorem whole_number.p4:PcA whole_number.G Tryz.f62 4:=
 js (s:=whole_number.c9r) (by kernel_rfl) (by kernel_rfl) (jq (sh:=whole_number.c9s) (fun ρ X Z=>(jl (jb fun _=>(jl (jb fun _=>jc) jc)) jc)) (fun ρ X t k=>(by kernel_rfl)) (fun X=>by kernel_rfl))
theorem whole_number.ok:CalleeOk Tryz.prog 62 whole_number.ce:=fn_ok (G:=whole_number.G) jG mixed Tryz.func62 ⟨(jj JF.ok jz),jx,jn⟩ (m:=5) (by kernel_rfl) ⟨⟨⟨⟨⟨trivial,whole_number.p0⟩,whole_number.p1⟩,whole_number.p2⟩,whole_number.p3⟩,whole_number.p4⟩ (by kernel_rfl) (fun _=>by kernel_rfl)
def stringslite_TrimPrefix (s:List UInt8) (t1:List UInt8):Option (List UInt8):=
 bnd (stringslite_HasPrefix s t1) fun y=>
 br y
 (bnd (okIf (decide ((0:Int)≤(↑(List.length t1):Int))&&decide ((↑(List.length t1):Int)≤(↑(List.length s):Int))&&decide ((↑(List.length s):Int)≤(↑(List.length s):Int)))) fun y1=>
 some (List.drop (Int.toNat (↑(List.length t1):Int)) (List.take (Int.toNat (↑(List.length s):Int)) s)))
 (some s)
def stringslite_TrimPrefix.ce:Go.Ql.Callee:=⟨[.str,.str],[.str],fun X=>stringslite_TrimPrefix X.1 X.2⟩
def stringslite_TrimPrefix.G:Env:=⟨13,tab,[(106,stringslite_HasPrefix.ce)],[0,1,4,7],[],[],[],[],jy⟩
theorem stringslite_TrimPrefix.ok:CalleeOk Tryz.prog 87 stringslite_TrimPrefix.ce:=fn_ok (G:=stringslite_TrimPrefix.G) jG mixed Tryz.func87 ⟨(jj stringslite_HasPrefix.ok jz),jx,jn⟩ (m:=0) (by kernel_rfl) trivial (by kernel_rfl) (fun _=>by kernel_rfl)
def Jq (s:List UInt8) (t1:List UInt8):Option (List UInt8):=
 bnd (stringslite_TrimPrefix s t1) fun y=>
 some y
def Jq.ce:Go.Ql.Callee:=⟨[.str,.str],[.str],fun X=>Jq X.1 X.2⟩
def Jq.G:Env:=⟨8,tab,[(87,stringslite_TrimPrefix.ce)],[0,1,4],[],[],[],[],jy⟩
theorem Jq.ok:CalleeOk Tryz.prog 63 Jq.ce:=fn_ok (G:=Jq.G) jG mixed Tryz.func63 ⟨(jj stringslite_TrimPrefix.ok jz),jx,jn⟩ (m:=0) (by kernel_rfl) trivial (by kernel_rfl) (fun _=>by kernel_rfl)
abbrev ff25:SD:=.one (.val (.sl (.int .u32)))
abbrev ff26:SD:=.one (.own 3 0)
abbrev ff27:SD:=.one (.val (.sl (.int .u8)))
abbrev ff28:SO:=.arr 0 false 113 (.int .u32)
def whole_digits.cc_ (part:Int)(t6:Int)(t21:List Int)(t22:Int)(t23:Int)(Z:(Int×Int×Int)⊕(Int×Int×Int)→Option ρ):Option ρ:=
 br (decide (t23<t22))
 (bnd (idx t21 t23) fun y=>
 Z (.inl ((IntKind.u64.wrap (IntKind.u64.wrap (part*(10:Int))+IntKind.u64.wrap (IntKind.wrap IntKind.u8 (y-(48:Int))))),(IntKind.u64.wrap (t6*(10:Int))),(IntKind.i64.wrap (t23+(1:Int))))))
 (Z (.inr (part,t6,t23)))
def whole_digits.cc_s:Shape:=⟨[(0,ff4),(2,ff25),(3,ff26),(4,ff5),(5,ff13),(6,ff13),(21,ff27),(22,ff5),(23,ff5)],[(3,ff28)]⟩
def whole_digits.cc_r:Ck:=Ck.ofLoop (S:=Int×Int×Int) (T:=Int×Int×Int) whole_digits.cc_s (fun X=>(X.2.2.2.1,(q4 X).1,(q4 X).2.2.2.1)) (fun ρ X Q Z=>whole_digits.cc_ Q.1 Q.2.1 (q4 X).2.1 (q4 X).2.2.1 Q.2.2 Z) (fun ρ X V Z=>Z 4 (Shape.inj whole_digits.cc_s (X.1,X.2.1,X.2.2.1,V.1,V.2.1,(q4 X).2.1,(q4 X).2.2.1,V.2.2,(q8 X))))
def whole_digits.cr_ (part:Int)(t6:Int)(t40:Int)(t41:Int)(mag:List Int)(Z:(Int×Int×(List Int))⊕(Int×Int×(List Int))→Option ρ):Option ρ:=
 br (decide (t41<t40))
 (bnd (inR (List.length mag) t41) fun y=>
 bnd (idx mag t41) fun y1=>
 bnd (inR (List.length mag) t41) fun y2=>
 bnd (idx mag t41) fun y3=>
 Z (.inl ((Int.fdiv (IntKind.u64.wrap (part+IntKind.u64.wrap (IntKind.wrap IntKind.u64 y1*t6))) ((2:Int)^(32:Nat))),(IntKind.i64.wrap (t41+(1:Int))),(List.set mag (Int.toNat t41) (IntKind.wrap IntKind.u32 (IntKind.u64.wrap (part+IntKind.u64.wrap (IntKind.wrap IntKind.u64 y1*t6))))))))
 (Z (.inr (part,t41,mag)))
def whole_digits.cr_s:Shape:=⟨[(0,ff4),(2,ff25),(3,ff26),(4,ff5),(5,ff13),(6,ff13),(21,ff27),(22,ff5),(23,ff5),(40,ff5),(41,ff5)],[(3,ff28)]⟩
def whole_digits.cr_r:Ck:=Ck.ofLoop (S:=Int×Int×(List Int)) (T:=Int×Int×(List Int)) whole_digits.cr_s (fun X=>(X.2.2.2.1,(q8 X).2.1,(q8 X).2.2.1)) (fun ρ X Q Z=>whole_digits.cr_ Q.1 (q4 X).1 (q8 X).1 Q.2.1 Q.2.2 Z) (fun ρ X V Z=>Z 6 (Shape.inj whole_digits.cr_s (X.1,X.2.1,X.2.2.1,V.1,(q4 X).1,(q4 X).2.1,(q4 X).2.2.1,(q4 X).2.2.2.1,(q8 X).1,V.2.1,V.2.2,())))
def whole_digits.ce_ (text:List UInt8)(mag:List Int)(Z:((List UInt8)×(List Int))⊕((List UInt8)×(List Int))→Option ρ):Option ρ:=
 br (decide ((↑(List.length text):Int)>(0:Int)))
 (bnd (okIf (decide ((0:Int)≤IntKind.i64.wrap (Int.tmod (IntKind.i64.wrap ((↑(List.length text):Int)-(1:Int))) (9:Int)+(1:Int)))&&decide (IntKind.i64.wrap (Int.tmod (IntKind.i64.wrap ((↑(List.length text):Int)-(1:Int))) (9:Int)+(1:Int))≤(↑(List.length text):Int)))) fun y=>
 bnd (okIf (decide (List.length (List.take (Int.toNat (IntKind.i64.wrap (Int.tmod (IntKind.i64.wrap ((↑(List.length text):Int)-(1:Int))) (9:Int)+(1:Int)))) text)≤(140737488355328:Nat)))) fun y1=>
 bnd (iter (fun s↦whole_digits.cc_ s.1 s.2.1 (List.map (fun b↦(↑(UInt8.toNat b):Int)) (List.take (Int.toNat (IntKind.i64.wrap (Int.tmod (IntKind.i64.wrap ((↑(List.length text):Int)-(1:Int))) (9:Int)+(1:Int)))) text)) (↑(List.length (List.map (fun b↦(↑(UInt8.toNat b):Int)) (List.take (Int.toNat (IntKind.i64.wrap (Int.tmod (IntKind.i64.wrap ((↑(List.length text):Int)-(1:Int))) (9:Int)+(1:Int)))) text))):Int) s.2.2 some) ((0:Int),(1:Int),(0:Int))) fun y2=>
 bnd (okIf (decide ((0:Int)≤IntKind.i64.wrap (Int.tmod (IntKind.i64.wrap ((↑(List.length text):Int)-(1:Int))) (9:Int)+(1:Int)))&&decide (IntKind.i64.wrap (Int.tmod (IntKind.i64.wrap ((↑(List.length text):Int)-(1:Int))) (9:Int)+(1:Int))≤(↑(List.length text):Int))&&decide ((↑(List.length text):Int)≤(↑(List.length text):Int)))) fun y3=>
 bnd (iter (fun s↦whole_digits.cr_ s.1 y2.2.1 (↑(List.length mag):Int) s.2.1 s.2.2 some) (y2.1,(0:Int),mag)) fun y4=>
 br (decide (y4.1>(0:Int)))
 (bnd (okIf (decide ((List.length y4.2.2+(1:Nat))*(4:Nat)≤(140737488355328:Nat))&&decide (List.length y4.2.2+(1:Nat)≤(140737488355328:Nat)))) fun y5=>
 Z (.inl ((List.drop (Int.toNat (IntKind.i64.wrap (Int.tmod (IntKind.i64.wrap ((↑(List.length text):Int)-(1:Int))) (9:Int)+(1:Int)))) (List.take (Int.toNat (↑(List.length text):Int)) text)),(y4.2.2++[IntKind.wrap IntKind.u32 (y4.1)]))))
 (Z (.inl ((List.drop (Int.toNat (IntKind.i64.wrap (Int.tmod (IntKind.i64.wrap ((↑(List.length text):Int)-(1:Int))) (9:Int)+(1:Int)))) (List.take (Int.toNat (↑(List.length text):Int)) text)),y4.2.2))))
 (Z (.inr (text,mag)))
def whole_digits.ce_s:Shape:=⟨[(0,ff4),(2,ff25),(3,ff26)],[(3,ff28)]⟩
def whole_digits.ce_r:Ck:=Ck.ofLoop (S:=(List UInt8)×(List Int)) (T:=(List UInt8)×(List Int)) whole_digits.ce_s (fun X=>(X.1,X.2.2.1)) (fun ρ X Q Z=>whole_digits.ce_ Q.1 Q.2 Z) (fun ρ X V Z=>Z 2 (Shape.inj whole_digits.ce_s (V.1,X.2.1,V.2,())))
def whole_digits (text:List UInt8):Option (List Int):=
 bnd (iter (fun s↦whole_digits.ce_ s.1 s.2 some) (text,[])) fun y=>
 some y.2
def whole_digits.ce:Go.Ql.Callee:=⟨[.str],[(.sl (.int .u32))],fun X=>whole_digits X⟩
def whole_digits.G:Env:=⟨69,tab,[],[0,2,3,4,5,6,8,9,12,21,22,23,24,40,41,42,62],[3],[],[(100002,whole_digits.ce_r),(100012,whole_digits.cr_r),(100006,whole_digits.cc_r)],[],jy⟩
theorem whole_digits.p0:PcA whole_digits.G Tryz.f88 0:=
 jW (s:=whole_digits.ce_r) (by kernel_rfl) (by kernel_rfl) (jT (sh:=whole_digits.ce_s) (I:=fun X Q=>(Q.1,X.2.1,Q.2,())) (fun X=>rfl) (fun ρ X Q Z=>(jl (jb fun _=>(jb fun _=>(jb fun _=>(jb fun _=>(jb fun _=>(jl (jb fun _=>jc) jc)))))) jc)) (fun ρ X t k=>(by kernel_rfl)) (fun X s=>by kernel_rfl))
theorem whole_digits.p1:PcA whole_digits.G Tryz.f88 1:=
 jW (s:=whole_digits.cc_r) (by kernel_rfl) (by kernel_rfl) (jT (sh:=whole_digits.cc_s) (I:=fun X Q=>(X.1,X.2.1,X.2.2.1,Q.1,Q.2.1,(q4 X).2.1,(q4 X).2.2.1,Q.2.2,(q8 X))) (fun X=>rfl) (fun ρ X Q Z=>(jl (jb fun _=>jc) jc)) (fun ρ X t k=>(by kernel_rfl)) (fun X s=>by kernel_rfl))
theorem whole_digits.p2:PcA whole_digits.G Tryz.f88 2:=
 jW (s:=whole_digits.cr_r) (by kernel_rfl) (by kernel_rfl) (jT (sh:=whole_digits.cr_s) (I:=fun X Q=>(X.1,X.2.1,X.2.2.1,Q.1,(q4 X).1,(q4 X).2.1,(q4 X).2.2.1,(q4 X).2.2.2.1,(q8 X).1,Q.2.1,Q.2.2,())) (fun X=>rfl) (fun ρ X Q Z=>(jl (jb fun _=>(jb fun _=>(jb fun _=>(jb fun _=>jc)))) jc)) (fun ρ X t k=>(by kernel_rfl)) (fun X s=>by kernel_rfl))
theorem whole_digits.ok:CalleeOk Tryz.prog 88 whole_digits.ce:=fn_ok (G:=whole_digits.G) jG mixed Tryz.func88 ⟨jz,jx,jn⟩ (m:=3) (by kernel_rfl) ⟨⟨⟨trivial,whole_digits.p0⟩,whole_digits.p1⟩,whole_digits.p2⟩ (by kernel_rfl) (fun _=>by kernel_rfl)
abbrev ff29:SO:=.box [.val .bool,.val (.sl (.int .u32))]
def whole_made.c2 (mag:List Int)(n:Int)(Z:Bool→Option ρ):Option ρ:=
 br (decide (n>(0:Int)))
 (bnd (idx mag (IntKind.i64.wrap (n-(1:Int)))) fun y=>
 Z (y==(0:Int)))
 (Z false)
def whole_made.c2s:Shape:=⟨[(0,ff7),(1,ff25),(4,ff6),(5,ff5)],[(4,ff29)]⟩
def whole_made.c2x0:Shape:=⟨[(0,ff7),(1,ff25),(4,ff6),(5,ff5),(17,ff7)],[(4,ff29)]⟩
def whole_made.c2r:Ck:=Ck.of (T:=Bool) whole_made.c2s (fun ρ X Z=>whole_made.c2 X.2.1 X.2.2.1 Z) (fun ρ X V Z=>Z 0 (Shape.inj whole_made.c2x0 (X.1,X.2.1,X.2.2.1,V,X.2.2.2)))
def whole_made.ce_ (mag:List Int)(n:Int)(Z:Int⊕Int→Option ρ):Option ρ:=
 bnd (whole_made.c2 mag n some) fun y=>
 br y
 (Z (.inl (IntKind.i64.wrap (n-(1:Int)))))
 (Z (.inr n))
def whole_made.ce_r:Ck:=Ck.ofLoop (S:=Int) (T:=Int) whole_made.c2s (fun X=>X.2.2.1) (fun ρ X Q Z=>whole_made.ce_ X.2.1 Q Z) (fun ρ X V Z=>Z 2 (Shape.inj whole_made.c2s (X.1,X.2.1,V,X.2.2.2)))
def whole_made (neg:Bool) (mag:List Int):Option YD:=
 bnd (iter (fun s↦whole_made.ce_ mag s some) ↑(List.length mag)) fun y=>
 br (y==(0:Int))
 (some (false,[]))
 (bnd (okIf (decide ((0:Int)≤y)&&decide (y≤y)&&decide (y≤(↑(List.length mag):Int)))) fun y1=>
 some (neg,List.take (Int.toNat y) mag))
def whole_made.ce:Go.Ql.Callee:=⟨[.bool,(.sl (.int .u32))],[(.st (.pair .bool (.sl (.int .u32))))],fun X=>whole_made X.1 X.2⟩
def whole_made.G:Env:=⟨29,tab,[],[0,1,4,5,17,21],[],[],[(100002,whole_made.ce_r),(2,whole_made.c2r)],[],jy⟩
theorem whole_made.p0:PcA whole_made.G Tryz.f67 0:=
 jW (s:=whole_made.ce_r) (by kernel_rfl) (by kernel_rfl) (jT (sh:=whole_made.c2s) (I:=fun X Q=>(X.1,X.2.1,Q,X.2.2.2)) (fun X=>rfl) (fun ρ X Q Z=>(jb fun _=>(jl jc jc))) (fun ρ X t k=>(by kernel_rfl)) (fun X s=>by kernel_rfl))
theorem whole_made.p1:PcA whole_made.G Tryz.f67 1:=
 js (s:=whole_made.c2r) (by kernel_rfl) (by kernel_rfl) (jq (sh:=whole_made.c2s) (fun ρ X Z=>(jl (jb fun _=>jc) jc)) (fun ρ X t k=>(by kernel_rfl)) (fun X=>by kernel_rfl))
theorem whole_made.ok:CalleeOk Tryz.prog 67 whole_made.ce:=fn_ok (G:=whole_made.G) jG mixed Tryz.func67 ⟨jz,jx,jn⟩ (m:=2) (by kernel_rfl) ⟨⟨trivial,whole_made.p0⟩,whole_made.p1⟩ (by kernel_rfl) (fun _=>by kernel_rfl)
def whole_Parse.c2 (text:List UInt8)(n:Int)(ok:Bool)(Z:Bool→Option ρ):Option ρ:=
 br (!ok)
 (Z true)
 (Z (decide (n<(↑(List.length text):Int))))
def whole_Parse.c2s:Shape:=⟨[(0,ff4),(2,ff2),(3,ff12),(4,ff5),(5,ff7)],[(2,ff29),(3,ff19)]⟩
def whole_Parse.c2x0:Shape:=⟨[(0,ff4),(2,ff2),(3,ff12),(4,ff5),(5,ff7),(19,ff7)],[(2,ff29),(3,ff19)]⟩
def whole_Parse.c2r:Ck:=Ck.of (T:=Bool) whole_Parse.c2s (fun ρ X Z=>whole_Parse.c2 X.1 X.2.1 X.2.2.1 Z) (fun ρ X V Z=>Z 0 (Shape.inj whole_Parse.c2x0 (X.1,X.2.1,X.2.2.1,V,X.2.2.2)))
def whole_Parse (text:List UInt8):Option (YD×(Int×Int)):=
 bnd (whole_number text true) fun y=>
 bnd (whole_Parse.c2 text y.1 y.2 some) fun y1=>
 br y1
 (some ((false,[]),(1:Int),y.1))
 (bnd (Jq text (Array.toList (ByteArray.data (ByteArray.mk #[45])))) fun y2=>
 br (decide ((↑(List.length y2):Int)>(1000:Int)))
 (some ((false,[]),(2:Int),(0:Int)))
 (bnd (whole_digits y2) fun y3=>
 bnd (whole_made (decide ((↑(List.length y2):Int)<(↑(List.length text):Int))) y3) fun y4=>
 some ((y4.1,y4.2),(0:Int),(0:Int))))
def whole_Parse.ce:Go.Ql.Callee:=⟨[.str],[(.st (.pair .bool (.sl (.int .u32)))),(.st (.pair (.int .i64) (.int .i64)))],fun X=>whole_Parse X⟩
def whole_Parse.G:Env:=⟨39,tab,[(62,whole_number.ce),(63,Jq.ce),(88,whole_digits.ce),(67,whole_made.ce)],[0,2,3,4,5,6,19,27],[],[],[(2,whole_Parse.c2r)],[],jy⟩
theorem whole_Parse.p0:PcA whole_Parse.G Tryz.f64 0:=
 js (s:=whole_Parse.c2r) (by kernel_rfl) (by kernel_rfl) (jq (sh:=whole_Parse.c2s) (fun ρ X Z=>(jl jc jc)) (fun ρ X t k=>(by kernel_rfl)) (fun X=>by kernel_rfl))
theorem whole_Parse.ok:CalleeOk Tryz.prog 64 whole_Parse.ce:=fn_ok (G:=whole_Parse.G) jG mixed Tryz.func64 ⟨(jj whole_number.ok (jj Jq.ok (jj whole_digits.ok (jj whole_made.ok jz)))),jx,jn⟩ (m:=1) (by kernel_rfl) ⟨trivial,whole_Parse.p0⟩ (by kernel_rfl) (fun _=>by kernel_rfl)
def cmp_isNaN_int (x:Int):Option Bool:=
 some (x !=x)
def cmp_isNaN_int.ce:Go.Ql.Callee:=⟨[(.int .i64)],[.bool],fun X=>cmp_isNaN_int X⟩
def cmp_isNaN_int.G:Env:=⟨6,tab,[],[0,2],[],[],[],[],jy⟩
theorem cmp_isNaN_int.ok:CalleeOk Tryz.prog 109 cmp_isNaN_int.ce:=fn_ok (G:=cmp_isNaN_int.G) jG mixed Tryz.func109 ⟨jz,jx,jn⟩ (m:=0) (by kernel_rfl) trivial (by kernel_rfl) (fun _=>by kernel_rfl)
def cmp_Compare_int (x:Int) (y:Int):Option Int:=
 bnd (cmp_isNaN_int x) fun y1=>
 bnd (cmp_isNaN_int y) fun y2=>
 br y1
 (br y2
 (some (0:Int))
 (some (-1:Int)))
 (br y2
 (some (1:Int))
 (br (decide (x<y))
 (some (-1:Int))
 (br (decide (x>y))
 (some (1:Int))
 (some (0:Int)))))
def cmp_Compare_int.ce:Go.Ql.Callee:=⟨[(.int .i64),(.int .i64)],[(.int .i64)],fun X=>cmp_Compare_int X.1 X.2⟩
def cmp_Compare_int.G:Env:=⟨20,tab,[(109,cmp_isNaN_int.ce)],[0,1,4,5,6,11,12,13,16,19],[],[],[],[],jy⟩
theorem cmp_Compare_int.ok:CalleeOk Tryz.prog 92 cmp_Compare_int.ce:=fn_ok (G:=cmp_Compare_int.G) jG mixed Tryz.func92 ⟨(jj cmp_isNaN_int.ok jz),jx,jn⟩ (m:=0) (by kernel_rfl) trivial (by kernel_rfl) (fun _=>by kernel_rfl)
def cmp_isNaN_uint32 (x:Int):Option Bool:=
 some (x !=x)
def cmp_isNaN_uint32.ce:Go.Ql.Callee:=⟨[(.int .u32)],[.bool],fun X=>cmp_isNaN_uint32 X⟩
def cmp_isNaN_uint32.G:Env:=⟨6,tab,[],[0,2],[],[],[],[],jy⟩
theorem cmp_isNaN_uint32.ok:CalleeOk Tryz.prog 122 cmp_isNaN_uint32.ce:=fn_ok (G:=cmp_isNaN_uint32.G) jG mixed Tryz.func122 ⟨jz,jx,jn⟩ (m:=0) (by kernel_rfl) trivial (by kernel_rfl) (fun _=>by kernel_rfl)
def cmp_Compare_uint32 (x:Int) (y:Int):Option Int:=
 bnd (cmp_isNaN_uint32 x) fun y1=>
 bnd (cmp_isNaN_uint32 y) fun y2=>
 br y1
 (br y2
 (some (0:Int))
 (some (-1:Int)))
 (br y2
 (some (1:Int))
 (br (decide (x<y))
 (some (-1:Int))
 (br (decide (x>y))
 (some (1:Int))
 (some (0:Int)))))
def cmp_Compare_uint32.ce:Go.Ql.Callee:=⟨[(.int .u32),(.int .u32)],[(.int .i64)],fun X=>cmp_Compare_uint32 X.1 X.2⟩
def cmp_Compare_uint32.G:Env:=⟨20,tab,[(122,cmp_isNaN_uint32.ce)],[0,1,4,5,6,11,12,13,16,19],[],[],[],[],jy⟩
theorem cmp_Compare_uint32.ok:CalleeOk Tryz.prog 110 cmp_Compare_uint32.ce:=fn_ok (G:=cmp_Compare_uint32.G) jG mixed Tryz.func110 ⟨(jj cmp_isNaN_uint32.ok jz),jx,jn⟩ (m:=0) (by kernel_rfl) trivial (by kernel_rfl) (fun _=>by kernel_rfl)
def whole_order.c7 (a:List Int)(b:List Int)(i:Int)(Z:Int→Option ρ):Option ρ:=
 bnd (idx a i) fun y=>
 bnd (idx b i) fun y1=>
 bnd (cmp_Compare_uint32 y y1) fun y2=>
 Z y2
def whole_order.c7s:Shape:=⟨[(0,ff25),(1,ff25),(4,ff5),(5,ff5),(6,ff5)],[]⟩
def whole_order.c7x0:Shape:=⟨[(0,ff25),(1,ff25),(4,ff5),(5,ff5),(6,ff5),(7,ff5)],[]⟩
def whole_order.c7r:Ck:=Ck.of (T:=Int) whole_order.c7s (fun ρ X Z=>whole_order.c7 X.1 X.2.1 (q4 X).1 Z) (fun ρ X V Z=>Z 0 (Shape.inj whole_order.c7x0 (X.1,X.2.1,X.2.2.1,X.2.2.2.1,(q4 X).1,V,())))
def whole_order.cf_ (a:List Int)(b:List Int)(i:Int)(Z:Int⊕((Int×Int)⊕Int)→Option ρ):Option ρ:=
 br (decide (i≥(0:Int)))
 (bnd (whole_order.c7 a b i some) fun y=>
 br (y !=(0:Int))
 (Z (.inr (.inl (y,i))))
 (Z (.inl (IntKind.i64.wrap (i-(1:Int))))))
 (Z (.inr (.inr i)))
def whole_order.cf_r:Ck:=Ck.ofLoop (S:=Int) (T:=(Int×Int)⊕Int) whole_order.c7s (fun X=>(q4 X).1) (fun ρ X Q Z=>whole_order.cf_ X.1 X.2.1 Q Z) (fun ρ X V Z=>sel V (fun V=>Z 1 (Shape.inj whole_order.c7s (X.1,X.2.1,V.1,X.2.2.2.1,V.2,()))) (fun V=>Z 2 (Shape.inj whole_order.c7s (X.1,X.2.1,X.2.2.1,X.2.2.2.1,V,()))))
def whole_order (a:List Int) (b:List Int):Option Int:=
 bnd (cmp_Compare_int (↑(List.length a):Int) (↑(List.length b):Int)) fun y=>
 br (y !=(0:Int))
 (some y)
 (bnd (iter (fun s↦whole_order.cf_ a b s some) (IntKind.i64.wrap ((↑(List.length a):Int)-(1:Int)))) fun y1=>
 sel y1
 (fun u=>some u.1)
 (fun v=>some (0:Int)))
def whole_order.ce:Go.Ql.Callee:=⟨[(.sl (.int .u32)),(.sl (.int .u32))],[(.int .i64)],fun X=>whole_order X.1 X.2⟩
def whole_order.G:Env:=⟨35,tab,[(92,cmp_Compare_int.ce),(110,cmp_Compare_uint32.ce)],[0,1,4,5,6,7,14,20,33],[],[(7,[⟨[],[],[24,27,28,29,30],[]⟩,⟨[],[],[23,27,28,29,30],[]⟩,⟨[0,1],[],[27,28,29,30],[]⟩,⟨[2,0,1],[],[27,28,29,30],[]⟩,⟨[],[],[23,24,25,26,28],[]⟩,⟨[],[],[23,24,25,26,27],[]⟩,⟨[4,5],[],[23,24,25,26],[]⟩,⟨[6,4,5],[],[23,24,25,26],[]⟩,⟨[3,2,0,1,7,6,4,5],[],[],[]⟩,⟨[8,3,2,0,1,7,6,4,5],[],[],[]⟩])],[(100005,whole_order.cf_r),(7,whole_order.c7r)],[],jy⟩
theorem whole_order.p0:PcA whole_order.G Tryz.f93 0:=
 jW (s:=whole_order.cf_r) (by kernel_rfl) (by kernel_rfl) (jT (sh:=whole_order.c7s) (I:=fun X Q=>(X.1,X.2.1,X.2.2.1,X.2.2.2.1,Q,())) (fun X=>rfl) (fun ρ X Q Z=>(jl (jb fun _=>(jl jc jc)) jc)) (fun ρ X t k=>(kU (fun _=>(by kernel_rfl)) (fun _=>(by kernel_rfl)))) (fun X s=>by kernel_rfl))
theorem whole_order.p1:PcA whole_order.G Tryz.f93 1:=
 js (s:=whole_order.c7r) (by kernel_rfl) (by kernel_rfl) (jq (sh:=whole_order.c7s) (fun ρ X Z=>(jb fun _=>(jb fun _=>(jb fun _=>jc)))) (fun ρ X t k=>(by kernel_rfl)) (fun X=>by kernel_rfl))
theorem whole_order.ok:CalleeOk Tryz.prog 93 whole_order.ce:=fn_ok (G:=whole_order.G) jG mixed Tryz.func93 ⟨(jj cmp_Compare_int.ok (jj cmp_Compare_uint32.ok jz)),jx,jn⟩ (m:=2) (by kernel_rfl) ⟨⟨trivial,whole_order.p0⟩,whole_order.p1⟩ (by kernel_rfl) (fun _=>by kernel_rfl)
def jM.c1 (hi:Int)(y:Int)(Z:Bool→Option ρ):Option ρ:=
 br (y !=(0:Int))
 (Z (decide (y≤hi)))
 (Z false)
def jM.c1s:Shape:=⟨[(0,ff10),(1,ff10),(2,ff10),(6,ff10),(7,ff10)],[]⟩
def jM.c1x0:Shape:=⟨[(0,ff10),(1,ff10),(2,ff10),(6,ff10),(7,ff10),(15,ff7)],[]⟩
def jM.c1r:Ck:=Ck.of (T:=Bool) jM.c1s (fun ρ X Z=>jM.c1 X.1 X.2.2.1 Z) (fun ρ X V Z=>Z 0 (Shape.inj jM.c1x0 (X.1,X.2.1,X.2.2.1,X.2.2.2.1,(q4 X).1,V,())))
def jM.cy_ (hi:Int)(y:Int)(Z:Unit→Option ρ):Option ρ:=
 bnd (jM.c1 hi y some) fun y1=>
 br y1
 (none)
 (Z ())
def jM.cy_r:Ck:=Ck.of (T:=Unit) jM.c1s (fun ρ X Z=>jM.cy_ X.1 X.2.2.1 Z) (fun ρ X V Z=>Z 0 (Shape.inj jM.c1s X))
def jM.c4 (y:Int)(Z:Unit→Option ρ):Option ρ:=
 bnd (okIf (IntKind.wrap IntKind.u64 y !=(0:Int))) fun y1=>
 bnd (okIf (IntKind.wrap IntKind.u64 y !=(0:Int))) fun y2=>
 Z ()
def jM.c4s:Shape:=⟨[(0,ff10),(1,ff10),(2,ff10),(6,ff10),(7,ff10),(8,ff13)],[]⟩
def jM.c4r:Ck:=Ck.of (T:=Unit) jM.c4s (fun ρ X Z=>jM.c4 X.2.2.1 Z) (fun ρ X V Z=>Z 0 (Shape.inj jM.c4s (X.1,X.2.1,X.2.2.1,(IntKind.wrap IntKind.u32 (IntKind.u64.wrap (Int.tdiv (q4 X).2.1 (IntKind.wrap IntKind.u64 X.2.2.1)))),(IntKind.wrap IntKind.u32 (Int.tmod (q4 X).2.1 (IntKind.wrap IntKind.u64 X.2.2.1))),(q4 X).2)))
def jM (hi:Int) (lo:Int) (y:Int):Option (Int×Int):=
 bnd (jM.cy_ hi y some) fun y1=>
 bnd (jM.c4 y some) fun y2=>
 some (IntKind.wrap IntKind.u32 (IntKind.u64.wrap (Int.tdiv (ibits BinOp.or IntKind.u64 (IntKind.u64.wrap (IntKind.wrap IntKind.u64 hi*(2:Int)^(32:Nat))) (IntKind.wrap IntKind.u64 lo)) (IntKind.wrap IntKind.u64 y))),IntKind.wrap IntKind.u32 (Int.tmod (ibits BinOp.or IntKind.u64 (IntKind.u64.wrap (IntKind.wrap IntKind.u64 hi*(2:Int)^(32:Nat))) (IntKind.wrap IntKind.u64 lo)) (IntKind.wrap IntKind.u64 y)))
def jM.ce:Go.Ql.Callee:=⟨[(.int .u32),(.int .u32),(.int .u32)],[(.int .u32),(.int .u32)],fun X=>jM X.1 X.2.1 X.2.2⟩
def jM.G:Env:=⟨33,tab,[],[0,1,2,6,7,8,15],[],[(4,[⟨[],[],[24,25,28,29,30,31,32],[]⟩,⟨[],[],[23,28,29,30,31,32],[]⟩,⟨[1],[],[23,28,29,30,31,32],[]⟩,⟨[0,2,1],[],[28,29,30,31,32],[]⟩,⟨[3,0,2,1],[],[28,29,30,31,32],[]⟩,⟨[],[],[23,24,25,26,27,29,30,6],[]⟩,⟨[],[],[23,24,25,26,27,28,6],[]⟩,⟨[6],[],[23,24,25,26,27,28,6],[]⟩,⟨[5,7,6],[],[23,24,25,26,27,6],[]⟩,⟨[8,5,7,6],[],[23,24,25,26,27,6],[]⟩,⟨[4,3,0,2,1],[],[28,29,30,31,32],[]⟩,⟨[9,8,5,7,6,10,4,3,0,2,1],[],[],[]⟩])],[(4,jM.c4r),(204101,jM.cy_r),(1,jM.c1r)],[],jy⟩
theorem jM.p0:PcA jM.G Tryz.f116 0:=
 JE (s:=jM.cy_r) (by kernel_rfl) (by kernel_rfl) (jq (sh:=jM.c1s) (fun ρ X Z=>(jb fun _=>(jl nat_none jc))) (fun ρ X t k=>(by kernel_rfl)) (fun X=>by kernel_rfl))
theorem jM.p1:PcA jM.G Tryz.f116 1:=
 js (s:=jM.c1r) (by kernel_rfl) (by kernel_rfl) (jq (sh:=jM.c1s) (fun ρ X Z=>(jl jc jc)) (fun ρ X t k=>(by kernel_rfl)) (fun X=>by kernel_rfl))
theorem jM.p2:PcA jM.G Tryz.f116 2:=
 js (s:=jM.c4r) (by kernel_rfl) (by kernel_rfl) (jq (sh:=jM.c4s) (fun ρ X Z=>(jb fun _=>(jb fun _=>jc))) (fun ρ X t k=>(by kernel_rfl)) (fun X=>by kernel_rfl))
theorem jM.ok:CalleeOk Tryz.prog 116 jM.ce:=fn_ok (G:=jM.G) jG mixed Tryz.func116 ⟨jz,jx,jn⟩ (m:=3) (by kernel_rfl) ⟨⟨⟨trivial,jM.p0⟩,jM.p1⟩,jM.p2⟩ (by kernel_rfl) (fun _=>by kernel_rfl)
abbrev ff30:SD:=.one (.own 11 0)
def whole_short.cb_ (a:List Int)(d:Int)(r:Int)(i:Int)(t11:List Int)(Z:(Int×Int×(List Int))⊕(Int×Int×(List Int))→Option ρ):Option ρ:=
 br (decide (i≥(0:Int)))
 (bnd (idx a i) fun y=>
 bnd (jM r y d) fun y1=>
 bnd (inR (List.length t11) i) fun y2=>
 bnd (idx t11 i) fun y3=>
 Z (.inl (y1.2,(IntKind.i64.wrap (i-(1:Int))),(List.set t11 (Int.toNat i) y1.1))))
 (Z (.inr (r,i,t11)))
def whole_short.cb_s:Shape:=⟨[(0,ff25),(1,ff10),(4,ff25),(5,ff10),(6,ff30),(7,ff10),(8,ff5)],[(11,ff28)]⟩
def whole_short.cb_r:Ck:=Ck.ofLoop (S:=Int×Int×(List Int)) (T:=Int×Int×(List Int)) whole_short.cb_s (fun X=>((q4 X).1,(q4 X).2.1,(q4 X).2.2.1)) (fun ρ X Q Z=>whole_short.cb_ X.1 X.2.1 Q.1 Q.2.1 Q.2.2 Z) (fun ρ X V Z=>Z 2 (Shape.inj whole_short.cb_s (X.1,X.2.1,X.2.2.1,X.2.2.2.1,V.1,V.2.1,V.2.2,())))
def whole_short (a:List Int) (d:Int):Option ((List Int)×Int):=
 bnd (okIf (decide ((0:Int)≤(↑(List.length a):Int))&&decide ((↑(List.length a):Int)≤(↑(List.length a):Int))&&decide ((↑(List.length a):Int)*(↑(4:Nat):Int)≤(140737488355328:Int))&&decide ((↑(List.length a):Int)≤(140737488355328:Int)))) fun y=>
 bnd (iter (fun s↦whole_short.cb_ a d s.1 s.2.1 s.2.2 some) ((0:Int),IntKind.i64.wrap ((↑(List.length a):Int)-(1:Int)),List.replicate (Int.toNat (↑(List.length a):Int)) (0:Int))) fun y1=>
 some (y1.2.2,y1.1)
def whole_short.ce:Go.Ql.Callee:=⟨[(.sl (.int .u32)),(.int .u32)],[(.sl (.int .u32)),(.int .u32)],fun X=>whole_short X.1 X.2⟩
def whole_short.G:Env:=⟨34,tab,[(116,jM.ce)],[0,1,4,5,6,7,8,16],[11],[],[(100004,whole_short.cb_r)],[],jy⟩
theorem whole_short.p0:PcA whole_short.G Tryz.f107 0:=
 jW (s:=whole_short.cb_r) (by kernel_rfl) (by kernel_rfl) (jT (sh:=whole_short.cb_s) (I:=fun X Q=>(X.1,X.2.1,X.2.2.1,X.2.2.2.1,Q.1,Q.2.1,Q.2.2,())) (fun X=>rfl) (fun ρ X Q Z=>(jl (jb fun _=>(jb fun _=>(jb fun _=>(jb fun _=>jc)))) jc)) (fun ρ X t k=>(by kernel_rfl)) (fun X s=>by kernel_rfl))
theorem whole_short.ok:CalleeOk Tryz.prog 107 whole_short.ce:=fn_ok (G:=whole_short.G) jG mixed Tryz.func107 ⟨(jj jM.ok jz),jx,jn⟩ (m:=1) (by kernel_rfl) ⟨trivial,whole_short.p0⟩ (by kernel_rfl) (fun _=>by kernel_rfl)
def Ja.cp_ (x:Int)(n:Int)(Z:Int×Int→Option ρ):Option ρ:=
 br (decide (x≥(65536:Int)))
 (Z ((Int.fdiv x ((2:Int)^(16:Nat))),(16:Int)))
 (Z (x,n))
def Ja.cp_s:Shape:=⟨[(0,ff10),(2,ff5)],[]⟩
def Ja.cp_r:Ck:=Ck.of (T:=Int×Int) Ja.cp_s (fun ρ X Z=>Ja.cp_ X.1 X.2.1 Z) (fun ρ X V Z=>Z 0 (Shape.inj Ja.cp_s (V.1,V.2,())))
def Ja.cz_ (x:Int)(n:Int)(Z:Int×Int→Option ρ):Option ρ:=
 br (decide (x≥(256:Int)))
 (Z ((Int.fdiv x ((2:Int)^(8:Nat))),(IntKind.i64.wrap (n+(8:Int)))))
 (Z (x,n))
def Ja.cz_r:Ck:=Ck.of (T:=Int×Int) Ja.cp_s (fun ρ X Z=>Ja.cz_ X.1 X.2.1 Z) (fun ρ X V Z=>Z 0 (Shape.inj Ja.cp_s (V.1,V.2,())))
def Ja (x:Int):Option Int:=
 bnd (Ja.cp_ x (0:Int) some) fun y=>
 bnd (Ja.cz_ y.1 y.2 some) fun y1=>
 bnd (idx (Array.toList (ByteArray.data (ByteArray.mk (List.toArray (List.append (List.append [0,1,2,2,3,3,3,3,4,4,4,4,4,4,4,4,5,5,5,5,5,5,5,5,5,5,5,5,5,5,5,5,6,6,6,6,6,6,6,6,6,6,6,6,6,6,6,6,6,6,6,6,6,6,6,6,6,6,6,6,6,6,6,6] [7,7,7,7,7,7,7,7,7,7,7,7,7,7,7,7,7,7,7,7,7,7,7,7,7,7,7,7,7,7,7,7,7,7,7,7,7,7,7,7,7,7,7,7,7,7,7,7,7,7,7,7,7,7,7,7,7,7,7,7,7,7,7,7]) (List.append [8,8,8,8,8,8,8,8,8,8,8,8,8,8,8,8,8,8,8,8,8,8,8,8,8,8,8,8,8,8,8,8,8,8,8,8,8,8,8,8,8,8,8,8,8,8,8,8,8,8,8,8,8,8,8,8,8,8,8,8,8,8,8,8] [8,8,8,8,8,8,8,8,8,8,8,8,8,8,8,8,8,8,8,8,8,8,8,8,8,8,8,8,8,8,8,8,8,8,8,8,8,8,8,8,8,8,8,8,8,8,8,8,8,8,8,8,8,8,8,8,8,8,8,8,8,8,8,8])))))) (IntKind.wrap IntKind.u8 y1.1)) fun y2=>
 some (IntKind.i64.wrap (y1.2+IntKind.i64.wrap (↑(UInt8.toNat y2):Int)))
def Ja.ce:Go.Ql.Callee:=⟨[(.int .u32)],[(.int .i64)],fun X=>Ja X⟩
def Ja.G:Env:=⟨19,tab,[],[0,2,4,8],[],[],[(216391,Ja.cz_r),(204103,Ja.cp_r)],[],jy⟩
theorem Ja.p0:PcA Ja.G Tryz.f124 0:=
 JE (s:=Ja.cp_r) (by kernel_rfl) (by kernel_rfl) (jq (sh:=Ja.cp_s) (fun ρ X Z=>(jl jc jc)) (fun ρ X t k=>(by kernel_rfl)) (fun X=>by kernel_rfl))
theorem Ja.p1:PcA Ja.G Tryz.f124 1:=
 JE (s:=Ja.cz_r) (by kernel_rfl) (by kernel_rfl) (jq (sh:=Ja.cp_s) (fun ρ X Z=>(jl jc jc)) (fun ρ X t k=>(by kernel_rfl)) (fun X=>by kernel_rfl))
theorem Ja.ok:CalleeOk Tryz.prog 124 Ja.ce:=fn_ok (G:=Ja.G) jG mixed Tryz.func124 ⟨jz,jx,jn⟩ (m:=2) (by kernel_rfl) ⟨⟨trivial,Ja.p0⟩,Ja.p1⟩ (by kernel_rfl) (fun _=>by kernel_rfl)
def JC (x:Int):Option Int:=
 bnd (Ja x) fun y=>
 some (IntKind.i64.wrap ((32:Int)-y))
def JC.ce:Go.Ql.Callee:=⟨[(.int .u32)],[(.int .i64)],fun X=>JC X⟩
def JC.G:Env:=⟨6,tab,[(124,Ja.ce)],[0,2],[],[],[],[],jy⟩
theorem JC.ok:CalleeOk Tryz.prog 117 JC.ce:=fn_ok (G:=JC.G) jG mixed Tryz.func117 ⟨(jj Ja.ok jz),jx,jn⟩ (m:=0) (by kernel_rfl) trivial (by kernel_rfl) (fun _=>by kernel_rfl)
abbrev ff31:SD:=.one (.own 0 0)
abbrev ff32:SD:=.one (.own 4 0)
abbrev ff33:SD:=.one (.own 15 0)
def whole_left.pre:Shape:=⟨[(0,ff25),(1,ff5)],[]⟩
def whole_left.post:Shape:=⟨[(0,ff31)],[(0,ff28)]⟩
def whole_left.ca_ (n:Int)(t16:List Int)(t17:Int)(t18:Int)(t15:List Int)(Z:(Int×(List Int))⊕(Int×(List Int))→Option ρ):Option ρ:=
 br (decide (t18<t17))
 (bnd (idx t16 t18) fun y=>
 bnd (okIf (decide ((0:Int)≤Int.tmod n (32:Int)))) fun y1=>
 bnd (inR (List.length t15) (IntKind.i64.wrap (t18+IntKind.i64.wrap (Int.tdiv n (32:Int))))) fun y2=>
 bnd (idx t15 (IntKind.i64.wrap (t18+IntKind.i64.wrap (Int.tdiv n (32:Int))))) fun y3=>
 bnd (inR (List.length t15) (IntKind.i64.wrap (t18+IntKind.i64.wrap (Int.tdiv n (32:Int))))) fun y4=>
 bnd (idx t15 (IntKind.i64.wrap (t18+IntKind.i64.wrap (Int.tdiv n (32:Int))))) fun y5=>
 bnd (inR (List.length (List.set t15 (Int.toNat (IntKind.i64.wrap (t18+IntKind.i64.wrap (Int.tdiv n (32:Int))))) (ibits BinOp.or IntKind.u32 y3 (IntKind.wrap IntKind.u32 (IntKind.u64.wrap (IntKind.wrap IntKind.u64 y*(2:Int)^Min.min (Int.toNat (Int.tmod n (32:Int))) (64:Nat))))))) (IntKind.i64.wrap (IntKind.i64.wrap (t18+IntKind.i64.wrap (Int.tdiv n (32:Int)))+(1:Int)))) fun y6=>
 bnd (idx (List.set t15 (Int.toNat (IntKind.i64.wrap (t18+IntKind.i64.wrap (Int.tdiv n (32:Int))))) (ibits BinOp.or IntKind.u32 y3 (IntKind.wrap IntKind.u32 (IntKind.u64.wrap (IntKind.wrap IntKind.u64 y*(2:Int)^Min.min (Int.toNat (Int.tmod n (32:Int))) (64:Nat)))))) (IntKind.i64.wrap (IntKind.i64.wrap (t18+IntKind.i64.wrap (Int.tdiv n (32:Int)))+(1:Int)))) fun y7=>
 bnd (inR (List.length (List.set t15 (Int.toNat (IntKind.i64.wrap (t18+IntKind.i64.wrap (Int.tdiv n (32:Int))))) (ibits BinOp.or IntKind.u32 y3 (IntKind.wrap IntKind.u32 (IntKind.u64.wrap (IntKind.wrap IntKind.u64 y*(2:Int)^Min.min (Int.toNat (Int.tmod n (32:Int))) (64:Nat))))))) (IntKind.i64.wrap (IntKind.i64.wrap (t18+IntKind.i64.wrap (Int.tdiv n (32:Int)))+(1:Int)))) fun y8=>
 bnd (idx (List.set t15 (Int.toNat (IntKind.i64.wrap (t18+IntKind.i64.wrap (Int.tdiv n (32:Int))))) (ibits BinOp.or IntKind.u32 y3 (IntKind.wrap IntKind.u32 (IntKind.u64.wrap (IntKind.wrap IntKind.u64 y*(2:Int)^Min.min (Int.toNat (Int.tmod n (32:Int))) (64:Nat)))))) (IntKind.i64.wrap (IntKind.i64.wrap (t18+IntKind.i64.wrap (Int.tdiv n (32:Int)))+(1:Int)))) fun y9=>
 Z (.inl ((IntKind.i64.wrap (t18+(1:Int))),(List.set (List.set t15 (Int.toNat (IntKind.i64.wrap (t18+IntKind.i64.wrap (Int.tdiv n (32:Int))))) (ibits BinOp.or IntKind.u32 y3 (IntKind.wrap IntKind.u32 (IntKind.u64.wrap (IntKind.wrap IntKind.u64 y*(2:Int)^Min.min (Int.toNat (Int.tmod n (32:Int))) (64:Nat)))))) (Int.toNat (IntKind.i64.wrap (IntKind.i64.wrap (t18+IntKind.i64.wrap (Int.tdiv n (32:Int)))+(1:Int)))) (ibits BinOp.or IntKind.u32 y7 (IntKind.wrap IntKind.u32 (Int.fdiv (IntKind.u64.wrap (IntKind.wrap IntKind.u64 y*(2:Int)^Min.min (Int.toNat (Int.tmod n (32:Int))) (64:Nat))) ((2:Int)^(32:Nat)))))))))
 (Z (.inr (t18,t15)))
def whole_left.ca_s:Shape:=⟨[(0,ff25),(1,ff5),(4,ff32),(5,ff33),(16,ff25),(17,ff5),(18,ff5)],[(4,ff28),(15,ff28)]⟩
def whole_left.ca_r:Ck:=Ck.ofLoop (S:=Int×(List Int)) (T:=Int×(List Int)) whole_left.ca_s (fun X=>((q4 X).1,(q4 X).2.2.1)) (fun ρ X Q Z=>whole_left.ca_ X.2.1 X.2.2.1 X.2.2.2.1 Q.1 Q.2 Z) (fun ρ X V Z=>Z 2 (Shape.inj whole_left.ca_s (X.1,X.2.1,X.2.2.1,X.2.2.2.1,V.1,(q4 X).2.1,V.2,())))
def whole_left (a:List Int) (n:Int):Option ((List Int)×Unit):=
 bnd (okIf (decide ((0:Int)≤IntKind.i64.wrap (IntKind.i64.wrap ((↑(List.length a):Int)+IntKind.i64.wrap (Int.tdiv n (32:Int)))+(1:Int)))&&decide (IntKind.i64.wrap (IntKind.i64.wrap ((↑(List.length a):Int)+IntKind.i64.wrap (Int.tdiv n (32:Int)))+(1:Int))≤IntKind.i64.wrap (IntKind.i64.wrap ((↑(List.length a):Int)+IntKind.i64.wrap (Int.tdiv n (32:Int)))+(1:Int)))&&decide (IntKind.i64.wrap (IntKind.i64.wrap ((↑(List.length a):Int)+IntKind.i64.wrap (Int.tdiv n (32:Int)))+(1:Int))*(↑(4:Nat):Int)≤(140737488355328:Int))&&decide (IntKind.i64.wrap (IntKind.i64.wrap ((↑(List.length a):Int)+IntKind.i64.wrap (Int.tdiv n (32:Int)))+(1:Int))≤(140737488355328:Int)))) fun y=>
 bnd (iter (fun s↦whole_left.ca_ n a (↑(List.length a):Int) s.1 s.2 some) ((0:Int),List.replicate (Int.toNat (IntKind.i64.wrap (IntKind.i64.wrap ((↑(List.length a):Int)+IntKind.i64.wrap (Int.tdiv n (32:Int)))+(1:Int)))) (0:Int))) fun y1=>
 some (y1.2,())
def whole_left.mc:MCallee:=⟨118,whole_left.pre,whole_left.post,fun X=>whole_left X.1 X.2.1⟩
def whole_left.G:Env:=⟨54,tab,[],[0,1,4,5,6,7,8,16,17,18,19],[4,15],[],[(100003,whole_left.ca_r)],[],jy⟩
theorem whole_left.p0:PcA whole_left.G Tryz.f118 0:=
 jW (s:=whole_left.ca_r) (by kernel_rfl) (by kernel_rfl) (jT (sh:=whole_left.ca_s) (I:=fun X Q=>(X.1,X.2.1,X.2.2.1,X.2.2.2.1,Q.1,(q4 X).2.1,Q.2,())) (fun X=>rfl) (fun ρ X Q Z=>(jl (jb fun _=>(jb fun _=>(jb fun _=>(jb fun _=>(jb fun _=>(jb fun _=>(jb fun _=>(jb fun _=>(jb fun _=>(jb fun _=>jc)))))))))) jc)) (fun ρ X t k=>(by kernel_rfl)) (fun X s=>by kernel_rfl))
theorem whole_left.ok:MOk Tryz.prog 118 whole_left.mc:=YW (mc:=whole_left.mc) (G:=whole_left.G) jG mixed Tryz.func118 ⟨jz,jx,jn⟩ (m:=1) (by kernel_rfl) ⟨trivial,whole_left.p0⟩ (by kernel_rfl) (fun _=>by kernel_rfl)
abbrev ff34:SD:=.one (.win 2000000 0)
def whole_takeAway.pre:Shape:=⟨[(0,ff34),(1,ff25),(2,ff10)],[(2000000,ff28)]⟩
def whole_takeAway.post:Shape:=⟨[(0,ff7)],[(2000000,ff28)]⟩
def whole_takeAway.ca_ (ulo:Int)(un:Int)(g:Int)(borrow:Int)(carry:Int)(t13:List Int)(t14:Int)(t15:Int)(ua:List Int)(Z:(Int×Int×Int×(List Int))⊕(Int×Int×Int×(List Int))→Option ρ):Option ρ:=
 br (decide (t15<t14))
 (bnd (idx t13 t15) fun y=>
 bnd (okIf (decide ((0:Ty.den (Ty.int IntKind.i64))≤t15)&&decide (t15<un))) fun y1=>
 bnd (idx ua (ulo+t15)) fun y2=>
 bnd (okIf (decide ((0:Ty.den (Ty.int IntKind.i64))≤t15)&&decide (t15<un))) fun y3=>
 bnd (idx ua (ulo+t15)) fun y4=>
 Z (.inl ((Int.fdiv (IntKind.u64.wrap (IntKind.u64.wrap (IntKind.wrap IntKind.u64 y2-ibits BinOp.and IntKind.u64 (IntKind.u64.wrap (carry+IntKind.u64.wrap (IntKind.wrap IntKind.u64 y*IntKind.wrap IntKind.u64 g))) (4294967295:Int))-borrow)) ((2:Int)^(63:Nat))),(Int.fdiv (IntKind.u64.wrap (carry+IntKind.u64.wrap (IntKind.wrap IntKind.u64 y*IntKind.wrap IntKind.u64 g))) ((2:Int)^(32:Nat))),(IntKind.i64.wrap (t15+(1:Int))),(List.set ua (Int.toNat (ulo+t15)) (IntKind.wrap IntKind.u32 (IntKind.u64.wrap (IntKind.u64.wrap (IntKind.wrap IntKind.u64 y2-ibits BinOp.and IntKind.u64 (IntKind.u64.wrap (carry+IntKind.u64.wrap (IntKind.wrap IntKind.u64 y*IntKind.wrap IntKind.u64 g))) (4294967295:Int))-borrow)))))))
 (Z (.inr (borrow,carry,t15,ua)))
def whole_takeAway.ca_s:Shape:=⟨[(0,ff34),(1,ff25),(2,ff10),(6,ff7),(7,ff13),(8,ff13),(13,ff25),(14,ff5),(15,ff5)],[(2000000,ff28)]⟩
def whole_takeAway.ca_r:Ck:=Ck.ofLoop (S:=Int×Int×Int×(List Int)) (T:=Int×Int×Int×(List Int)) whole_takeAway.ca_s (fun X=>((q4 X).2.1,(q4 X).2.2.1,(q8 X).2.1,(q8 X).2.2.1)) (fun ρ X Q Z=>whole_takeAway.ca_ X.1 X.2.1 X.2.2.2.1 Q.1 Q.2.1 (q4 X).2.2.2.1 (q8 X).1 Q.2.2.1 Q.2.2.2 Z) (fun ρ X V Z=>Z 2 (Shape.inj whole_takeAway.ca_s (X.1,X.2.1,X.2.2.1,X.2.2.2.1,(q4 X).1,V.1,V.2.1,(q4 X).2.2.2.1,(q8 X).1,V.2.2.1,V.2.2.2,())))
def whole_takeAway (ulo:Int) (un:Int) (v:List Int) (g:Int) (ua:List Int):Option (Bool×(List Int)×Unit):=
 bnd (iter (fun s↦whole_takeAway.ca_ ulo un g s.1 s.2.1 v (↑(List.length v):Int) s.2.2.1 s.2.2.2 some) ((0:Int),(0:Int),(0:Int),ua)) fun y=>
 bnd (okIf (decide ((0:Ty.den (Ty.int IntKind.i64))≤(↑(List.length v):Int))&&decide ((↑(List.length v):Int)<un))) fun y1=>
 bnd (idx y.2.2.2 (ulo+(↑(List.length v):Int))) fun y2=>
 bnd (okIf (decide ((0:Ty.den (Ty.int IntKind.i64))≤(↑(List.length v):Int))&&decide ((↑(List.length v):Int)<un))) fun y3=>
 bnd (idx y.2.2.2 (ulo+(↑(List.length v):Int))) fun y4=>
 some (decide (Int.fdiv (IntKind.u64.wrap (IntKind.u64.wrap (IntKind.wrap IntKind.u64 y2-y.2.1)-y.1)) ((2:Int)^(63:Nat))>(0:Int)),List.set y.2.2.2 (Int.toNat (ulo+(↑(List.length v):Int))) (IntKind.wrap IntKind.u32 (IntKind.u64.wrap (IntKind.u64.wrap (IntKind.wrap IntKind.u64 y2-y.2.1)-y.1))),())
def whole_takeAway.mc:MCallee:=⟨119,whole_takeAway.pre,whole_takeAway.post,fun X=>whole_takeAway X.1 X.2.1 X.2.2.1 X.2.2.2.1 (q4 X).1⟩
def whole_takeAway.G:Env:=⟨66,tab,[],[0,1,2,6,7,8,9,10,11,12,13,14,15,16],[2000000],[],[(100003,whole_takeAway.ca_r)],[],jy⟩
theorem whole_takeAway.p0:PcA whole_takeAway.G Tryz.f119 0:=
 jW (s:=whole_takeAway.ca_r) (by kernel_rfl) (by kernel_rfl) (jT (sh:=whole_takeAway.ca_s) (I:=fun X Q=>(X.1,X.2.1,X.2.2.1,X.2.2.2.1,(q4 X).1,Q.1,Q.2.1,(q4 X).2.2.2.1,(q8 X).1,Q.2.2.1,Q.2.2.2,())) (fun X=>rfl) (fun ρ X Q Z=>(jl (jb fun _=>(jb fun _=>(jb fun _=>(jb fun _=>(jb fun _=>jc))))) jc)) (fun ρ X t k=>(by kernel_rfl)) (fun X s=>by kernel_rfl))
theorem whole_takeAway.ok:MOk Tryz.prog 119 whole_takeAway.mc:=YW (mc:=whole_takeAway.mc) (G:=whole_takeAway.G) jG mixed Tryz.func119 ⟨jz,jx,jn⟩ (m:=1) (by kernel_rfl) ⟨trivial,whole_takeAway.p0⟩ (by kernel_rfl) (fun _=>by kernel_rfl)
def ki (x:Int) (y:Int) (carry:Int):Option (Int×Int):=
 some (IntKind.wrap IntKind.u32 (IntKind.u64.wrap (IntKind.u64.wrap (IntKind.wrap IntKind.u64 x+IntKind.wrap IntKind.u64 y)+IntKind.wrap IntKind.u64 carry)),IntKind.wrap IntKind.u32 (Int.fdiv (IntKind.u64.wrap (IntKind.u64.wrap (IntKind.wrap IntKind.u64 x+IntKind.wrap IntKind.u64 y)+IntKind.wrap IntKind.u64 carry)) ((2:Int)^(32:Nat))))
def ki.ce:Go.Ql.Callee:=⟨[(.int .u32),(.int .u32),(.int .u32)],[(.int .u32),(.int .u32)],fun X=>ki X.1 X.2.1 X.2.2⟩
def ki.G:Env:=⟨22,tab,[],[0,1,2,6,7,8],[],[],[],[],jy⟩
theorem ki.ok:CalleeOk Tryz.prog 111 ki.ce:=fn_ok (G:=ki.G) jG mixed Tryz.func111 ⟨jz,jx,jn⟩ (m:=0) (by kernel_rfl) trivial (by kernel_rfl) (fun _=>by kernel_rfl)
def whole_giveBack.pre:Shape:=⟨[(0,ff34),(1,ff25)],[(2000000,ff28)]⟩
def whole_giveBack.post:Shape:=⟨[],[(2000000,ff28)]⟩
def whole_giveBack.ce_ (ulo:Int)(un:Int)(c:Int)(t7:List Int)(t8:Int)(t9:Int)(ua:List Int)(Z:(Int×Int×(List Int))⊕(Int×Int×(List Int))→Option ρ):Option ρ:=
 br (decide (t9<t8))
 (bnd (idx t7 t9) fun y=>
 bnd (okIf (decide ((0:Ty.den (Ty.int IntKind.i64))≤t9)&&decide (t9<un))) fun y1=>
 bnd (idx ua (ulo+t9)) fun y2=>
 bnd (ki y2 y c) fun y3=>
 bnd (okIf (decide ((0:Ty.den (Ty.int IntKind.i64))≤t9)&&decide (t9<un))) fun y4=>
 bnd (idx ua (ulo+t9)) fun y5=>
 Z (.inl (y3.2,(IntKind.i64.wrap (t9+(1:Int))),(List.set ua (Int.toNat (ulo+t9)) y3.1))))
 (Z (.inr (c,t9,ua)))
def whole_giveBack.ce_s:Shape:=⟨[(0,ff34),(1,ff25),(4,ff10),(7,ff25),(8,ff5),(9,ff5)],[(2000000,ff28)]⟩
def whole_giveBack.ce_r:Ck:=Ck.ofLoop (S:=Int×Int×(List Int)) (T:=Int×Int×(List Int)) whole_giveBack.ce_s (fun X=>(X.2.2.2.1,(q4 X).2.2.1,(q4 X).2.2.2.1)) (fun ρ X Q Z=>whole_giveBack.ce_ X.1 X.2.1 Q.1 (q4 X).1 (q4 X).2.1 Q.2.1 Q.2.2 Z) (fun ρ X V Z=>Z 2 (Shape.inj whole_giveBack.ce_s (X.1,X.2.1,X.2.2.1,V.1,(q4 X).1,(q4 X).2.1,V.2.1,V.2.2,())))
def whole_giveBack (ulo:Int) (un:Int) (v:List Int) (ua:List Int):Option ((List Int)×Unit):=
 bnd (iter (fun s↦whole_giveBack.ce_ ulo un s.1 v (↑(List.length v):Int) s.2.1 s.2.2 some) ((0:Int),(0:Int),ua)) fun y=>
 bnd (okIf (decide ((0:Ty.den (Ty.int IntKind.i64))≤(↑(List.length v):Int))&&decide ((↑(List.length v):Int)<un))) fun y1=>
 bnd (idx y.2.2 (ulo+(↑(List.length v):Int))) fun y2=>
 bnd (okIf (decide ((0:Ty.den (Ty.int IntKind.i64))≤(↑(List.length v):Int))&&decide ((↑(List.length v):Int)<un))) fun y3=>
 bnd (idx y.2.2 (ulo+(↑(List.length v):Int))) fun y4=>
 some (List.set y.2.2 (Int.toNat (ulo+(↑(List.length v):Int))) (IntKind.wrap IntKind.u32 (y2+y.1)),())
def whole_giveBack.mc:MCallee:=⟨120,whole_giveBack.pre,whole_giveBack.post,fun X=>whole_giveBack X.1 X.2.1 X.2.2.1 X.2.2.2.1⟩
def whole_giveBack.G:Env:=⟨36,tab,[(111,ki.ce)],[0,1,4,5,6,7,8,9,10],[2000000],[],[(100002,whole_giveBack.ce_r)],[],jy⟩
theorem whole_giveBack.p0:PcA whole_giveBack.G Tryz.f120 0:=
 jW (s:=whole_giveBack.ce_r) (by kernel_rfl) (by kernel_rfl) (jT (sh:=whole_giveBack.ce_s) (I:=fun X Q=>(X.1,X.2.1,X.2.2.1,Q.1,(q4 X).1,(q4 X).2.1,Q.2.1,Q.2.2,())) (fun X=>rfl) (fun ρ X Q Z=>(jl (jb fun _=>(jb fun _=>(jb fun _=>(jb fun _=>(jb fun _=>(jb fun _=>jc)))))) jc)) (fun ρ X t k=>(by kernel_rfl)) (fun X s=>by kernel_rfl))
theorem whole_giveBack.ok:MOk Tryz.prog 120 whole_giveBack.mc:=YW (mc:=whole_giveBack.mc) (G:=whole_giveBack.G) jG mixed Tryz.func120 ⟨(jj ki.ok jz),jx,jn⟩ (m:=1) (by kernel_rfl) ⟨trivial,whole_giveBack.p0⟩ (by kernel_rfl) (fun _=>by kernel_rfl)
abbrev ff35:SD:=.one (.own 54 0)
def whole_right.c3 (a:List Int)(n:Int)(Z:Bool→Option ρ):Option ρ:=
 bnd (idx a (IntKind.i64.wrap (Int.tdiv n (32:Int)))) fun y=>
 bnd (okIf (decide ((0:Int)≤IntKind.i64.wrap ((32:Int)-Int.tmod n (32:Int))))) fun y1=>
 br (IntKind.wrap IntKind.u32 (y*(2:Int)^Min.min (Int.toNat (IntKind.i64.wrap ((32:Int)-Int.tmod n (32:Int)))) (32:Nat)) !=(0:Int))
 (Z (decide (Int.tmod n (32:Int)>(0:Int))))
 (Z false)
def whole_right.c3s:Shape:=⟨[(0,ff25),(1,ff5),(4,ff25),(5,ff7)],[]⟩
def whole_right.c3x0:Shape:=⟨[(0,ff25),(1,ff5),(4,ff25),(5,ff7),(6,ff7)],[]⟩
def whole_right.c3r:Ck:=Ck.of (T:=Bool) whole_right.c3s (fun ρ X Z=>whole_right.c3 X.1 X.2.1 Z) (fun ρ X V Z=>Z 0 (Shape.inj whole_right.c3x0 (X.1,X.2.1,X.2.2.1,X.2.2.2.1,V,())))
def whole_right.c7 (lost:Bool)(x:Int)(Z:Bool→Option ρ):Option ρ:=
 br lost
 (Z true)
 (Z (x !=(0:Int)))
def whole_right.c7s:Shape:=⟨[(0,ff25),(1,ff5),(4,ff25),(5,ff7),(6,ff7),(8,ff10),(37,ff25),(38,ff5),(39,ff5)],[]⟩
def whole_right.c7r:Ck:=Ck.of (T:=Bool) whole_right.c7s (fun ρ X Z=>whole_right.c7 (q4 X).1 (q4 X).2.1 Z) (fun ρ X V Z=>Z 0 (Shape.inj whole_right.c7s (X.1,X.2.1,X.2.2.1,X.2.2.2.1,V,(q4 X).2)))
def whole_right.cf_ (lost:Bool)(t37:List Int)(t38:Int)(t39:Int)(Z:(Bool×Int)⊕(Bool×Int)→Option ρ):Option ρ:=
 br (decide (t39<t38))
 (bnd (idx t37 t39) fun y=>
 bnd (whole_right.c7 lost y some) fun y1=>
 Z (.inl (y1,(IntKind.i64.wrap (t39+(1:Int))))))
 (Z (.inr (lost,t39)))
def whole_right.cf_s:Shape:=⟨[(0,ff25),(1,ff5),(4,ff25),(5,ff7),(6,ff7),(37,ff25),(38,ff5),(39,ff5)],[]⟩
def whole_right.cf_r:Ck:=Ck.ofLoop (S:=Bool×Int) (T:=Bool×Int) whole_right.cf_s (fun X=>((q4 X).1,(q4 X).2.2.2.1)) (fun ρ X Q Z=>whole_right.cf_ Q.1 (q4 X).2.1 (q4 X).2.2.1 Q.2 Z) (fun ρ X V Z=>Z 2 (Shape.inj whole_right.cf_s (X.1,X.2.1,X.2.2.1,X.2.2.2.1,V.1,(q4 X).2.1,(q4 X).2.2.1,V.2,())))
def whole_right.c14 (a:List Int)(n:Int)(i:Int)(Z:Bool→Option ρ):Option ρ:=
 br (decide (IntKind.i64.wrap (IntKind.i64.wrap (i+IntKind.i64.wrap (Int.tdiv n (32:Int)))+(1:Int))<(↑(List.length a):Int)))
 (Z (decide (Int.tmod n (32:Int)>(0:Int))))
 (Z false)
def whole_right.c14s:Shape:=⟨[(0,ff25),(1,ff5),(4,ff25),(5,ff7),(6,ff7),(9,ff35),(10,ff5),(37,ff25),(38,ff5),(39,ff5),(56,ff5),(57,ff5)],[(54,ff28)]⟩
def whole_right.c14x0:Shape:=⟨[(0,ff25),(1,ff5),(4,ff25),(5,ff7),(6,ff7),(9,ff35),(10,ff5),(37,ff25),(38,ff5),(39,ff5),(56,ff5),(57,ff5),(85,ff7)],[(54,ff28)]⟩
def whole_right.c14r:Ck:=Ck.of (T:=Bool) whole_right.c14s (fun ρ X Z=>whole_right.c14 X.1 X.2.1 (q4 X).2.1 Z) (fun ρ X V Z=>Z 0 (Shape.inj whole_right.c14x0 (X.1,X.2.1,X.2.2.1,X.2.2.2.1,(q4 X).1,(q4 X).2.1,(q4 X).2.2.1,(q4 X).2.2.2.1,(q8 X).1,(q8 X).2.1,(q8 X).2.2.1,V,(q8 X).2.2.2)))
def whole_right.c15 (a:List Int)(n:Int)(i:Int)(t54:List Int)(Z:List Int→Option ρ):Option ρ:=
 bnd (inR (List.length t54) i) fun y=>
 bnd (idx t54 i) fun y1=>
 bnd (idx a (IntKind.i64.wrap (IntKind.i64.wrap (i+IntKind.i64.wrap (Int.tdiv n (32:Int)))+(1:Int)))) fun y2=>
 bnd (okIf (decide ((0:Int)≤IntKind.i64.wrap ((32:Int)-Int.tmod n (32:Int))))) fun y3=>
 bnd (inR (List.length t54) i) fun y4=>
 bnd (idx t54 i) fun y5=>
 Z (List.set t54 (Int.toNat i) (ibits BinOp.or IntKind.u32 y1 (IntKind.wrap IntKind.u32 (y2*(2:Int)^Min.min (Int.toNat (IntKind.i64.wrap ((32:Int)-Int.tmod n (32:Int)))) (32:Nat)))))
def whole_right.c15r:Ck:=Ck.of (T:=List Int) whole_right.c14s (fun ρ X Z=>whole_right.c15 X.1 X.2.1 (q4 X).2.1 (q8 X).2.2.2.1 Z) (fun ρ X V Z=>Z 0 (Shape.inj whole_right.c14s (X.1,X.2.1,X.2.2.1,X.2.2.2.1,(q4 X).1,(q4 X).2.1,(q4 X).2.2.1,(q4 X).2.2.2.1,(q8 X).1,(q8 X).2.1,(q8 X).2.2.1,V,())))
def whole_right.cG_ (a:List Int)(n:Int)(t57:Int)(t54:List Int)(Z:List Int→Option ρ):Option ρ:=
 bnd (idx a (IntKind.i64.wrap (t57+IntKind.i64.wrap (Int.tdiv n (32:Int))))) fun y=>
 bnd (okIf (decide ((0:Int)≤Int.tmod n (32:Int)))) fun y1=>
 bnd (inR (List.length t54) t57) fun y2=>
 bnd (idx t54 t57) fun y3=>
 bnd (whole_right.c14 a n t57 some) fun y4=>
 br y4
 (bnd (whole_right.c15 a n t57 (List.set t54 (Int.toNat t57) (Int.fdiv y ((2:Int)^Min.min (Int.toNat (Int.tmod n (32:Int))) (32:Nat)))) some) fun y5=>
 Z y5)
 (Z (List.set t54 (Int.toNat t57) (Int.fdiv y ((2:Int)^Min.min (Int.toNat (Int.tmod n (32:Int))) (32:Nat)))))
def whole_right.cG_s:Shape:=⟨[(0,ff25),(1,ff5),(4,ff25),(5,ff7),(6,ff7),(9,ff35),(37,ff25),(38,ff5),(39,ff5),(56,ff5),(57,ff5)],[(54,ff28)]⟩
def whole_right.cG_r:Ck:=Ck.of (T:=List Int) whole_right.cG_s (fun ρ X Z=>whole_right.cG_ X.1 X.2.1 (q8 X).2.1 (q8 X).2.2.1 Z) (fun ρ X V Z=>Z 0 (Shape.inj whole_right.cG_s (X.1,X.2.1,X.2.2.1,X.2.2.2.1,(q4 X).1,(q4 X).2.1,(q4 X).2.2.1,(q4 X).2.2.2.1,(q8 X).1,(q8 X).2.1,V,())))
def whole_right.ct_ (a:List Int)(n:Int)(t56:Int)(t57:Int)(t54:List Int)(Z:(Int×(List Int))⊕(Int×(List Int))→Option ρ):Option ρ:=
 br (decide (t57<t56))
 (bnd (whole_right.cG_ a n t57 t54 some) fun y=>
 Z (.inl ((IntKind.i64.wrap (t57+(1:Int))),y)))
 (Z (.inr (t57,t54)))
def whole_right.ct_r:Ck:=Ck.ofLoop (S:=Int×(List Int)) (T:=Int×(List Int)) whole_right.cG_s (fun X=>((q8 X).2.1,(q8 X).2.2.1)) (fun ρ X Q Z=>whole_right.ct_ X.1 X.2.1 (q8 X).1 Q.1 Q.2 Z) (fun ρ X V Z=>Z 4 (Shape.inj whole_right.cG_s (X.1,X.2.1,X.2.2.1,X.2.2.2.1,(q4 X).1,(q4 X).2.1,(q4 X).2.2.1,(q4 X).2.2.2.1,(q8 X).1,V.1,V.2,())))
def whole_right (a:List Int) (n:Int):Option ((List Int)×Bool):=
 br (decide (IntKind.i64.wrap (Int.tdiv n (32:Int))≥(↑(List.length a):Int)))
 (some ([],decide ((↑(List.length a):Int)>(0:Int))))
 (bnd (whole_right.c3 a n some) fun y=>
 bnd (okIf (decide ((0:Int)≤IntKind.i64.wrap (Int.tdiv n (32:Int)))&&decide (IntKind.i64.wrap (Int.tdiv n (32:Int))≤(↑(List.length a):Int)))) fun y1=>
 bnd (iter (fun s↦whole_right.cf_ s.1 (List.take (Int.toNat (IntKind.i64.wrap (Int.tdiv n (32:Int)))) a) (↑(List.length (List.take (Int.toNat (IntKind.i64.wrap (Int.tdiv n (32:Int)))) a)):Int) s.2 some) (y,(0:Int))) fun y2=>
 bnd (okIf (decide ((0:Int)≤IntKind.i64.wrap ((↑(List.length a):Int)-IntKind.i64.wrap (Int.tdiv n (32:Int))))&&decide (IntKind.i64.wrap ((↑(List.length a):Int)-IntKind.i64.wrap (Int.tdiv n (32:Int)))≤IntKind.i64.wrap ((↑(List.length a):Int)-IntKind.i64.wrap (Int.tdiv n (32:Int))))&&decide (IntKind.i64.wrap ((↑(List.length a):Int)-IntKind.i64.wrap (Int.tdiv n (32:Int)))*(↑(4:Nat):Int)≤(140737488355328:Int))&&decide (IntKind.i64.wrap ((↑(List.length a):Int)-IntKind.i64.wrap (Int.tdiv n (32:Int)))≤(140737488355328:Int)))) fun y3=>
 bnd (iter (fun s↦whole_right.ct_ a n (↑(List.length (List.replicate (Int.toNat (IntKind.i64.wrap ((↑(List.length a):Int)-IntKind.i64.wrap (Int.tdiv n (32:Int))))) (0:Int))):Int) s.1 s.2 some) ((0:Int),List.replicate (Int.toNat (IntKind.i64.wrap ((↑(List.length a):Int)-IntKind.i64.wrap (Int.tdiv n (32:Int))))) (0:Int))) fun y4=>
 some (y4.2,y2.1))
def whole_right.ce:Go.Ql.Callee:=⟨[(.sl (.int .u32)),(.int .i64)],[(.sl (.int .u32)),.bool],fun X=>whole_right X.1 X.2⟩
def whole_right.G:Env:=⟨107,tab,[],[0,1,4,5,6,8,9,10,15,37,38,39,40,56,57,58,85],[54],[(15,[⟨[],[],[87,90,91,92,93,94,95,96,97,98,99,100,101],[]⟩,⟨[],[],[86,90,91,92,93,94,95,96,97,98,99,100,101],[]⟩,⟨[0,1],[],[90,91,92,93,94,95,96,97,98,99,100,101],[]⟩,⟨[2,0,1],[],[90,91,92,93,94,95,96,97,98,99,100,101],[]⟩,⟨[],[],[86,87,88,89,91,92,93,94,95,98,99,100],[]⟩,⟨[],[],[86,87,88,89,90,92,93,98,99,100],[]⟩,⟨[],[],[86,87,88,89,90,91,98,99,100],[]⟩,⟨[6],[],[86,87,88,89,90,91,98,99,100],[]⟩,⟨[5,7,6],[],[86,87,88,89,90,98,99,100],[]⟩,⟨[8,5,7,6],[],[86,87,88,89,90,98,99,100],[]⟩,⟨[4,9,8,5,7,6],[],[86,87,88,89,98,99,100],[]⟩,⟨[10,4,9,8,5,7,6],[],[86,87,88,89,98,99,100],[]⟩,⟨[],[],[86,87,88,89,90,91,92,93,94,95,96,97],[]⟩,⟨[12],[],[86,87,88,89,90,91,92,93,94,95,96,97],[]⟩,⟨[13,12],[],[86,87,88,89,90,91,92,93,94,95,96,97],[]⟩,⟨[11,10,4,9,8,5,7,6,14,13,12],[],[86,87,88,89],[]⟩,⟨[3,2,0,1,15,11,10,4,9,8,5,7,6,14,13,12],[],[],[]⟩,⟨[0,1,2,3,4,5,6,7,8,9,10,11,12,13,14,15,16],[],[],[]⟩,⟨[17,0,1,2,3,4,5,6,7,8,9,10,11,12,13,14,15,16],[54],[],[]⟩])],[(100011,whole_right.ct_r),(249162,whole_right.cG_r),(15,whole_right.c15r),(14,whole_right.c14r),(100005,whole_right.cf_r),(7,whole_right.c7r),(3,whole_right.c3r)],[],jy⟩
theorem whole_right.p0:PcA whole_right.G Tryz.f121 0:=
 js (s:=whole_right.c3r) (by kernel_rfl) (by kernel_rfl) (jq (sh:=whole_right.c3s) (fun ρ X Z=>(jb fun _=>(jb fun _=>(jl jc jc)))) (fun ρ X t k=>(by kernel_rfl)) (fun X=>by kernel_rfl))
theorem whole_right.p1:PcA whole_right.G Tryz.f121 1:=
 jW (s:=whole_right.cf_r) (by kernel_rfl) (by kernel_rfl) (jT (sh:=whole_right.cf_s) (I:=fun X Q=>(X.1,X.2.1,X.2.2.1,X.2.2.2.1,Q.1,(q4 X).2.1,(q4 X).2.2.1,Q.2,())) (fun X=>rfl) (fun ρ X Q Z=>(jl (jb fun _=>(jb fun _=>jc)) jc)) (fun ρ X t k=>(by kernel_rfl)) (fun X s=>by kernel_rfl))
theorem whole_right.p2:PcA whole_right.G Tryz.f121 2:=
 js (s:=whole_right.c7r) (by kernel_rfl) (by kernel_rfl) (jq (sh:=whole_right.c7s) (fun ρ X Z=>(jl jc jc)) (fun ρ X t k=>(by kernel_rfl)) (fun X=>by kernel_rfl))
theorem whole_right.p3:PcA whole_right.G Tryz.f121 3:=
 jW (s:=whole_right.ct_r) (by kernel_rfl) (by kernel_rfl) (jT (sh:=whole_right.cG_s) (I:=fun X Q=>(X.1,X.2.1,X.2.2.1,X.2.2.2.1,(q4 X).1,(q4 X).2.1,(q4 X).2.2.1,(q4 X).2.2.2.1,(q8 X).1,Q.1,Q.2,())) (fun X=>rfl) (fun ρ X Q Z=>(jl (jb fun _=>jc) jc)) (fun ρ X t k=>(by kernel_rfl)) (fun X s=>by kernel_rfl))
theorem whole_right.p4:PcA whole_right.G Tryz.f121 4:=
 JE (s:=whole_right.cG_r) (by kernel_rfl) (by kernel_rfl) (jq (sh:=whole_right.cG_s) (fun ρ X Z=>(jb fun _=>(jb fun _=>(jb fun _=>(jb fun _=>(jb fun _=>(jl (jb fun _=>jc) jc))))))) (fun ρ X t k=>(by kernel_rfl)) (fun X=>by kernel_rfl))
theorem whole_right.p5:PcA whole_right.G Tryz.f121 5:=
 js (s:=whole_right.c14r) (by kernel_rfl) (by kernel_rfl) (jq (sh:=whole_right.c14s) (fun ρ X Z=>(jl jc jc)) (fun ρ X t k=>(by kernel_rfl)) (fun X=>by kernel_rfl))
theorem whole_right.p6:PcA whole_right.G Tryz.f121 6:=
 js (s:=whole_right.c15r) (by kernel_rfl) (by kernel_rfl) (jq (sh:=whole_right.c14s) (fun ρ X Z=>(jb fun _=>(jb fun _=>(jb fun _=>(jb fun _=>(jb fun _=>(jb fun _=>jc))))))) (fun ρ X t k=>(by kernel_rfl)) (fun X=>by kernel_rfl))
theorem whole_right.ok:CalleeOk Tryz.prog 121 whole_right.ce:=fn_ok (G:=whole_right.G) jG mixed Tryz.func121 ⟨jz,jx,jn⟩ (m:=7) (by kernel_rfl) ⟨⟨⟨⟨⟨⟨⟨trivial,whole_right.p0⟩,whole_right.p1⟩,whole_right.p2⟩,whole_right.p3⟩,whole_right.p4⟩,whole_right.p5⟩,whole_right.p6⟩ (by kernel_rfl) (fun _=>by kernel_rfl)
abbrev ff36:SD:=.one (.own 27 0)
abbrev ff37:SD:=.one (.own 52 0)
def whole_quotient.c2 (a:List Int)(b:List Int)(s:Int)(Z:(List Int)×(List Int)→Option ρ):Option ρ:=
 bnd (whole_left a s) fun y=>
 bnd (whole_left b s) fun y1=>
 bnd (okIf (decide ((0:Int)≤(↑(List.length b):Int))&&decide ((↑(List.length b):Int)≤(↑(List.length y1.1):Int)))) fun y2=>
 Z ((List.take (Int.toNat (↑(List.length b):Int)) y1.1),y.1)
def whole_quotient.c2s:Shape:=⟨[(0,ff25),(1,ff25),(4,ff25),(5,ff25),(6,ff5)],[]⟩
def whole_quotient.c2x0:Shape:=⟨[(0,ff25),(1,ff25),(4,ff25),(5,ff25),(6,ff5),(7,ff36),(8,ff25)],[(27,ff28)]⟩
def whole_quotient.c2r:Ck:=Ck.of (T:=(List Int)×(List Int)) whole_quotient.c2s (fun ρ X Z=>whole_quotient.c2 X.1 X.2.1 (q4 X).1 Z) (fun ρ X V Z=>Z 0 (Shape.inj whole_quotient.c2x0 (X.1,X.2.1,X.2.2.1,X.2.2.2.1,(q4 X).1,V.1,V.2,())))
def whole_quotient.c3 (v:List Int)(Z:Int→Option ρ):Option ρ:=
 bnd (idx v (IntKind.i64.wrap ((↑(List.length v):Int)-(1:Int)))) fun y=>
 Z (IntKind.wrap IntKind.u64 y)
def whole_quotient.c3x0:Shape:=⟨[(0,ff25),(1,ff25),(4,ff25),(5,ff25),(6,ff5),(7,ff36),(8,ff25),(9,ff5),(10,ff13)],[(27,ff28)]⟩
def whole_quotient.c3r:Ck:=Ck.of (T:=Int) whole_quotient.c2x0 (fun ρ X Z=>whole_quotient.c3 (q4 X).2.1 Z) (fun ρ X V Z=>Z 0 (Shape.inj whole_quotient.c3x0 (X.1,X.2.1,X.2.2.1,X.2.2.2.1,(q4 X).1,(q4 X).2.1,(↑(List.length (q4 X).2.1):Int),V,(q4 X).2.2)))
def whole_quotient.c10 (n:Int)(j:Int)(t27:List Int)(Z:Int→Option ρ):Option ρ:=
 bnd (inR (List.length t27) (IntKind.i64.wrap (j+n))) fun y=>
 bnd (idx t27 (IntKind.i64.wrap (j+n))) fun y1=>
 bnd (inR (List.length t27) (IntKind.i64.wrap (IntKind.i64.wrap (j+n)-(1:Int)))) fun y2=>
 bnd (idx t27 (IntKind.i64.wrap (IntKind.i64.wrap (j+n)-(1:Int)))) fun y3=>
 Z (ibits BinOp.or IntKind.u64 (IntKind.u64.wrap (IntKind.wrap IntKind.u64 y1*(2:Int)^(32:Nat))) (IntKind.wrap IntKind.u64 y3))
def whole_quotient.c10s:Shape:=⟨[(0,ff25),(1,ff25),(4,ff25),(5,ff25),(6,ff5),(7,ff36),(8,ff25),(9,ff5),(10,ff13),(11,ff37),(12,ff5)],[(27,ff28),(52,ff28)]⟩
def whole_quotient.c10x0:Shape:=⟨[(0,ff25),(1,ff25),(4,ff25),(5,ff25),(6,ff5),(7,ff36),(8,ff25),(9,ff5),(10,ff13),(11,ff37),(12,ff5),(13,ff13)],[(27,ff28),(52,ff28)]⟩
def whole_quotient.c10r:Ck:=Ck.of (T:=Int) whole_quotient.c10s (fun ρ X Z=>whole_quotient.c10 (q4 X).2.2.1 (q8 X).1 (q8 X).2.1 Z) (fun ρ X V Z=>Z 0 (Shape.inj whole_quotient.c10x0 (X.1,X.2.1,X.2.2.1,X.2.2.2.1,(q4 X).1,(q4 X).2.1,(q4 X).2.2.1,(q4 X).2.2.2.1,(q8 X).1,V,(q8 X).2)))
def whole_quotient.c11 (top:Int)(Z:Unit→Option ρ):Option ρ:=
 bnd (okIf (top !=(0:Int))) fun y=>
 bnd (okIf (top !=(0:Int))) fun y1=>
 Z ()
def whole_quotient.c11x0:Shape:=⟨[(0,ff25),(1,ff25),(4,ff25),(5,ff25),(6,ff5),(7,ff36),(8,ff25),(9,ff5),(10,ff13),(11,ff37),(12,ff5),(13,ff13),(14,ff13),(15,ff13)],[(27,ff28),(52,ff28)]⟩
def whole_quotient.c11r:Ck:=Ck.of (T:=Unit) whole_quotient.c10x0 (fun ρ X Z=>whole_quotient.c11 (q4 X).2.2.2.1 Z) (fun ρ X V Z=>Z 0 (Shape.inj whole_quotient.c11x0 (X.1,X.2.1,X.2.2.1,X.2.2.2.1,(q4 X).1,(q4 X).2.1,(q4 X).2.2.1,(q4 X).2.2.2.1,(q8 X).1,(q8 X).2.1,(IntKind.u64.wrap (Int.tdiv (q8 X).2.1 (q4 X).2.2.2.1)),(Int.tmod (q8 X).2.1 (q4 X).2.2.2.1),(q8 X).2.2)))
def whole_quotient.c12 (v:List Int)(n:Int)(j:Int)(guess:Int)(rest:Int)(t27:List Int)(Z:Bool→Option ρ):Option ρ:=
 br (decide (guess≥(4294967296:Int)))
 (Z true)
 (bnd (idx v (IntKind.i64.wrap (n-(2:Int)))) fun y=>
 bnd (inR (List.length t27) (IntKind.i64.wrap (IntKind.i64.wrap (j+n)-(2:Int)))) fun y1=>
 bnd (idx t27 (IntKind.i64.wrap (IntKind.i64.wrap (j+n)-(2:Int)))) fun y2=>
 Z (decide (IntKind.u64.wrap (guess*IntKind.wrap IntKind.u64 y)>ibits BinOp.or IntKind.u64 (IntKind.u64.wrap (rest*(2:Int)^(32:Nat))) (IntKind.wrap IntKind.u64 y2))))
def whole_quotient.c12x0:Shape:=⟨[(0,ff25),(1,ff25),(4,ff25),(5,ff25),(6,ff5),(7,ff36),(8,ff25),(9,ff5),(10,ff13),(11,ff37),(12,ff5),(13,ff13),(14,ff13),(15,ff13),(108,ff7)],[(27,ff28),(52,ff28)]⟩
def whole_quotient.c12r:Ck:=Ck.of (T:=Bool) whole_quotient.c11x0 (fun ρ X Z=>whole_quotient.c12 (q4 X).2.1 (q4 X).2.2.1 (q8 X).1 (q8 X).2.2.1 (q8 X).2.2.2.1 (q4 (q8 X)).1 Z) (fun ρ X V Z=>Z 0 (Shape.inj whole_quotient.c12x0 (X.1,X.2.1,X.2.2.1,X.2.2.2.1,(q4 X).1,(q4 X).2.1,(q4 X).2.2.1,(q4 X).2.2.2.1,(q8 X).1,(q8 X).2.1,(q8 X).2.2.1,(q8 X).2.2.2.1,V,(q4 (q8 X)))))
def whole_quotient.cr_ (v:List Int)(n:Int)(top:Int)(j:Int)(guess:Int)(rest:Int)(t27:List Int)(Z:(Int×Int)⊕(Int×Int)→Option ρ):Option ρ:=
 bnd (whole_quotient.c12 v n j guess rest t27 some) fun y=>
 br y
 (br (decide (IntKind.u64.wrap (rest+top)≥(4294967296:Int)))
 (Z (.inr ((IntKind.u64.wrap (guess-(1:Int))),(IntKind.u64.wrap (rest+top)))))
 (Z (.inl ((IntKind.u64.wrap (guess-(1:Int))),(IntKind.u64.wrap (rest+top))))))
 (Z (.inr (guess,rest)))
def whole_quotient.cr_r:Ck:=Ck.ofLoop (S:=Int×Int) (T:=Int×Int) whole_quotient.c11x0 (fun X=>((q8 X).2.2.1,(q8 X).2.2.2.1)) (fun ρ X Q Z=>whole_quotient.cr_ (q4 X).2.1 (q4 X).2.2.1 (q4 X).2.2.2.1 (q8 X).1 Q.1 Q.2 (q4 (q8 X)).1 Z) (fun ρ X V Z=>Z 4 (Shape.inj whole_quotient.c11x0 (X.1,X.2.1,X.2.2.1,X.2.2.2.1,(q4 X).1,(q4 X).2.1,(q4 X).2.2.1,(q4 X).2.2.2.1,(q8 X).1,(q8 X).2.1,V.1,V.2,(q4 (q8 X)))))
def whole_quotient.cK_ (v:List Int)(n:Int)(j:Int)(guess:Int)(t27:List Int)(Z:Int×(List Int)→Option ρ):Option ρ:=
 bnd (okIf (decide ((0:Int)≤j)&&decide (j≤IntKind.i64.wrap (IntKind.i64.wrap (j+n)+(1:Int)))&&decide (IntKind.i64.wrap (IntKind.i64.wrap (j+n)+(1:Int))≤(↑(List.length t27):Int)))) fun y=>
 bnd (whole_takeAway j (IntKind.i64.wrap (IntKind.i64.wrap (j+n)+(1:Int))-j) v (IntKind.wrap IntKind.u32 guess) t27) fun y1=>
 br y1.1
 (bnd (okIf (decide ((0:Int)≤j)&&decide (j≤IntKind.i64.wrap (IntKind.i64.wrap (j+n)+(1:Int)))&&decide (IntKind.i64.wrap (IntKind.i64.wrap (j+n)+(1:Int))≤(↑(List.length y1.2.1):Int)))) fun y2=>
 bnd (whole_giveBack j (IntKind.i64.wrap (IntKind.i64.wrap (j+n)+(1:Int))-j) v y1.2.1) fun y3=>
 Z ((IntKind.u64.wrap (guess-(1:Int))),y3.1))
 (Z (guess,y1.2.1))
def whole_quotient.cK_r:Ck:=Ck.of (T:=Int×(List Int)) whole_quotient.c11x0 (fun ρ X Z=>whole_quotient.cK_ (q4 X).2.1 (q4 X).2.2.1 (q8 X).1 (q8 X).2.2.1 (q4 (q8 X)).1 Z) (fun ρ X V Z=>Z 0 (Shape.inj whole_quotient.c11x0 (X.1,X.2.1,X.2.2.1,X.2.2.2.1,(q4 X).1,(q4 X).2.1,(q4 X).2.2.1,(q4 X).2.2.2.1,(q8 X).1,(q8 X).2.1,V.1,(q8 X).2.2.2.1,V.2,(q4 (q8 X)).2)))
def whole_quotient.ch_ (v:List Int)(n:Int)(top:Int)(j:Int)(t27:List Int)(t52:List Int)(Z:(Int×(List Int)×(List Int))⊕(Int×(List Int)×(List Int))→Option ρ):Option ρ:=
 br (decide (j≥(0:Int)))
 (bnd (whole_quotient.c10 n j t27 some) fun y=>
 bnd (whole_quotient.c11 top some) fun y1=>
 bnd (iter (fun s↦whole_quotient.cr_ v n top j s.1 s.2 t27 some) (IntKind.u64.wrap (Int.tdiv y top),Int.tmod y top)) fun y2=>
 bnd (whole_quotient.cK_ v n j y2.1 t27 some) fun y3=>
 bnd (inR (List.length t52) j) fun y4=>
 bnd (idx t52 j) fun y5=>
 Z (.inl ((IntKind.i64.wrap (j-(1:Int))),y3.2,(List.set t52 (Int.toNat j) (IntKind.wrap IntKind.u32 y3.1)))))
 (Z (.inr (j,t27,t52)))
def whole_quotient.ch_r:Ck:=Ck.ofLoop (S:=Int×(List Int)×(List Int)) (T:=Int×(List Int)×(List Int)) whole_quotient.c10s (fun X=>((q8 X).1,(q8 X).2.1,(q8 X).2.2.1)) (fun ρ X Q Z=>whole_quotient.ch_ (q4 X).2.1 (q4 X).2.2.1 (q4 X).2.2.2.1 Q.1 Q.2.1 Q.2.2 Z) (fun ρ X V Z=>Z 2 (Shape.inj whole_quotient.c10s (X.1,X.2.1,X.2.2.1,X.2.2.2.1,(q4 X).1,(q4 X).2.1,(q4 X).2.2.1,(q4 X).2.2.2.1,V.1,V.2.1,V.2.2,())))
def whole_quotient (a:List Int) (b:List Int):Option ((List Int)×(List Int)):=
 bnd (idx b (IntKind.i64.wrap ((↑(List.length b):Int)-(1:Int)))) fun y=>
 bnd (JC y) fun y1=>
 bnd (whole_quotient.c2 a b y1 some) fun y2=>
 bnd (whole_quotient.c3 y2.1 some) fun y3=>
 br (decide ((↑(List.length y2.2):Int)≤(↑(List.length y2.1):Int)))
 (some ([],a))
 (bnd (okIf (decide ((0:Int)≤IntKind.i64.wrap ((↑(List.length y2.2):Int)-(↑(List.length y2.1):Int)))&&decide (IntKind.i64.wrap ((↑(List.length y2.2):Int)-(↑(List.length y2.1):Int))≤IntKind.i64.wrap ((↑(List.length y2.2):Int)-(↑(List.length y2.1):Int)))&&decide (IntKind.i64.wrap ((↑(List.length y2.2):Int)-(↑(List.length y2.1):Int))*(↑(4:Nat):Int)≤(140737488355328:Int))&&decide (IntKind.i64.wrap ((↑(List.length y2.2):Int)-(↑(List.length y2.1):Int))≤(140737488355328:Int)))) fun y4=>
 bnd (iter (fun s↦whole_quotient.ch_ y2.1 (↑(List.length y2.1):Int) y3 s.1 s.2.1 s.2.2 some) (IntKind.i64.wrap (IntKind.i64.wrap ((↑(List.length y2.2):Int)-(↑(List.length y2.1):Int))-(1:Int)),y2.2,List.replicate (Int.toNat (IntKind.i64.wrap ((↑(List.length y2.2):Int)-(↑(List.length y2.1):Int)))) (0:Int))) fun y5=>
 bnd (whole_right y5.2.1 y1) fun y6=>
 some (y5.2.2,y6.1))
def whole_quotient.ce:Go.Ql.Callee:=⟨[(.sl (.int .u32)),(.sl (.int .u32))],[(.sl (.int .u32)),(.sl (.int .u32))],fun X=>whole_quotient X.1 X.2⟩
def whole_quotient.G:Env:=⟨151,tab,[(117,JC.ce),(121,whole_right.ce)],[0,1,4,5,6,7,8,9,10,11,12,13,14,15,16,46,59,108,115,126],[27,52],[(12,[⟨[],[],[],[]⟩,⟨[0],[],[],[]⟩,⟨[1,0],[],[],[]⟩,⟨[2,1,0],[],[89,90,91,92,93,94,96,97,98,99,100,101,102,103,104,105,106],[]⟩,⟨[2,1,0],[],[88,90,91,96,97,98,99,100,101,102,103,104,105,106],[]⟩,⟨[2,1,0],[],[88,89,96,97,98,99,100,101,102,103,104,105,106],[]⟩,⟨[5,2,1,0],[],[88,89,96,97,98,99,100,101,102,103,104,105,106],[]⟩,⟨[4,2,1,0,6,5],[],[88,96,97,98,99,100,101,102,103,104,105,106],[]⟩,⟨[7,4,2,1,0,6,5],[],[88,96,97,98,99,100,101,102,103,104,105,106],[]⟩,⟨[8,7,4,2,1,0,6,5],[],[88,96,97,98,99,100,101,102,103,104,105,106],[]⟩,⟨[3,2,1,0,9,8,7,4,6,5],[],[96,97,98,99,100,101,102,103,104,105,106],[]⟩,⟨[2,1,0],[],[88,89,90,91,92,93,94,95,98,99,100,101,102,103,104,105],[]⟩,⟨[11,2,1,0],[],[88,89,90,91,92,93,94,95,98,99,100,101,102,103,104,105],[]⟩,⟨[2,1,0],[],[88,89,90,91,92,93,94,95,96,97,99,100,101,102],[]⟩,⟨[2,1,0],[],[88,89,90,91,92,93,94,95,96,97,98,100],[]⟩,⟨[2,1,0],[],[88,89,90,91,92,93,94,95,96,97,98,99],[]⟩,⟨[14,2,1,0,15],[],[88,89,90,91,92,93,94,95,96,97,98],[]⟩,⟨[16,14,2,1,0,15],[],[88,89,90,91,92,93,94,95,96,97,98],[]⟩,⟨[13,2,1,0,17,16,14,15],[],[88,89,90,91,92,93,94,95,96,97],[]⟩,⟨[18,13,2,1,0,17,16,14,15],[],[88,89,90,91,92,93,94,95,96,97],[]⟩,⟨[19,18,13,2,1,0,17,16,14,15],[],[88,89,90,91,92,93,94,95,96,97],[]⟩,⟨[12,11,2,1,0,20,19,18,13,17,16,14,15],[],[88,89,90,91,92,93,94,95],[]⟩,⟨[10,3,2,1,0,9,8,7,4,6,5,21,12,11,20,19,18,13,17,16,14,15],[],[],[]⟩,⟨[2,1,0,22,10,3,9,8,7,4,6,5,21,12,11,20,19,18,13,17,16,14,15],[],[],[]⟩]),
 (11,[⟨[],[],[80,82,83,84],[]⟩,⟨[],[],[79,82,83,84],[]⟩,⟨[0,1],[],[82,83,84],[]⟩,⟨[],[],[79,80,81,83,14],[]⟩,⟨[],[],[79,80,81,82,14],[]⟩,⟨[3,4],[],[79,80,81,14],[]⟩,⟨[2,0,1],[],[82,83,84],[]⟩,⟨[5,3,4,6,2,0,1],[],[],[]⟩]),
 (10,[⟨[],[],[63,64,65,70,71,72,73,74,75,76,77],[]⟩,⟨[],[],[62,64,70,71,72,73,74,75,76,77],[]⟩,⟨[],[],[62,63,70,71,72,73,74,75,76,77],[]⟩,⟨[1,2],[],[62,70,71,72,73,74,75,76,77],[]⟩,⟨[0,3,1,2],[],[70,71,72,73,74,75,76,77],[]⟩,⟨[4,0,3,1,2],[],[70,71,72,73,74,75,76,77],[]⟩,⟨[5,4,0,3,1,2],[],[70,71,72,73,74,75,76,77],[]⟩,⟨[6,5,4,0,3,1,2],[],[70,71,72,73,74,75,76,77],[]⟩,⟨[],[],[62,63,64,65,66,67,68,69,71,72,73,74],[]⟩,⟨[],[],[62,63,64,65,66,67,68,69,70,72],[]⟩,⟨[],[],[62,63,64,65,66,67,68,69,70,71],[]⟩,⟨[9,10],[],[62,63,64,65,66,67,68,69,70],[]⟩,⟨[11,9,10],[],[62,63,64,65,66,67,68,69,70],[]⟩,⟨[8,12,11,9,10],[],[62,63,64,65,66,67,68,69],[]⟩,⟨[13,8,12,11,9,10],[],[62,63,64,65,66,67,68,69],[]⟩,⟨[14,13,8,12,11,9,10],[],[62,63,64,65,66,67,68,69],[]⟩,⟨[7,6,5,4,0,3,1,2,15,14,13,8,12,11,9,10],[],[],[]⟩,⟨[16,7,6,5,4,0,3,1,2,15,14,13,8,12,11,9,10],[],[],[]⟩]),
 (3,[⟨[],[],[36,37,38,39,40,41,42],[]⟩,⟨[0],[],[36,37,38,39,40,41,42],[]⟩,⟨[],[],[34,35,37,38,39,9],[]⟩,⟨[],[],[34,35,36,9],[]⟩,⟨[3],[],[34,35,36,9],[]⟩,⟨[4,3],[],[34,35,36,9],[]⟩,⟨[2,5,4,3],[],[34,35,9],[]⟩,⟨[6,2,5,4,3],[],[34,35,9],[]⟩,⟨[7,6,2,5,4,3],[],[34,35,9],[]⟩,⟨[1,0],[],[36,37,38,39,40,41,42],[]⟩,⟨[8,7,6,2,5,4,3,9,1,0],[],[],[]⟩]),
 (2,[⟨[],[],[26,28,29,31,32],[]⟩,⟨[],[],[25,28,29,31,32],[]⟩,⟨[0,1],[27],[28,29,31,32],[]⟩,⟨[],[],[25,26,27,29,31,32],[27]⟩,⟨[],[],[25,26,27,28,31,32],[27]⟩,⟨[3,4,2,0,1],[30],[31,32],[]⟩,⟨[],[],[25,26,27,28,29,30,7],[27,30]⟩,⟨[6],[],[25,26,27,28,29,30,7],[27,30]⟩,⟨[5,3,4,2,0,1,7,6],[30],[7],[]⟩,⟨[2,0,1,5,3,4],[],[31,32,33],[30]⟩,⟨[8,5,3,4,2,0,1,7,6,9],[],[],[]⟩])],[(100008,whole_quotient.ch_r),(265543,whole_quotient.cK_r),(100012,whole_quotient.cr_r),(12,whole_quotient.c12r),(11,whole_quotient.c11r),(10,whole_quotient.c10r),(3,whole_quotient.c3r),(2,whole_quotient.c2r)],[(118,whole_left.mc),(119,whole_takeAway.mc),(120,whole_giveBack.mc)],jy⟩
theorem whole_quotient.p0:PcA whole_quotient.G Tryz.f108 0:=
 js (s:=whole_quotient.c2r) (by kernel_rfl) (by kernel_rfl) (jq (sh:=whole_quotient.c2s) (fun ρ X Z=>(jb fun _=>(jb fun _=>(jb fun _=>jc)))) (fun ρ X t k=>(by kernel_rfl)) (fun X=>by kernel_rfl))
theorem whole_quotient.p1:PcA whole_quotient.G Tryz.f108 1:=
 js (s:=whole_quotient.c3r) (by kernel_rfl) (by kernel_rfl) (jq (sh:=whole_quotient.c2x0) (fun ρ X Z=>(jb fun _=>jc)) (fun ρ X t k=>(by kernel_rfl)) (fun X=>by kernel_rfl))
theorem whole_quotient.p2:PcA whole_quotient.G Tryz.f108 2:=
 jW (s:=whole_quotient.ch_r) (by kernel_rfl) (by kernel_rfl) (jT (sh:=whole_quotient.c10s) (I:=fun X Q=>(X.1,X.2.1,X.2.2.1,X.2.2.2.1,(q4 X).1,(q4 X).2.1,(q4 X).2.2.1,(q4 X).2.2.2.1,Q.1,Q.2.1,Q.2.2,())) (fun X=>rfl) (fun ρ X Q Z=>(jl (jb fun _=>(jb fun _=>(jb fun _=>(jb fun _=>(jb fun _=>(jb fun _=>jc)))))) jc)) (fun ρ X t k=>(by kernel_rfl)) (fun X s=>by kernel_rfl))
theorem whole_quotient.p3:PcA whole_quotient.G Tryz.f108 3:=
 js (s:=whole_quotient.c10r) (by kernel_rfl) (by kernel_rfl) (jq (sh:=whole_quotient.c10s) (fun ρ X Z=>(jb fun _=>(jb fun _=>(jb fun _=>(jb fun _=>jc))))) (fun ρ X t k=>(by kernel_rfl)) (fun X=>by kernel_rfl))
theorem whole_quotient.p4:PcA whole_quotient.G Tryz.f108 4:=
 js (s:=whole_quotient.c11r) (by kernel_rfl) (by kernel_rfl) (jq (sh:=whole_quotient.c10x0) (fun ρ X Z=>(jb fun _=>(jb fun _=>jc))) (fun ρ X t k=>(by kernel_rfl)) (fun X=>by kernel_rfl))
theorem whole_quotient.p5:PcA whole_quotient.G Tryz.f108 5:=
 jW (s:=whole_quotient.cr_r) (by kernel_rfl) (by kernel_rfl) (jT (sh:=whole_quotient.c11x0) (I:=fun X Q=>(X.1,X.2.1,X.2.2.1,X.2.2.2.1,(q4 X).1,(q4 X).2.1,(q4 X).2.2.1,(q4 X).2.2.2.1,(q8 X).1,(q8 X).2.1,Q.1,Q.2,(q4 (q8 X)))) (fun X=>rfl) (fun ρ X Q Z=>(jb fun _=>(jl (jl jc jc) jc))) (fun ρ X t k=>(by kernel_rfl)) (fun X s=>by kernel_rfl))
theorem whole_quotient.p6:PcA whole_quotient.G Tryz.f108 6:=
 js (s:=whole_quotient.c12r) (by kernel_rfl) (by kernel_rfl) (jq (sh:=whole_quotient.c11x0) (fun ρ X Z=>(jl jc (jb fun _=>(jb fun _=>(jb fun _=>jc))))) (fun ρ X t k=>(by kernel_rfl)) (fun X=>by kernel_rfl))
theorem whole_quotient.p7:PcA whole_quotient.G Tryz.f108 7:=
 JE (s:=whole_quotient.cK_r) (by kernel_rfl) (by kernel_rfl) (jq (sh:=whole_quotient.c11x0) (fun ρ X Z=>(jb fun _=>(jb fun _=>(jl (jb fun _=>(jb fun _=>jc)) jc)))) (fun ρ X t k=>(by kernel_rfl)) (fun X=>by kernel_rfl))
theorem whole_quotient.ok:CalleeOk Tryz.prog 108 whole_quotient.ce:=fn_ok (G:=whole_quotient.G) jG mixed Tryz.func108 ⟨(jj JC.ok (jj whole_right.ok jz)),(kF whole_left.ok (kF whole_takeAway.ok (kF whole_giveBack.ok jx))),jn⟩ (m:=8) (by kernel_rfl) ⟨⟨⟨⟨⟨⟨⟨⟨trivial,whole_quotient.p0⟩,whole_quotient.p1⟩,whole_quotient.p2⟩,whole_quotient.p3⟩,whole_quotient.p4⟩,whole_quotient.p5⟩,whole_quotient.p6⟩,whole_quotient.p7⟩ (by kernel_rfl) (fun _=>by kernel_rfl)
def whole_Of.cg_ (n:Int)(u:Int)(Z:Int→Option ρ):Option ρ:=
 br (decide (n<(0:Int)))
 (Z (IntKind.u64.wrap ((0:Int)-u)))
 (Z u)
def whole_Of.cg_s:Shape:=⟨[(0,ff5),(2,ff2),(3,ff13)],[(2,ff29)]⟩
def whole_Of.cg_r:Ck:=Ck.of (T:=Int) whole_Of.cg_s (fun ρ X Z=>whole_Of.cg_ X.1 X.2.1 Z) (fun ρ X V Z=>Z 0 (Shape.inj whole_Of.cg_s (X.1,V,X.2.2)))
def whole_Of (n:Int):Option YD:=
 bnd (whole_Of.cg_ n (IntKind.wrap IntKind.u64 n) some) fun y=>
 bnd (whole_made (decide (n<(0:Int))) [IntKind.wrap IntKind.u32 y,IntKind.wrap IntKind.u32 (Int.fdiv y ((2:Int)^(32:Nat)))]) fun y1=>
 some (y1.1,y1.2)
def whole_Of.ce:Go.Ql.Callee:=⟨[(.int .i64)],[(.st (.pair .bool (.sl (.int .u32))))],fun X=>whole_Of X⟩
def whole_Of.G:Env:=⟨19,tab,[(67,whole_made.ce)],[0,2,3,7],[],[],[(208197,whole_Of.cg_r)],[],jy⟩
theorem whole_Of.p0:PcA whole_Of.G Tryz.f17 0:=
 JE (s:=whole_Of.cg_r) (by kernel_rfl) (by kernel_rfl) (jq (sh:=whole_Of.cg_s) (fun ρ X Z=>(jl jc jc)) (fun ρ X t k=>(by kernel_rfl)) (fun X=>by kernel_rfl))
theorem whole_Of.ok:CalleeOk Tryz.prog 17 whole_Of.ce:=fn_ok (G:=whole_Of.G) jG mixed Tryz.func17 ⟨(jj whole_made.ok jz),jx,jn⟩ (m:=1) (by kernel_rfl) ⟨trivial,whole_Of.p0⟩ (by kernel_rfl) (fun _=>by kernel_rfl)
abbrev ff38:SD:=.one (.own 20 0)
def whole_sum.cy_ (a:List Int)(b:List Int)(Z:(List Int)×(List Int)→Option ρ):Option ρ:=
 br (decide ((↑(List.length a):Int)<(↑(List.length b):Int)))
 (Z (b,a))
 (Z (a,b))
def whole_sum.cy_s:Shape:=⟨[(0,ff25),(1,ff25),(4,ff25)],[]⟩
def whole_sum.cy_r:Ck:=Ck.of (T:=(List Int)×(List Int)) whole_sum.cy_s (fun ρ X Z=>whole_sum.cy_ X.1 X.2.1 Z) (fun ρ X V Z=>Z 0 (Shape.inj whole_sum.cy_s (V.1,V.2,X.2.2)))
def whole_sum.cw_ (b:List Int)(i:Int)(y:Int)(Z:Int→Option ρ):Option ρ:=
 br (decide (i<(↑(List.length b):Int)))
 (bnd (idx b i) fun y1=>
 Z y1)
 (Z y)
def whole_sum.cw_s:Shape:=⟨[(0,ff25),(1,ff25),(4,ff25),(5,ff38),(6,ff10),(7,ff5),(8,ff10),(9,ff10),(21,ff25),(22,ff5),(23,ff5)],[(20,ff28)]⟩
def whole_sum.cw_r:Ck:=Ck.of (T:=Int) whole_sum.cw_s (fun ρ X Z=>whole_sum.cw_ X.2.1 (q4 X).1 (q4 X).2.2.1 Z) (fun ρ X V Z=>Z 0 (Shape.inj whole_sum.cw_s (X.1,X.2.1,X.2.2.1,X.2.2.2.1,(q4 X).1,(q4 X).2.1,V,(q4 X).2.2.2)))
def whole_sum.cc_ (b:List Int)(c:Int)(t21:List Int)(t22:Int)(t23:Int)(t20:List Int)(Z:(Int×Int×(List Int))⊕(Int×Int×(List Int))→Option ρ):Option ρ:=
 br (decide (t23<t22))
 (bnd (idx t21 t23) fun y=>
 bnd (whole_sum.cw_ b t23 (0:Int) some) fun y1=>
 bnd (ki y y1 c) fun y2=>
 bnd (inR (List.length t20) t23) fun y3=>
 bnd (idx t20 t23) fun y4=>
 Z (.inl (y2.2,(IntKind.i64.wrap (t23+(1:Int))),(List.set t20 (Int.toNat t23) y2.1))))
 (Z (.inr (c,t23,t20)))
def whole_sum.cc_s:Shape:=⟨[(0,ff25),(1,ff25),(4,ff25),(5,ff38),(6,ff10),(21,ff25),(22,ff5),(23,ff5)],[(20,ff28)]⟩
def whole_sum.cc_r:Ck:=Ck.ofLoop (S:=Int×Int×(List Int)) (T:=Int×Int×(List Int)) whole_sum.cc_s (fun X=>(X.2.2.2.1,(q4 X).2.2.1,(q4 X).2.2.2.1)) (fun ρ X Q Z=>whole_sum.cc_ X.2.1 Q.1 (q4 X).1 (q4 X).2.1 Q.2.1 Q.2.2 Z) (fun ρ X V Z=>Z 2 (Shape.inj whole_sum.cc_s (X.1,X.2.1,X.2.2.1,V.1,(q4 X).1,(q4 X).2.1,V.2.1,V.2.2,())))
def whole_sum (a:List Int) (b:List Int):Option (List Int):=
 bnd (whole_sum.cy_ a b some) fun y=>
 bnd (okIf (decide ((0:Int)≤IntKind.i64.wrap ((↑(List.length y.1):Int)+(1:Int)))&&decide (IntKind.i64.wrap ((↑(List.length y.1):Int)+(1:Int))≤IntKind.i64.wrap ((↑(List.length y.1):Int)+(1:Int)))&&decide (IntKind.i64.wrap ((↑(List.length y.1):Int)+(1:Int))*(↑(4:Nat):Int)≤(140737488355328:Int))&&decide (IntKind.i64.wrap ((↑(List.length y.1):Int)+(1:Int))≤(140737488355328:Int)))) fun y1=>
 bnd (iter (fun s↦whole_sum.cc_ y.2 s.1 y.1 (↑(List.length y.1):Int) s.2.1 s.2.2 some) ((0:Int),(0:Int),List.replicate (Int.toNat (IntKind.i64.wrap ((↑(List.length y.1):Int)+(1:Int)))) (0:Int))) fun y2=>
 bnd (inR (List.length y2.2.2) (↑(List.length y.1):Int)) fun y3=>
 bnd (idx y2.2.2 (↑(List.length y.1):Int)) fun y4=>
 some (List.set y2.2.2 (Int.toNat (↑(List.length y.1):Int)) y2.1)
def whole_sum.ce:Go.Ql.Callee:=⟨[(.sl (.int .u32)),(.sl (.int .u32))],[(.sl (.int .u32))],fun X=>whole_sum X.1 X.2⟩
def whole_sum.G:Env:=⟨53,tab,[(111,ki.ce)],[0,1,4,5,6,7,8,9,14,21,22,23,24,31],[20],[],[(100006,whole_sum.cc_r),(236869,whole_sum.cw_r),(204101,whole_sum.cy_r)],[],jy⟩
theorem whole_sum.p0:PcA whole_sum.G Tryz.f94 0:=
 JE (s:=whole_sum.cy_r) (by kernel_rfl) (by kernel_rfl) (jq (sh:=whole_sum.cy_s) (fun ρ X Z=>(jl jc jc)) (fun ρ X t k=>(by kernel_rfl)) (fun X=>by kernel_rfl))
theorem whole_sum.p1:PcA whole_sum.G Tryz.f94 1:=
 jW (s:=whole_sum.cc_r) (by kernel_rfl) (by kernel_rfl) (jT (sh:=whole_sum.cc_s) (I:=fun X Q=>(X.1,X.2.1,X.2.2.1,Q.1,(q4 X).1,(q4 X).2.1,Q.2.1,Q.2.2,())) (fun X=>rfl) (fun ρ X Q Z=>(jl (jb fun _=>(jb fun _=>(jb fun _=>(jb fun _=>(jb fun _=>jc))))) jc)) (fun ρ X t k=>(by kernel_rfl)) (fun X s=>by kernel_rfl))
theorem whole_sum.p2:PcA whole_sum.G Tryz.f94 2:=
 JE (s:=whole_sum.cw_r) (by kernel_rfl) (by kernel_rfl) (jq (sh:=whole_sum.cw_s) (fun ρ X Z=>(jl (jb fun _=>jc) jc)) (fun ρ X t k=>(by kernel_rfl)) (fun X=>by kernel_rfl))
theorem whole_sum.ok:CalleeOk Tryz.prog 94 whole_sum.ce:=fn_ok (G:=whole_sum.G) jG mixed Tryz.func94 ⟨(jj ki.ok jz),jx,jn⟩ (m:=3) (by kernel_rfl) ⟨⟨⟨trivial,whole_sum.p0⟩,whole_sum.p1⟩,whole_sum.p2⟩ (by kernel_rfl) (fun _=>by kernel_rfl)
def kr (x:Int) (y:Int) (borrow:Int):Option (Int×Int):=
 some (IntKind.wrap IntKind.u32 (IntKind.wrap IntKind.u32 (x-y)-borrow),Int.fdiv (ibits BinOp.or IntKind.u32 (ibits BinOp.and IntKind.u32 (ibits BinOp.xor IntKind.u32 (Int.ofNat (nat_lit 2^(32:Nat)-Nat.succ (nat_lit 0))) x) y) (ibits BinOp.and IntKind.u32 (ibits BinOp.xor IntKind.u32 (Int.ofNat (nat_lit 2^(32:Nat)-Nat.succ (nat_lit 0))) (ibits BinOp.xor IntKind.u32 x y)) (IntKind.wrap IntKind.u32 (IntKind.wrap IntKind.u32 (x-y)-borrow)))) ((2:Int)^(31:Nat)))
def kr.ce:Go.Ql.Callee:=⟨[(.int .u32),(.int .u32),(.int .u32)],[(.int .u32),(.int .u32)],fun X=>kr X.1 X.2.1 X.2.2⟩
def kr.G:Env:=⟨25,tab,[],[0,1,2,6,7],[],[],[],[],jy⟩
theorem kr.ok:CalleeOk Tryz.prog 112 kr.ce:=fn_ok (G:=kr.G) jG mixed Tryz.func112 ⟨jz,jx,jn⟩ (m:=0) (by kernel_rfl) trivial (by kernel_rfl) (fun _=>by kernel_rfl)
abbrev ff39:SD:=.one (.own 12 0)
def whole_less.cm_ (b:List Int)(i:Int)(y:Int)(Z:Int→Option ρ):Option ρ:=
 br (decide (i<(↑(List.length b):Int)))
 (bnd (idx b i) fun y1=>
 Z y1)
 (Z y)
def whole_less.cm_s:Shape:=⟨[(0,ff25),(1,ff25),(4,ff25),(5,ff39),(6,ff10),(7,ff5),(8,ff10),(9,ff10),(13,ff25),(14,ff5),(15,ff5)],[(12,ff28)]⟩
def whole_less.cm_r:Ck:=Ck.of (T:=Int) whole_less.cm_s (fun ρ X Z=>whole_less.cm_ X.2.1 (q4 X).1 (q4 X).2.2.1 Z) (fun ρ X V Z=>Z 0 (Shape.inj whole_less.cm_s (X.1,X.2.1,X.2.2.1,X.2.2.2.1,(q4 X).1,(q4 X).2.1,V,(q4 X).2.2.2)))
def whole_less.cb_ (b:List Int)(c:Int)(t13:List Int)(t14:Int)(t15:Int)(t12:List Int)(Z:(Int×Int×(List Int))⊕(Int×Int×(List Int))→Option ρ):Option ρ:=
 br (decide (t15<t14))
 (bnd (idx t13 t15) fun y=>
 bnd (whole_less.cm_ b t15 (0:Int) some) fun y1=>
 bnd (kr y y1 c) fun y2=>
 bnd (inR (List.length t12) t15) fun y3=>
 bnd (idx t12 t15) fun y4=>
 Z (.inl (y2.2,(IntKind.i64.wrap (t15+(1:Int))),(List.set t12 (Int.toNat t15) y2.1))))
 (Z (.inr (c,t15,t12)))
def whole_less.cb_s:Shape:=⟨[(0,ff25),(1,ff25),(4,ff25),(5,ff39),(6,ff10),(13,ff25),(14,ff5),(15,ff5)],[(12,ff28)]⟩
def whole_less.cb_r:Ck:=Ck.ofLoop (S:=Int×Int×(List Int)) (T:=Int×Int×(List Int)) whole_less.cb_s (fun X=>(X.2.2.2.1,(q4 X).2.2.1,(q4 X).2.2.2.1)) (fun ρ X Q Z=>whole_less.cb_ X.2.1 Q.1 (q4 X).1 (q4 X).2.1 Q.2.1 Q.2.2 Z) (fun ρ X V Z=>Z 2 (Shape.inj whole_less.cb_s (X.1,X.2.1,X.2.2.1,V.1,(q4 X).1,(q4 X).2.1,V.2.1,V.2.2,())))
def whole_less (a:List Int) (b:List Int):Option (List Int):=
 bnd (okIf (decide ((0:Int)≤(↑(List.length a):Int))&&decide ((↑(List.length a):Int)≤(↑(List.length a):Int))&&decide ((↑(List.length a):Int)*(↑(4:Nat):Int)≤(140737488355328:Int))&&decide ((↑(List.length a):Int)≤(140737488355328:Int)))) fun y=>
 bnd (iter (fun s↦whole_less.cb_ b s.1 a (↑(List.length a):Int) s.2.1 s.2.2 some) ((0:Int),(0:Int),List.replicate (Int.toNat (↑(List.length a):Int)) (0:Int))) fun y1=>
 some y1.2.2
def whole_less.ce:Go.Ql.Callee:=⟨[(.sl (.int .u32)),(.sl (.int .u32))],[(.sl (.int .u32))],fun X=>whole_less X.1 X.2⟩
def whole_less.G:Env:=⟨40,tab,[(112,kr.ce)],[0,1,4,5,6,7,8,9,13,14,15,16,23],[12],[],[(100004,whole_less.cb_r),(228677,whole_less.cm_r)],[],jy⟩
theorem whole_less.p0:PcA whole_less.G Tryz.f95 0:=
 jW (s:=whole_less.cb_r) (by kernel_rfl) (by kernel_rfl) (jT (sh:=whole_less.cb_s) (I:=fun X Q=>(X.1,X.2.1,X.2.2.1,Q.1,(q4 X).1,(q4 X).2.1,Q.2.1,Q.2.2,())) (fun X=>rfl) (fun ρ X Q Z=>(jl (jb fun _=>(jb fun _=>(jb fun _=>(jb fun _=>(jb fun _=>jc))))) jc)) (fun ρ X t k=>(by kernel_rfl)) (fun X s=>by kernel_rfl))
theorem whole_less.p1:PcA whole_less.G Tryz.f95 1:=
 JE (s:=whole_less.cm_r) (by kernel_rfl) (by kernel_rfl) (jq (sh:=whole_less.cm_s) (fun ρ X Z=>(jl (jb fun _=>jc) jc)) (fun ρ X t k=>(by kernel_rfl)) (fun X=>by kernel_rfl))
theorem whole_less.ok:CalleeOk Tryz.prog 95 whole_less.ce:=fn_ok (G:=whole_less.G) jG mixed Tryz.func95 ⟨(jj kr.ok jz),jx,jn⟩ (m:=2) (by kernel_rfl) ⟨⟨trivial,whole_less.p0⟩,whole_less.p1⟩ (by kernel_rfl) (fun _=>by kernel_rfl)
abbrev ff40:SD:=.one (.val (.st (.pair .bool (.sl (.int .u32)))))
def whole_Int_Add.c2 (a0:Bool)(a1:List Int)(b1:List Int)(Z:YD→Option ρ):Option ρ:=
 bnd (whole_sum a1 b1) fun y=>
 bnd (whole_made a0 y) fun y1=>
 Z (y1.1,y1.2)
def whole_Int_Add.c2s:Shape:=⟨[(0,ff40),(1,ff40),(2,ff2),(3,ff12),(4,ff6)],[(2,ff29),(3,ff29),(4,ff29)]⟩
def whole_Int_Add.c2r:Ck:=Ck.of (T:=YD) whole_Int_Add.c2s (fun ρ X Z=>whole_Int_Add.c2 X.2.2.1 X.2.2.2.1 (q4 X).2.1 Z) (fun ρ X V Z=>Z 0 (Shape.inj whole_Int_Add.c2s (X.1,X.2.1,X.2.2.1,X.2.2.2.1,(q4 X).1,(q4 X).2.1,V.1,V.2,())))
def whole_Int_Add.c4 (a0:Bool)(a1:List Int)(b1:List Int)(Z:YD→Option ρ):Option ρ:=
 bnd (whole_less a1 b1) fun y=>
 bnd (whole_made a0 y) fun y1=>
 Z (y1.1,y1.2)
def whole_Int_Add.c4r:Ck:=Ck.of (T:=YD) whole_Int_Add.c2s (fun ρ X Z=>whole_Int_Add.c4 X.2.2.1 X.2.2.2.1 (q4 X).2.1 Z) (fun ρ X V Z=>Z 0 (Shape.inj whole_Int_Add.c2s (X.1,X.2.1,X.2.2.1,X.2.2.2.1,(q4 X).1,(q4 X).2.1,V.1,V.2,())))
def whole_Int_Add.c5 (a1:List Int)(b0:Bool)(b1:List Int)(Z:YD→Option ρ):Option ρ:=
 bnd (whole_less b1 a1) fun y=>
 bnd (whole_made b0 y) fun y1=>
 Z (y1.1,y1.2)
def whole_Int_Add.c5r:Ck:=Ck.of (T:=YD) whole_Int_Add.c2s (fun ρ X Z=>whole_Int_Add.c5 X.2.2.2.1 (q4 X).1 (q4 X).2.1 Z) (fun ρ X V Z=>Z 0 (Shape.inj whole_Int_Add.c2s (X.1,X.2.1,X.2.2.1,X.2.2.2.1,(q4 X).1,(q4 X).2.1,V.1,V.2,())))
def whole_Int_Add (a:YD) (b:YD):Option YD:=
 br (a.1==b.1)
 (bnd (whole_Int_Add.c2 a.1 a.2 b.2 some) fun y=>
 some (y.1,y.2))
 (bnd (whole_order a.2 b.2) fun y1=>
 br (decide (y1≥(0:Int)))
 (bnd (whole_Int_Add.c4 a.1 a.2 b.2 some) fun y2=>
 some (y2.1,y2.2))
 (bnd (whole_Int_Add.c5 a.2 b.1 b.2 some) fun y3=>
 some (y3.1,y3.2)))
def whole_Int_Add.ce:Go.Ql.Callee:=⟨[(.st (.pair .bool (.sl (.int .u32)))),(.st (.pair .bool (.sl (.int .u32))))],[(.st (.pair .bool (.sl (.int .u32))))],fun X=>whole_Int_Add X.1 X.2⟩
def whole_Int_Add.G:Env:=⟨40,tab,[(94,whole_sum.ce),(67,whole_made.ce),(93,whole_order.ce),(95,whole_less.ce)],[0,1,2,3,4,9,23],[],[(5,[⟨[],[],[34,35,36,37,38],[]⟩,⟨[0],[],[34,35,36,37,38],[]⟩,⟨[],[],[32,33,36,37],[]⟩,⟨[2],[],[32,33,36,37],[]⟩,⟨[],[],[32,33,34,35],[]⟩,⟨[4],[],[32,33,34,35],[]⟩,⟨[3,2,5,4],[],[32,33],[]⟩,⟨[1,0,6,3,2,5,4],[],[],[]⟩,⟨[7,1,0,6,3,2,5,4],[4],[],[]⟩]),
 (4,[⟨[],[],[26,27,28,29,30],[]⟩,⟨[0],[],[26,27,28,29,30],[]⟩,⟨[],[],[24,25,28,29],[]⟩,⟨[2],[],[24,25,28,29],[]⟩,⟨[],[],[24,25,26,27],[]⟩,⟨[4],[],[24,25,26,27],[]⟩,⟨[3,2,5,4],[],[24,25],[]⟩,⟨[1,0,6,3,2,5,4],[],[],[]⟩,⟨[7,1,0,6,3,2,5,4],[4],[],[]⟩]),
 (2,[⟨[],[],[12,13,14,15,16],[]⟩,⟨[0],[],[12,13,14,15,16],[]⟩,⟨[],[],[10,11,14,15],[]⟩,⟨[2],[],[10,11,14,15],[]⟩,⟨[],[],[10,11,12,13],[]⟩,⟨[4],[],[10,11,12,13],[]⟩,⟨[3,2,5,4],[],[10,11],[]⟩,⟨[1,0,6,3,2,5,4],[],[],[]⟩,⟨[7,1,0,6,3,2,5,4],[4],[],[]⟩])],[(5,whole_Int_Add.c5r),(4,whole_Int_Add.c4r),(2,whole_Int_Add.c2r)],[],jy⟩
theorem whole_Int_Add.p0:PcA whole_Int_Add.G Tryz.f75 0:=
 js (s:=whole_Int_Add.c2r) (by kernel_rfl) (by kernel_rfl) (jq (sh:=whole_Int_Add.c2s) (fun ρ X Z=>(jb fun _=>(jb fun _=>jc))) (fun ρ X t k=>(by kernel_rfl)) (fun X=>by kernel_rfl))
theorem whole_Int_Add.p1:PcA whole_Int_Add.G Tryz.f75 1:=
 js (s:=whole_Int_Add.c4r) (by kernel_rfl) (by kernel_rfl) (jq (sh:=whole_Int_Add.c2s) (fun ρ X Z=>(jb fun _=>(jb fun _=>jc))) (fun ρ X t k=>(by kernel_rfl)) (fun X=>by kernel_rfl))
theorem whole_Int_Add.p2:PcA whole_Int_Add.G Tryz.f75 2:=
 js (s:=whole_Int_Add.c5r) (by kernel_rfl) (by kernel_rfl) (jq (sh:=whole_Int_Add.c2s) (fun ρ X Z=>(jb fun _=>(jb fun _=>jc))) (fun ρ X t k=>(by kernel_rfl)) (fun X=>by kernel_rfl))
theorem whole_Int_Add.ok:CalleeOk Tryz.prog 75 whole_Int_Add.ce:=fn_ok (G:=whole_Int_Add.G) jG mixed Tryz.func75 ⟨(jj whole_sum.ok (jj whole_made.ok (jj whole_order.ok (jj whole_less.ok jz)))),jx,jn⟩ (m:=3) (by kernel_rfl) ⟨⟨⟨trivial,whole_Int_Add.p0⟩,whole_Int_Add.p1⟩,whole_Int_Add.p2⟩ (by kernel_rfl) (fun _=>by kernel_rfl)
abbrev ff41:SD:=.one (.ref 5 0)
abbrev ff42:SD:=.one (.ref 7 0)
abbrev ff43:SD:=.one (.ref 8 0)
def whole_Int_Div.c7 (a1:List Int)(b1:List Int)(Z:(List Int)×Int→Option ρ):Option ρ:=
 bnd (idx b1 (0:Int)) fun y=>
 bnd (whole_short a1 y) fun y1=>
 Z (y1.1,y1.2)
def whole_Int_Div.c7s:Shape:=⟨[(0,ff40),(1,ff40),(2,ff2),(3,ff12),(4,ff6),(5,ff41),(6,ff8),(7,ff42),(8,ff43)],[(2,ff29),(3,ff29),(4,ff29),(5,ff29),(6,ff19),(7,ff29),(8,ff29)]⟩
def whole_Int_Div.c7x0:Shape:=⟨[(0,ff40),(1,ff40),(2,ff2),(3,ff12),(4,ff6),(5,ff41),(6,ff8),(7,ff42),(8,ff43),(9,ff25),(10,ff10)],[(2,ff29),(3,ff29),(4,ff29),(5,ff29),(6,ff19),(7,ff29),(8,ff29)]⟩
def whole_Int_Div.c7r:Ck:=Ck.of (T:=(List Int)×Int) whole_Int_Div.c7s (fun ρ X Z=>whole_Int_Div.c7 X.2.2.2.1 (q4 X).2.1 Z) (fun ρ X V Z=>Z 0 (Shape.inj whole_Int_Div.c7x0 (X.1,X.2.1,V.1,V.2,X.2.2)))
def whole_Int_Div.cR_ (a1:List Int)(b1:List Int)(q0:Bool)(q1:List Int)(Z:Bool×(List Int)×YD→Option ρ):Option ρ:=
 bnd (whole_order a1 b1) fun y=>
 br (decide (y<(0:Int)))
 (bnd (whole_made false a1) fun y1=>
 Z (q0,q1,y1.1,y1.2))
 (br ((↑(List.length b1):Int)==(1:Int))
 (bnd (whole_Int_Div.c7 a1 b1 some) fun y2=>
 bnd (whole_made false y2.1) fun y3=>
 bnd (whole_made false [y2.2]) fun y4=>
 Z (y3.1,y3.2,y4.1,y4.2))
 (bnd (whole_quotient a1 b1) fun y5=>
 bnd (whole_made false y5.1) fun y6=>
 bnd (whole_made false y5.2) fun y7=>
 Z (y6.1,y6.2,y7.1,y7.2)))
def whole_Int_Div.cR_r:Ck:=Ck.of (T:=Bool×(List Int)×YD) whole_Int_Div.c7s (fun ρ X Z=>whole_Int_Div.cR_ X.2.2.2.1 (q4 X).2.1 (q4 (q8 X)).1 (q4 (q8 X)).2.1 Z) (fun ρ X V Z=>Z 0 (Shape.inj whole_Int_Div.c7s (X.1,X.2.1,X.2.2.1,X.2.2.2.1,(q4 X).1,(q4 X).2.1,(q4 X).2.2.1,(q4 X).2.2.2.1,(q8 X).1,(q8 X).2.1,(q8 X).2.2.1,(q8 X).2.2.2.1,V.1,V.2.1,V.2.2.1,V.2.2.2,())))
def whole_Int_Div.c11 (a0:Bool)(r1:List Int)(Z:Bool→Option ρ):Option ρ:=
 br a0
 (Z (decide ((↑(List.length r1):Int)>(0:Int))))
 (Z false)
def whole_Int_Div.c11x0:Shape:=⟨[(0,ff40),(1,ff40),(2,ff2),(3,ff12),(4,ff6),(5,ff41),(6,ff8),(7,ff42),(8,ff43),(67,ff7)],[(2,ff29),(3,ff29),(4,ff29),(5,ff29),(6,ff19),(7,ff29),(8,ff29)]⟩
def whole_Int_Div.c11r:Ck:=Ck.of (T:=Bool) whole_Int_Div.c7s (fun ρ X Z=>whole_Int_Div.c11 X.2.2.1 (q4 (q8 X)).2.2.2.1 Z) (fun ρ X V Z=>Z 0 (Shape.inj whole_Int_Div.c11x0 (X.1,X.2.1,V,X.2.2)))
def whole_Int_Div.c12 (b1:List Int)(q0:Bool)(q1:List Int)(r1:List Int)(Z:Bool×(List Int)×YD→Option ρ):Option ρ:=
 bnd (whole_Of (1:Int)) fun y=>
 bnd (whole_Int_Add (q0,q1) y) fun y1=>
 bnd (whole_less b1 r1) fun y2=>
 bnd (whole_made false y2) fun y3=>
 Z (y1.1,y1.2,y3.1,y3.2)
def whole_Int_Div.c12r:Ck:=Ck.of (T:=Bool×(List Int)×YD) whole_Int_Div.c7s (fun ρ X Z=>whole_Int_Div.c12 (q4 X).2.1 (q4 (q8 X)).1 (q4 (q8 X)).2.1 (q4 (q8 X)).2.2.2.1 Z) (fun ρ X V Z=>Z 0 (Shape.inj whole_Int_Div.c7s (X.1,X.2.1,X.2.2.1,X.2.2.2.1,(q4 X).1,(q4 X).2.1,(q4 X).2.2.1,(q4 X).2.2.2.1,(q8 X).1,(q8 X).2.1,(q8 X).2.2.1,(q8 X).2.2.2.1,V.1,V.2.1,V.2.2.1,V.2.2.2,())))
def whole_Int_Div.cq_ (a0:Bool)(b1:List Int)(q0:Bool)(q1:List Int)(r0:Bool)(r1:List Int)(Z:Bool×(List Int)×YD→Option ρ):Option ρ:=
 bnd (whole_Int_Div.c11 a0 r1 some) fun y=>
 br y
 (bnd (whole_Int_Div.c12 b1 q0 q1 r1 some) fun y1=>
 Z (y1.1,y1.2.1,y1.2.2.1,y1.2.2.2))
 (Z (q0,q1,r0,r1))
def whole_Int_Div.cq_r:Ck:=Ck.of (T:=Bool×(List Int)×YD) whole_Int_Div.c7s (fun ρ X Z=>whole_Int_Div.cq_ X.2.2.1 (q4 X).2.1 (q4 (q8 X)).1 (q4 (q8 X)).2.1 (q4 (q8 X)).2.2.1 (q4 (q8 X)).2.2.2.1 Z) (fun ρ X V Z=>Z 0 (Shape.inj whole_Int_Div.c7s (X.1,X.2.1,X.2.2.1,X.2.2.2.1,(q4 X).1,(q4 X).2.1,(q4 X).2.2.1,(q4 X).2.2.2.1,(q8 X).1,(q8 X).2.1,(q8 X).2.2.1,(q8 X).2.2.2.1,V.1,V.2.1,V.2.2.1,V.2.2.2,())))
def whole_Int_Div.c13 (a0:Bool)(b0:Bool)(q1:List Int)(Z:YD→Option ρ):Option ρ:=
 bnd (whole_made (!a0==b0) q1) fun y=>
 Z (y.1,y.2)
def whole_Int_Div.c13r:Ck:=Ck.of (T:=YD) whole_Int_Div.c7s (fun ρ X Z=>whole_Int_Div.c13 X.2.2.1 (q4 X).1 (q4 (q8 X)).2.1 Z) (fun ρ X V Z=>Z 0 (Shape.inj whole_Int_Div.c7s (X.1,X.2.1,X.2.2.1,X.2.2.2.1,(q4 X).1,(q4 X).2.1,V.1,V.2,(q4 (q8 X)).2.2.1,(q4 (q8 X)).2.2.2.1,(0:Int),(0:Int),(q4 (q8 X)))))
def whole_Int_Div (a:YD) (b:YD):Option (YD×YD×(Int×Int)):=
 br ((↑(List.length b.2):Int)==(0:Int))
 (some ((false,[]),(false,[]),(4:Int),(0:Int)))
 (bnd (whole_Int_Div.cR_ a.2 b.2 false [] some) fun y=>
 bnd (whole_Int_Div.cq_ a.1 b.2 y.1 y.2.1 y.2.2.1 y.2.2.2 some) fun y1=>
 bnd (whole_Int_Div.c13 a.1 b.1 y1.2.1 some) fun y2=>
 some ((y2.1,y2.2),(y1.2.2.1,y1.2.2.2),(0:Int),(0:Int)))
def whole_Int_Div.ce:Go.Ql.Callee:=⟨[(.st (.pair .bool (.sl (.int .u32)))),(.st (.pair .bool (.sl (.int .u32))))],[(.st (.pair .bool (.sl (.int .u32)))),(.st (.pair .bool (.sl (.int .u32)))),(.st (.pair (.int .i64) (.int .i64)))],fun X=>whole_Int_Div X.1 X.2⟩
def whole_Int_Div.G:Env:=⟨87,tab,[(93,whole_order.ce),(67,whole_made.ce),(107,whole_short.ce),(108,whole_quotient.ce),(17,whole_Of.ce),(75,whole_Int_Add.ce),(95,whole_less.ce)],[0,1,2,3,4,5,6,7,8,9,10,11,12,16,25,32,67],[],[(13,[⟨[],[],[79,80,82,83,85,86],[]⟩,⟨[0],[],[79,80,82,83,85,86],[]⟩,⟨[],[],[77,78,82,83,85,86],[]⟩,⟨[2],[],[77,78,82,83,85,86],[]⟩,⟨[1,0,3,2],[],[82,83,85,86],[]⟩,⟨[],[],[77,78,79,80,81,85,86],[]⟩,⟨[5],[],[77,78,79,80,81,85,86],[]⟩,⟨[4,1,0,3,2,6,5],[],[85,86],[]⟩,⟨[],[],[77,78,79,80,81,82,83,84,86],[4]⟩,⟨[],[],[77,78,79,80,81,82,83,84,85],[4,5]⟩,⟨[7,4,1,0,3,2,6,5],[4],[85,86],[]⟩,⟨[8,10,7,4,1,0,3,2,6,5],[5],[86],[]⟩,⟨[9,11,8,10,7,4,1,0,3,2,6,5],[6],[],[]⟩]),
 (12,[⟨[],[],[69,71,72,73,74],[]⟩,⟨[],[],[68,71,72,73,74],[]⟩,⟨[0,1],[],[71,72,73,74],[]⟩,⟨[],[],[68,69,70,73,74],[]⟩,⟨[3],[],[68,69,70,73,74],[]⟩,⟨[],[],[68,69,70,71,72],[]⟩,⟨[5],[],[68,69,70,71,72],[]⟩,⟨[4,3,6,5,2,0,1],[],[],[]⟩,⟨[7,4,3,6,5,2,0,1],[],[],[]⟩,⟨[2,0,1,8,7,4,3,6,5],[7],[],[]⟩,⟨[8,7,4,3,6,5,2,0,1,9],[8],[],[]⟩]),
 (7,[⟨[],[],[36,37,38,39],[]⟩,⟨[0],[],[36,37,38,39],[]⟩,⟨[],[],[34,35],[]⟩,⟨[2],[],[34,35],[]⟩,⟨[3,2],[],[34,35],[]⟩,⟨[4,3,2],[],[34,35],[]⟩,⟨[1,0,5,4,3,2],[],[],[]⟩,⟨[6,1,0,5,4,3,2],[],[],[]⟩,⟨[7,6,1,0,5,4,3,2],[],[42],[]⟩,⟨[7,6,1,0,5,4,3,2],[],[41,9],[]⟩,⟨[8,7,6,1,0,5,4,3,2],[],[42],[]⟩,⟨[9,7,6,1,0,5,4,3,2,10,8],[],[],[]⟩])],[(13,whole_Int_Div.c13r),(245061,whole_Int_Div.cq_r),(12,whole_Int_Div.c12r),(11,whole_Int_Div.c11r),(216397,whole_Int_Div.cR_r),(7,whole_Int_Div.c7r)],[],jy⟩
theorem whole_Int_Div.p0:PcA whole_Int_Div.G Tryz.f90 0:=
 JE (s:=whole_Int_Div.cR_r) (by kernel_rfl) (by kernel_rfl) (jq (sh:=whole_Int_Div.c7s) (fun ρ X Z=>(jb fun _=>(jl (jb fun _=>jc) (jl (jb fun _=>(jb fun _=>(jb fun _=>jc))) (jb fun _=>(jb fun _=>(jb fun _=>jc))))))) (fun ρ X t k=>(by kernel_rfl)) (fun X=>by kernel_rfl))
theorem whole_Int_Div.p1:PcA whole_Int_Div.G Tryz.f90 1:=
 js (s:=whole_Int_Div.c7r) (by kernel_rfl) (by kernel_rfl) (jq (sh:=whole_Int_Div.c7s) (fun ρ X Z=>(jb fun _=>(jb fun _=>jc))) (fun ρ X t k=>(by kernel_rfl)) (fun X=>by kernel_rfl))
theorem whole_Int_Div.p2:PcA whole_Int_Div.G Tryz.f90 2:=
 JE (s:=whole_Int_Div.cq_r) (by kernel_rfl) (by kernel_rfl) (jq (sh:=whole_Int_Div.c7s) (fun ρ X Z=>(jb fun _=>(jl (jb fun _=>jc) jc))) (fun ρ X t k=>(by kernel_rfl)) (fun X=>by kernel_rfl))
theorem whole_Int_Div.p3:PcA whole_Int_Div.G Tryz.f90 3:=
 js (s:=whole_Int_Div.c11r) (by kernel_rfl) (by kernel_rfl) (jq (sh:=whole_Int_Div.c7s) (fun ρ X Z=>(jl jc jc)) (fun ρ X t k=>(by kernel_rfl)) (fun X=>by kernel_rfl))
theorem whole_Int_Div.p4:PcA whole_Int_Div.G Tryz.f90 4:=
 js (s:=whole_Int_Div.c12r) (by kernel_rfl) (by kernel_rfl) (jq (sh:=whole_Int_Div.c7s) (fun ρ X Z=>(jb fun _=>(jb fun _=>(jb fun _=>(jb fun _=>jc))))) (fun ρ X t k=>(by kernel_rfl)) (fun X=>by kernel_rfl))
theorem whole_Int_Div.p5:PcA whole_Int_Div.G Tryz.f90 5:=
 js (s:=whole_Int_Div.c13r) (by kernel_rfl) (by kernel_rfl) (jq (sh:=whole_Int_Div.c7s) (fun ρ X Z=>(jb fun _=>jc)) (fun ρ X t k=>(by kernel_rfl)) (fun X=>by kernel_rfl))
theorem whole_Int_Div.ok:CalleeOk Tryz.prog 90 whole_Int_Div.ce:=fn_ok (G:=whole_Int_Div.G) jG mixed Tryz.func90 ⟨(jj whole_order.ok (jj whole_made.ok (jj whole_short.ok (jj whole_quotient.ok (jj whole_Of.ok (jj whole_Int_Add.ok (jj whole_less.ok jz))))))),jx,jn⟩ (m:=6) (by kernel_rfl) ⟨⟨⟨⟨⟨⟨trivial,whole_Int_Div.p0⟩,whole_Int_Div.p1⟩,whole_Int_Div.p2⟩,whole_Int_Div.p3⟩,whole_Int_Div.p4⟩,whole_Int_Div.p5⟩ (by kernel_rfl) (fun _=>by kernel_rfl)
def whole_Gcd.c3  (Z:Unit→Option ρ):Option ρ:=
 Z ()
def whole_Gcd.c3s:Shape:=⟨[(0,ff40),(1,ff40),(2,ff2),(3,ff12),(4,ff6),(6,ff8)],[(2,ff29),(3,ff29),(4,ff29),(5,ff29),(6,ff29),(7,ff19)]⟩
def whole_Gcd.c3r:Ck:=Ck.of (T:=Unit) whole_Gcd.c3s (fun ρ X Z=>whole_Gcd.c3  Z) (fun ρ X V Z=>Z 0 (Shape.inj whole_Gcd.c3s (X.1,X.2.1,(q4 X).1,(q4 X).2.1,(q8 X).2.2.1,(q8 X).2.2.2.1,(q4 X).2.2)))
def whole_Gcd.cj_ (a0:Bool)(a1:List Int)(b0:Bool)(b1:List Int)(Z:(Bool×(List Int)×YD)⊕(Bool×(List Int)×YD)→Option ρ):Option ρ:=
 br (decide ((↑(List.length b1):Int)>(0:Int)))
 (bnd (whole_Int_Div (a0,a1) (b0,b1)) fun y=>
 bnd (whole_Gcd.c3 some) fun y1=>
 Z (.inl (b0,b1,y.2.1.1,y.2.1.2)))
 (Z (.inr (a0,a1,b0,b1)))
def whole_Gcd.cj_s:Shape:=⟨[(0,ff40),(1,ff40),(2,ff2),(3,ff12),(4,ff6)],[(2,ff29),(3,ff29),(4,ff29)]⟩
def whole_Gcd.cj_r:Ck:=Ck.ofLoop (S:=Bool×(List Int)×YD) (T:=Bool×(List Int)×YD) whole_Gcd.cj_s (fun X=>(X.2.2.1,X.2.2.2.1,(q4 X).1,(q4 X).2.1)) (fun ρ X Q Z=>whole_Gcd.cj_ Q.1 Q.2.1 Q.2.2.1 Q.2.2.2 Z) (fun ρ X V Z=>Z 2 (Shape.inj whole_Gcd.cj_s (X.1,X.2.1,V.1,V.2.1,V.2.2.1,V.2.2.2,(q4 X).2.2)))
def whole_Gcd (a:YD) (b:YD):Option YD:=
 bnd (iter (fun s↦whole_Gcd.cj_ s.1 s.2.1 s.2.2.1 s.2.2.2 some) (a.1,a.2,b.1,b.2)) fun y=>
 bnd (whole_made false y.2.1) fun y1=>
 some (y1.1,y1.2)
def whole_Gcd.ce:Go.Ql.Callee:=⟨[(.st (.pair .bool (.sl (.int .u32)))),(.st (.pair .bool (.sl (.int .u32))))],[(.st (.pair .bool (.sl (.int .u32))))],fun X=>whole_Gcd X.1 X.2⟩
def whole_Gcd.G:Env:=⟨24,tab,[(90,whole_Int_Div.ce),(67,whole_made.ce)],[0,1,2,3,4,6,11],[],[(3,[⟨[],[],[20],[]⟩,⟨[],[],[19],[2]⟩,⟨[0],[2],[20],[]⟩,⟨[1,2,0],[3],[],[]⟩])],[(100001,whole_Gcd.cj_r),(3,whole_Gcd.c3r)],[],jy⟩
theorem whole_Gcd.p0:PcA whole_Gcd.G Tryz.f89 0:=
 jW (s:=whole_Gcd.cj_r) (by kernel_rfl) (by kernel_rfl) (jT (sh:=whole_Gcd.cj_s) (I:=fun X Q=>(X.1,X.2.1,Q.1,Q.2.1,Q.2.2.1,Q.2.2.2,(q4 X).2.2)) (fun X=>rfl) (fun ρ X Q Z=>(jl (jb fun _=>(jb fun _=>jc)) jc)) (fun ρ X t k=>(by kernel_rfl)) (fun X s=>by kernel_rfl))
theorem whole_Gcd.p1:PcA whole_Gcd.G Tryz.f89 1:=
 js (s:=whole_Gcd.c3r) (by kernel_rfl) (by kernel_rfl) (jq (sh:=whole_Gcd.c3s) (fun ρ X Z=>jc) (fun ρ X t k=>(by kernel_rfl)) (fun X=>by kernel_rfl))
theorem whole_Gcd.ok:CalleeOk Tryz.prog 89 whole_Gcd.ce:=fn_ok (G:=whole_Gcd.G) jG mixed Tryz.func89 ⟨(jj whole_Int_Div.ok (jj whole_made.ok jz)),jx,jn⟩ (m:=2) (by kernel_rfl) ⟨⟨trivial,whole_Gcd.p0⟩,whole_Gcd.p1⟩ (by kernel_rfl) (fun _=>by kernel_rfl)
def whole_Int_Sign (a:YD):Option Int:=
 br ((↑(List.length a.2):Int)==(0:Int))
 (some (0:Int))
 (br a.1
 (some (-1:Int))
 (some (1:Int)))
def whole_Int_Sign.ce:Go.Ql.Callee:=⟨[(.st (.pair .bool (.sl (.int .u32))))],[(.int .i64)],fun X=>whole_Int_Sign X⟩
def whole_Int_Sign.G:Env:=⟨11,tab,[],[0,1,2,3,8],[],[],[],[],jy⟩
theorem whole_Int_Sign.ok:CalleeOk Tryz.prog 66 whole_Int_Sign.ce:=fn_ok (G:=whole_Int_Sign.G) jG mixed Tryz.func66 ⟨jz,jx,jn⟩ (m:=0) (by kernel_rfl) trivial (by kernel_rfl) (fun _=>by kernel_rfl)
def whole_Int_Neg (a:YD):Option YD:=
 bnd (whole_made (!a.1) a.2) fun y=>
 some (y.1,y.2)
def whole_Int_Neg.ce:Go.Ql.Callee:=⟨[(.st (.pair .bool (.sl (.int .u32))))],[(.st (.pair .bool (.sl (.int .u32))))],fun X=>whole_Int_Neg X⟩
def whole_Int_Neg.G:Env:=⟨9,tab,[(67,whole_made.ce)],[0,1,2],[],[],[],[],jy⟩
theorem whole_Int_Neg.ok:CalleeOk Tryz.prog 74 whole_Int_Neg.ce:=fn_ok (G:=whole_Int_Neg.G) jG mixed Tryz.func74 ⟨(jj whole_made.ok jz),jx,jn⟩ (m:=0) (by kernel_rfl) trivial (by kernel_rfl) (fun _=>by kernel_rfl)
def whole_Int_Sub.c1 (a0:Bool)(a1:List Int)(b0:Bool)(b1:List Int)(Z:YD→Option ρ):Option ρ:=
 bnd (whole_Int_Neg (b0,b1)) fun y=>
 bnd (whole_Int_Add (a0,a1) y) fun y1=>
 Z (y1.1,y1.2)
def whole_Int_Sub.c1s:Shape:=⟨[(0,ff40),(1,ff40),(2,ff2),(3,ff12),(4,ff6)],[(2,ff29),(3,ff29),(4,ff29)]⟩
def whole_Int_Sub.c1r:Ck:=Ck.of (T:=YD) whole_Int_Sub.c1s (fun ρ X Z=>whole_Int_Sub.c1 X.2.2.1 X.2.2.2.1 (q4 X).1 (q4 X).2.1 Z) (fun ρ X V Z=>Z 0 (Shape.inj whole_Int_Sub.c1s (X.1,X.2.1,X.2.2.1,X.2.2.2.1,(q4 X).1,(q4 X).2.1,V.1,V.2,())))
def whole_Int_Sub (a:YD) (b:YD):Option YD:=
 bnd (whole_Int_Sub.c1 a.1 a.2 b.1 b.2 some) fun y=>
 some (y.1,y.2)
def whole_Int_Sub.ce:Go.Ql.Callee:=⟨[(.st (.pair .bool (.sl (.int .u32)))),(.st (.pair .bool (.sl (.int .u32))))],[(.st (.pair .bool (.sl (.int .u32))))],fun X=>whole_Int_Sub X.1 X.2⟩
def whole_Int_Sub.G:Env:=⟨9,tab,[(74,whole_Int_Neg.ce),(75,whole_Int_Add.ce)],[0,1,2,3,4],[],[(1,[⟨[],[],[6,7],[]⟩,⟨[],[],[5],[]⟩,⟨[1],[],[5],[]⟩,⟨[0,2,1],[],[],[]⟩,⟨[3,0,2,1],[4],[],[]⟩])],[(1,whole_Int_Sub.c1r)],[],jy⟩
theorem whole_Int_Sub.p0:PcA whole_Int_Sub.G Tryz.f91 0:=
 js (s:=whole_Int_Sub.c1r) (by kernel_rfl) (by kernel_rfl) (jq (sh:=whole_Int_Sub.c1s) (fun ρ X Z=>(jb fun _=>(jb fun _=>jc))) (fun ρ X t k=>(by kernel_rfl)) (fun X=>by kernel_rfl))
theorem whole_Int_Sub.ok:CalleeOk Tryz.prog 91 whole_Int_Sub.ce:=fn_ok (G:=whole_Int_Sub.G) jG mixed Tryz.func91 ⟨(jj whole_Int_Neg.ok (jj whole_Int_Add.ok jz)),jx,jn⟩ (m:=1) (by kernel_rfl) ⟨trivial,whole_Int_Sub.p0⟩ (by kernel_rfl) (fun _=>by kernel_rfl)
abbrev ff44:SO:=.box [.val .bool,.val (.sl (.int .u32)),.val .bool,.val (.sl (.int .u32))]
def whole_lowest.c5 (a0:Bool)(a1:List Int)(b0:Bool)(b1:List Int)(Z:Bool×(List Int)×YD→Option ρ):Option ρ:=
 bnd (whole_Int_Neg (a0,a1)) fun y=>
 bnd (whole_Int_Neg (b0,b1)) fun y1=>
 Z (y.1,y.2,y1.1,y1.2)
def whole_lowest.c5s:Shape:=⟨[(0,ff40),(1,ff40),(2,ff2),(3,ff12),(4,ff6),(5,ff41)],[(2,ff29),(3,ff29),(4,ff44),(5,ff29)]⟩
def whole_lowest.c5r:Ck:=Ck.of (T:=Bool×(List Int)×YD) whole_lowest.c5s (fun ρ X Z=>whole_lowest.c5 X.2.2.1 X.2.2.2.1 (q4 X).1 (q4 X).2.1 Z) (fun ρ X V Z=>Z 0 (Shape.inj whole_lowest.c5s (X.1,X.2.1,V.1,V.2.1,V.2.2.1,V.2.2.2,(q4 X).2.2)))
def whole_lowest.cv_ (a0:Bool)(a1:List Int)(b0:Bool)(b1:List Int)(Z:Bool×(List Int)×YD→Option ρ):Option ρ:=
 bnd (whole_Int_Sign (b0,b1)) fun y=>
 br (decide (y<(0:Int)))
 (bnd (whole_lowest.c5 a0 a1 b0 b1 some) fun y1=>
 Z (y1.1,y1.2.1,y1.2.2.1,y1.2.2.2))
 (Z (a0,a1,b0,b1))
def whole_lowest.cv_r:Ck:=Ck.of (T:=Bool×(List Int)×YD) whole_lowest.c5s (fun ρ X Z=>whole_lowest.cv_ X.2.2.1 X.2.2.2.1 (q4 X).1 (q4 X).2.1 Z) (fun ρ X V Z=>Z 0 (Shape.inj whole_lowest.c5s (X.1,X.2.1,V.1,V.2.1,V.2.2.1,V.2.2.2,(q4 X).2.2)))
def whole_lowest.c6 (b0:Bool)(b1:List Int)(Z:YD→Option ρ):Option ρ:=
 bnd (whole_Of (1:Int)) fun y=>
 bnd (whole_Int_Sub (b0,b1) y) fun y1=>
 Z (y1.1,y1.2)
def whole_lowest.c6r:Ck:=Ck.of (T:=YD) whole_lowest.c5s (fun ρ X Z=>whole_lowest.c6 (q4 X).1 (q4 X).2.1 Z) (fun ρ X V Z=>Z 0 (Shape.inj whole_lowest.c5s (X.1,X.2.1,X.2.2.1,X.2.2.2.1,(q4 X).1,(q4 X).2.1,X.2.2.1,X.2.2.2.1,V.1,V.2,(q8 X).2.2)))
def whole_lowest (a:YD) (b:YD):Option (YD×YD):=
 bnd (whole_Gcd (a.1,a.2) (b.1,b.2)) fun y=>
 bnd (whole_Int_Div (a.1,a.2) (y.1,y.2)) fun y1=>
 bnd (whole_Int_Div (b.1,b.2) (y.1,y.2)) fun y2=>
 bnd (whole_lowest.cv_ y1.1.1 y1.1.2 y2.1.1 y2.1.2 some) fun y3=>
 bnd (whole_lowest.c6 y3.2.2.1 y3.2.2.2 some) fun y4=>
 some ((y3.1,y3.2.1),y4.1,y4.2)
def whole_lowest.ce:Go.Ql.Callee:=⟨[(.st (.pair .bool (.sl (.int .u32)))),(.st (.pair .bool (.sl (.int .u32))))],[(.st (.pair (.st (.pair .bool (.sl (.int .u32)))) (.st (.pair .bool (.sl (.int .u32))))))],fun X=>whole_lowest X.1 X.2⟩
def whole_lowest.G:Env:=⟨35,tab,[(89,whole_Gcd.ce),(90,whole_Int_Div.ce),(66,whole_Int_Sign.ce),(74,whole_Int_Neg.ce),(17,whole_Of.ce),(91,whole_Int_Sub.ce)],[0,1,2,3,4,5,25],[],[(6,[⟨[],[],[31,32,33],[]⟩,⟨[],[],[30,32],[]⟩,⟨[],[],[30,31],[]⟩,⟨[1,2],[],[30],[]⟩,⟨[0,3,1,2],[],[],[]⟩,⟨[4,0,3,1,2],[4],[],[]⟩]),
 (5,[⟨[],[],[28],[]⟩,⟨[0],[],[28],[]⟩,⟨[],[],[26,27],[]⟩,⟨[2,1,0],[],[],[]⟩,⟨[1,0,3,2],[2],[],[]⟩,⟨[3,2,1,0,4],[3],[],[]⟩])],[(6,whole_lowest.c6r),(216389,whole_lowest.cv_r),(5,whole_lowest.c5r)],[],jy⟩
theorem whole_lowest.p0:PcA whole_lowest.G Tryz.f65 0:=
 JE (s:=whole_lowest.cv_r) (by kernel_rfl) (by kernel_rfl) (jq (sh:=whole_lowest.c5s) (fun ρ X Z=>(jb fun _=>(jl (jb fun _=>jc) jc))) (fun ρ X t k=>(by kernel_rfl)) (fun X=>by kernel_rfl))
theorem whole_lowest.p1:PcA whole_lowest.G Tryz.f65 1:=
 js (s:=whole_lowest.c5r) (by kernel_rfl) (by kernel_rfl) (jq (sh:=whole_lowest.c5s) (fun ρ X Z=>(jb fun _=>(jb fun _=>jc))) (fun ρ X t k=>(by kernel_rfl)) (fun X=>by kernel_rfl))
theorem whole_lowest.p2:PcA whole_lowest.G Tryz.f65 2:=
 js (s:=whole_lowest.c6r) (by kernel_rfl) (by kernel_rfl) (jq (sh:=whole_lowest.c5s) (fun ρ X Z=>(jb fun _=>(jb fun _=>jc))) (fun ρ X t k=>(by kernel_rfl)) (fun X=>by kernel_rfl))
theorem whole_lowest.ok:CalleeOk Tryz.prog 65 whole_lowest.ce:=fn_ok (G:=whole_lowest.G) jG mixed Tryz.func65 ⟨(jj whole_Gcd.ok (jj whole_Int_Div.ok (jj whole_Int_Sign.ok (jj whole_Int_Neg.ok (jj whole_Of.ok (jj whole_Int_Sub.ok jz)))))),jx,jn⟩ (m:=3) (by kernel_rfl) ⟨⟨⟨trivial,whole_lowest.p0⟩,whole_lowest.p1⟩,whole_lowest.p2⟩ (by kernel_rfl) (fun _=>by kernel_rfl)
def Jo.pre:Shape:=⟨[(0,ff25)],[]⟩
def Jo.post:Shape:=⟨[(0,ff31)],[(0,ff28)]⟩
def Jo (s:List Int):Option ((List Int)×Unit):=
 br (List.isEmpty s)
 (both
 (some ([],()))
 (bnd (okIf (decide (((0:Nat)+List.length s)*(4:Nat)≤(140737488355328:Nat))&&decide ((0:Nat)+List.length s≤(140737488355328:Nat)))) fun y=>
 some (s,())))
 (bnd (okIf (decide (((0:Nat)+List.length s)*(4:Nat)≤(140737488355328:Nat))&&decide ((0:Nat)+List.length s≤(140737488355328:Nat)))) fun y1=>
 some (s,()))
def Jo.mc:MCallee:=⟨96,Jo.pre,Jo.post,fun X=>Jo X.1⟩
def Jo.G:Env:=⟨8,tab,[],[0,2,4],[2,5],[],[],[],jy⟩
theorem Jo.ok:MOk Tryz.prog 96 Jo.mc:=YW (mc:=Jo.mc) (G:=Jo.G) jG mixed Tryz.func96 ⟨jz,jx,jn⟩ (m:=0) (by kernel_rfl) trivial (by kernel_rfl) (fun _=>by kernel_rfl)
abbrev ff45:SO:=.arr 0 false 5 (.int .u8)
def jt.pre:Shape:=⟨[(0,ff14)],[(2000000,ff45)]⟩
def jt.post:Shape:=⟨[],[(2000000,ff45)]⟩
def jt.c3 (i:Int)(j:Int)(ua:List Int)(Z:List Int→Option ρ):Option ρ:=
 bnd (inR (List.length ua) j) fun y=>
 bnd (idx ua j) fun y1=>
 bnd (inR (List.length ua) i) fun y2=>
 bnd (idx ua i) fun y3=>
 bnd (inR (List.length ua) i) fun y4=>
 bnd (idx ua i) fun y5=>
 bnd (inR (List.length (List.set ua (Int.toNat i) y1)) j) fun y6=>
 bnd (idx (List.set ua (Int.toNat i) y1) j) fun y7=>
 Z (List.set (List.set ua (Int.toNat i) y1) (Int.toNat j) y3)
def jt.c3s:Shape:=⟨[(0,ff14),(2,ff5),(3,ff5)],[(2000000,ff45)]⟩
def jt.c3r:Ck:=Ck.of (T:=List Int) jt.c3s (fun ρ X Z=>jt.c3 X.1 X.2.1 X.2.2.1 Z) (fun ρ X V Z=>Z 0 (Shape.inj jt.c3s (X.1,X.2.1,V,())))
def jt.cj_ (i:Int)(j:Int)(ua:List Int)(Z:(Int×Int×(List Int))⊕(Int×Int×(List Int))→Option ρ):Option ρ:=
 br (decide (i<j))
 (bnd (jt.c3 i j ua some) fun y=>
 Z (.inl ((IntKind.i64.wrap (i+(1:Int))),(IntKind.i64.wrap (j-(1:Int))),y)))
 (Z (.inr (i,j,ua)))
def jt.cj_r:Ck:=Ck.ofLoop (S:=Int×Int×(List Int)) (T:=Int×Int×(List Int)) jt.c3s (fun X=>(X.1,X.2.1,X.2.2.1)) (fun ρ X Q Z=>jt.cj_ Q.1 Q.2.1 Q.2.2 Z) (fun ρ X V Z=>Z 2 (Shape.inj jt.c3s (V.1,V.2.1,V.2.2,())))
def jt (ua:List Int):Option ((List Int)×Unit):=
 bnd (iter (fun s↦jt.cj_ s.1 s.2.1 s.2.2 some) ((0:Int),IntKind.i64.wrap ((↑(List.length ua):Int)-(1:Int)),ua)) fun y=>
 some (y.2.2,())
def jt.mc:MCallee:=⟨97,jt.pre,jt.post,fun X=>jt X.1⟩
def jt.G:Env:=⟨28,tab,[],[0,2,3,9],[2000000],[(3,[⟨[],[],[15,16,17,18,19,20,21,22,23,24,25],[]⟩,⟨[],[],[14,16,17,18,19,20,21,22,23,24,25],[]⟩,⟨[],[],[14,15,17,18,19,20,21,22,23,24,25,26],[2000000]⟩,⟨[],[],[14,15,16,18,19,20,21,22,23,24,25,26],[2000000]⟩,⟨[],[],[14,15,16,17,19,22,23,24,25],[]⟩,⟨[],[],[14,15,16,17,18,22,23,24,25],[]⟩,⟨[4,5],[],[14,15,16,17,22,23,24,25],[]⟩,⟨[6,4,5],[],[14,15,16,17,22,23,24,25],[]⟩,⟨[],[],[14,15,16,17,18,19,20,21,23],[]⟩,⟨[],[],[14,15,16,17,18,19,20,21,22],[]⟩,⟨[8,9],[],[14,15,16,17,18,19,20,21],[]⟩,⟨[10,8,9],[],[14,15,16,17,18,19,20,21],[]⟩,⟨[0,1,4,5,6,7,11,10,8,9],[],[16,17],[]⟩,⟨[12,0,1,4,5,6,7,11,10,8,9],[2000000],[16,17],[]⟩,⟨[2,3,0,1,4,5,6,7,8,9,10,11,12,13],[],[],[]⟩,⟨[14,2,3,0,1,4,5,6,7,8,9,10,11,12,13],[2000000],[],[]⟩])],[(100001,jt.cj_r),(3,jt.c3r)],[],jy⟩
theorem jt.p0:PcA jt.G Tryz.f97 0:=
 jW (s:=jt.cj_r) (by kernel_rfl) (by kernel_rfl) (jT (sh:=jt.c3s) (I:=fun X Q=>(Q.1,Q.2.1,Q.2.2,())) (fun X=>rfl) (fun ρ X Q Z=>(jl (jb fun _=>jc) jc)) (fun ρ X t k=>(by kernel_rfl)) (fun X s=>by kernel_rfl))
theorem jt.p1:PcA jt.G Tryz.f97 1:=
 js (s:=jt.c3r) (by kernel_rfl) (by kernel_rfl) (jq (sh:=jt.c3s) (fun ρ X Z=>(jb fun _=>(jb fun _=>(jb fun _=>(jb fun _=>(jb fun _=>(jb fun _=>(jb fun _=>(jb fun _=>jc))))))))) (fun ρ X t k=>(by kernel_rfl)) (fun X=>by kernel_rfl))
theorem jt.ok:MOk Tryz.prog 97 jt.mc:=YW (mc:=jt.mc) (G:=jt.G) jG mixed Tryz.func97 ⟨jz,jx,jn⟩ (m:=2) (by kernel_rfl) ⟨⟨trivial,jt.p0⟩,jt.p1⟩ (by kernel_rfl) (fun _=>by kernel_rfl)
end
end W
end
