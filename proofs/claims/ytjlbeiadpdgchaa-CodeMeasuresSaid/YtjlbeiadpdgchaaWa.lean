/- Lifted functions, part 1: each with its contract. -/
import Derived.Test.YtjlbeiadpdgchaaCa
import Derived.Test.YtjlbeiadpdgchaaProg
set_option linter.all false
section
set_option maxHeartbeats 4000000
set_option maxRecDepth 100000
namespace W
open Go Go.Ql Go.Proofs
noncomputable section
variable {ρ:Type}
abbrev tb0:SD:=.one (.val (.st (.pair (.int .i64) (.sl .str))))
abbrev tb1:SD:=.one (.ref 1 0)
abbrev tb2:SD:=.one (.ref 2 0)
abbrev tb3:SO:=.box [.val (.int .i64),.val (.sl .str)]
abbrev q4 {a b c d e:Type} (x:a×b×c×d×e):e:=x.2.2.2.2
abbrev q8 {a b c d e f g h i:Type} (x:a×b×c×d×e×f×g×h×i):i:=x.2.2.2.2.2.2.2.2
abbrev YO:=Int×(Int×((List Int)×(Int×(Int×(List Int)))))
abbrev YD:=(Bool)×(List Int)
abbrev YP:=Int×(Int×(Bool))
abbrev YN:=(List YD)×Int
def Jz.c1 (c1:List (List UInt8))(Z:Unit→Option ρ):Option ρ:=
 bnd (okIf (decide (((0:Nat)+List.length c1)*(16:Nat)≤(140737488355328:Nat))&&decide ((0:Nat)+List.length c1≤(140737488355328:Nat)))) fun y=>
 Z ()
def Jz.c1s:Shape:=⟨[(0,tb0),(1,tb1),(2,tb2)],[(1,tb3),(2,tb3)]⟩
def Jz.c1r:Ck:=Ck.of (T:=Unit) Jz.c1s (fun ρ X Z=>Jz.c1 X.2.2.1 Z) (fun ρ X V Z=>Z 0 (Shape.inj Jz.c1s (X.1,X.2.1,X.2.2.1,X.2.1,X.2.2.1,())))
def Jz (c:Int×(List (List UInt8))):Option (Int×(List (List UInt8))):=
 bnd (Jz.c1 c.2 some) fun y=>
 some (c.1,c.2)
def Jz.ce:Go.Ql.Callee:=⟨[(.st (.pair (.int .i64) (.sl .str)))],[(.st (.pair (.int .i64) (.sl .str)))],fun X=>Jz X⟩
def Jz.G:Env:=⟨9,tab,[],[0,1,2],[],[(1,[⟨[],[],[5,6,7],[7]⟩,⟨[0],[],[5,6,7],[7]⟩,⟨[],[],[3,4],[]⟩,⟨[2],[],[3,4],[]⟩,⟨[3,2],[7],[3,4],[]⟩,⟨[1,0,4,3,2],[],[],[]⟩,⟨[5,1,0,4,3,2],[2],[],[]⟩])],[(1,Jz.c1r)],[],Jd⟩
theorem Jz.p0:PcA Jz.G Try.f28 0:=
 jB (s:=Jz.c1r) (by kernel_rfl) (by kernel_rfl) (jC (sh:=Jz.c1s) (fun ρ X Z=>(je fun _=>jd)) (fun ρ X t k=>(by kernel_rfl)) (fun X=>by kernel_rfl))
theorem Jz.ok:CalleeOk Try.prog 28 Jz.ce:=fn_ok (G:=Jz.G) Jn mixed Try.func28 ⟨Je,jY,jN⟩ (m:=1) (by kernel_rfl) ⟨trivial,Jz.p0⟩ (by kernel_rfl) (fun _=>by kernel_rfl)
abbrev tb4:SD:=.one (.val .str)
abbrev tb5:SD:=.one (.val (.int .i64))
abbrev tb6:SD:=.one (.ref 4 0)
abbrev tb7:SD:=.one (.val .bool)
abbrev tb8:SD:=.one (.ref 6 0)
abbrev tb9:SO:=.box [.val (.int .u64),.val (.int .u64),.val .bool]
def jE.c2 (s:List UInt8)(n:Int)(Z:Bool→Option ρ):Option ρ:=
 br ((↑(List.length s):Int) !=IntKind.i64.wrap (n+(1:Int)))
 (Z true)
 (bnd (idx s (0:Int)) fun y=>
 br ((↑(UInt8.toNat y):Int) !=(43:Int))
 (bnd (idx s (0:Int)) fun y1=>
 Z ((↑(UInt8.toNat y1):Int) !=(45:Int)))
 (Z false))
def jE.c2s:Shape:=⟨[(0,tb4),(1,tb5),(4,tb6),(5,tb7),(6,tb8)],[(4,tb9),(6,tb9)]⟩
def jE.c2x0:Shape:=⟨[(0,tb4),(1,tb5),(4,tb6),(5,tb7),(6,tb8),(23,tb7)],[(4,tb9),(6,tb9)]⟩
def jE.c2r:Ck:=Ck.of (T:=Bool) jE.c2s (fun ρ X Z=>jE.c2 X.1 X.2.1 Z) (fun ρ X V Z=>Z 0 (Shape.inj jE.c2x0 (X.1,X.2.1,X.2.2.1,V,X.2.2.2)))
def jE.c11 (q:Int)(Z:Unit→Option ρ):Option ρ:=
 bnd (okIf (decide ((0:Int)≤q))) fun y=>
 Z ()
def jE.c11s:Shape:=⟨[(0,tb4),(1,tb5),(4,tb6),(5,tb7),(6,tb8),(7,tb5),(8,tb5),(29,tb5),(30,tb5)],[(4,tb9),(6,tb9)]⟩
def jE.c11r:Ck:=Ck.of (T:=Unit) jE.c11s (fun ρ X Z=>jE.c11 X.2.2.2.1 Z) (fun ρ X V Z=>Z 0 (Shape.inj jE.c11s (X.1,X.2.1,X.2.2.1,X.2.2.2.1,(q4 X).1,(q4 X).2.1,(q4 X).2.2.1,(q4 X).2.2.2.1,(q8 X).1,(q8 X).2.1,(ibits BinOp.or IntKind.u64 (q8 X).2.2.1 (IntKind.u64.wrap (IntKind.u64.wrap (ibits BinOp.and IntKind.i64 (q4 X).1 (1:Int))*(2:Int)^Min.min (Int.toNat X.2.2.2.1) (64:Nat)))),(q8 X).2.2.2)))
def jE.c12 (q:Int)(Z:Unit→Option ρ):Option ρ:=
 bnd (okIf (decide ((0:Int)≤q))) fun y=>
 Z ()
def jE.c12r:Ck:=Ck.of (T:=Unit) jE.c11s (fun ρ X Z=>jE.c12 X.2.2.2.1 Z) (fun ρ X V Z=>Z 0 (Shape.inj jE.c11s (X.1,X.2.1,X.2.2.1,X.2.2.2.1,(q4 X).1,(q4 X).2.1,(q4 X).2.2.1,(q4 X).2.2.2.1,(q8 X).1,(q8 X).2.1,(q8 X).2.2.1,(ibits BinOp.or IntKind.u64 (q8 X).2.2.2.1 (IntKind.u64.wrap (IntKind.u64.wrap (Int.fdiv (q4 X).1 ((2:Int)^(1:Nat)))*(2:Int)^Min.min (Int.toNat X.2.2.2.1) (64:Nat)))),(q4 (q8 X)))))
def jE.ch_ (s:List UInt8)(t29:Int)(t30:Int)(p0:Int)(p1:Int)(Z:(Int×Int×Int)⊕((Int×Int×Int×Int×Int)⊕(Int×Int×Int))→Option ρ):Option ρ:=
 br (decide (t30<t29))
 (bnd (idx s (IntKind.i64.wrap (t30+(1:Int)))) fun y=>
 bnd (kC (Array.toList (ByteArray.data (ByteArray.mk #[73,88,90,89]))) (↑(UInt8.toNat y):Int)) fun y1=>
 br (decide (y1<(0:Int)))
 (Z (.inr (.inl (t30,p0,p1,p0,p1))))
 (bnd (jE.c11 t30 some) fun y2=>
 bnd (jE.c12 t30 some) fun y3=>
 Z (.inl ((IntKind.i64.wrap (t30+(1:Int))),(ibits BinOp.or IntKind.u64 p0 (IntKind.u64.wrap (IntKind.u64.wrap (ibits BinOp.and IntKind.i64 y1 (1:Int))*(2:Int)^Min.min (Int.toNat t30) (64:Nat)))),(ibits BinOp.or IntKind.u64 p1 (IntKind.u64.wrap (IntKind.u64.wrap (Int.fdiv y1 ((2:Int)^(1:Nat)))*(2:Int)^Min.min (Int.toNat t30) (64:Nat))))))))
 (Z (.inr (.inr (t30,p0,p1))))
def jE.ch_s:Shape:=⟨[(0,tb4),(1,tb5),(4,tb6),(5,tb7),(6,tb8),(29,tb5),(30,tb5)],[(4,tb9),(6,tb9)]⟩
def jE.ch_r:Ck:=Ck.ofLoop (S:=Int×Int×Int) (T:=(Int×Int×Int×Int×Int)⊕(Int×Int×Int)) jE.ch_s (fun X=>((q4 X).1,(q8 X).1,(q8 X).2.1)) (fun ρ X Q Z=>jE.ch_ X.1 X.2.2.2.1 Q.1 Q.2.1 Q.2.2 Z) (fun ρ X V Z=>sel V (fun V=>Z 1 (Shape.inj jE.ch_s (X.1,X.2.1,false,X.2.2.2.1,V.1,V.2.1,V.2.2.1,(q8 X).2.2.1,V.2.2.2.1,V.2.2.2.2,(q8 X).2.2))) (fun V=>Z 2 (Shape.inj jE.ch_s (X.1,X.2.1,X.2.2.1,X.2.2.2.1,V.1,(q4 X).2.1,(q4 X).2.2.1,(q4 X).2.2.2.1,V.2.1,V.2.2,(q8 X).2.2))))
def jE (s:List UInt8) (n:Int):Option (YP×Bool):=
 bnd (jE.c2 s n some) fun y=>
 br y
 (some (((0:Int),(0:Int),false),false))
 (bnd (idx s (0:Int)) fun y1=>
 bnd (iter (fun s_1↦jE.ch_ s n s_1.1 s_1.2.1 s_1.2.2 some) ((0:Int),(0:Int),(0:Int))) fun y2=>
 sel y2
 (fun u=>some ((u.2.1,u.2.2.1,(↑(UInt8.toNat y1):Int)==(45:Int)),false))
 (fun v=>some ((v.2.1,v.2.2,(↑(UInt8.toNat y1):Int)==(45:Int)),true)))
def jE.ce:Go.Ql.Callee:=⟨[.str,(.int .i64)],[(.st (.pair (.int .u64) (.pair (.int .u64) .bool))),.bool],fun X=>jE X.1 X.2⟩
def jE.G:Env:=⟨61,tab,[(94,kC.ce)],[0,1,4,5,6,7,8,23,29,30,31,39],[],[(12,[⟨[],[],[52,53,54,55,56],[]⟩,⟨[0],[],[52,53,54,55,56],[]⟩,⟨[],[],[50,51,55],[]⟩,⟨[2],[],[50,51,55],[]⟩,⟨[3,2],[],[50,51,55],[]⟩,⟨[],[],[50,51,52,53,54],[]⟩,⟨[4,3,2,5],[],[50,51],[]⟩,⟨[1,0,6,4,3,2,5],[],[],[]⟩,⟨[0,1,2,3,4,5,6,7],[],[],[]⟩,⟨[8,0,1,2,3,4,5,6,7],[6],[],[]⟩]),
 (11,[⟨[],[],[43,44,45,46,47],[]⟩,⟨[0],[],[43,44,45,46,47],[]⟩,⟨[],[],[41,42,46],[]⟩,⟨[2],[],[41,42,46],[]⟩,⟨[3,2],[],[41,42,46],[]⟩,⟨[],[],[41,42,43,44,45],[]⟩,⟨[4,3,2,5],[],[41,42],[]⟩,⟨[1,0,6,4,3,2,5],[],[],[]⟩,⟨[0,1,2,3,4,5,6,7],[],[],[]⟩,⟨[8,0,1,2,3,4,5,6,7],[6],[],[]⟩])],[(100006,jE.ch_r),(12,jE.c12r),(11,jE.c11r),(2,jE.c2r)],[],Jd⟩
theorem jE.p0:PcA jE.G Try.f56 0:=
 jB (s:=jE.c2r) (by kernel_rfl) (by kernel_rfl) (jC (sh:=jE.c2s) (fun ρ X Z=>(jo jd (je fun _=>(jo (je fun _=>jd) jd)))) (fun ρ X t k=>(by kernel_rfl)) (fun X=>by kernel_rfl))
theorem jE.p1:PcA jE.G Try.f56 1:=
 Jo (s:=jE.ch_r) (by kernel_rfl) (by kernel_rfl) (Jg (sh:=jE.ch_s) (I:=fun X Q=>(X.1,X.2.1,X.2.2.1,X.2.2.2.1,Q.1,(q4 X).2.1,(q4 X).2.2.1,(q4 X).2.2.2.1,Q.2.1,Q.2.2,(q8 X).2.2)) (fun X=>rfl) (fun ρ X Q Z=>(jo (je fun _=>(je fun _=>(jo jd (je fun _=>(je fun _=>jd))))) jd)) (fun ρ X t k=>(JU (fun _=>(by kernel_rfl)) (fun _=>(by kernel_rfl)))) (fun X s=>by kernel_rfl))
theorem jE.p2:PcA jE.G Try.f56 2:=
 jB (s:=jE.c11r) (by kernel_rfl) (by kernel_rfl) (jC (sh:=jE.c11s) (fun ρ X Z=>(je fun _=>jd)) (fun ρ X t k=>(by kernel_rfl)) (fun X=>by kernel_rfl))
theorem jE.p3:PcA jE.G Try.f56 3:=
 jB (s:=jE.c12r) (by kernel_rfl) (by kernel_rfl) (jC (sh:=jE.c11s) (fun ρ X Z=>(je fun _=>jd)) (fun ρ X t k=>(by kernel_rfl)) (fun X=>by kernel_rfl))
theorem jE.ok:CalleeOk Try.prog 56 jE.ce:=fn_ok (G:=jE.G) Jn mixed Try.func56 ⟨(jX kC.ok Je),jY,jN⟩ (m:=4) (by kernel_rfl) ⟨⟨⟨⟨trivial,jE.p0⟩,jE.p1⟩,jE.p2⟩,jE.p3⟩ (by kernel_rfl) (fun _=>by kernel_rfl)
def JP (s:List UInt8) (n:Int):Option (YP×Bool):=
 bnd (jE s n) fun y=>
 some ((y.1.1,y.1.2.1,y.1.2.2),y.2)
def JP.ce:Go.Ql.Callee:=⟨[.str,(.int .i64)],[(.st (.pair (.int .u64) (.pair (.int .u64) .bool))),.bool],fun X=>JP X.1 X.2⟩
def JP.G:Env:=⟨11,tab,[(56,jE.ce)],[0,1,4,5],[],[],[],[],Jd⟩
theorem JP.ok:CalleeOk Try.prog 106 JP.ce:=fn_ok (G:=JP.G) Jn mixed Try.func106 ⟨(jX jE.ok Je),jY,jN⟩ (m:=0) (by kernel_rfl) trivial (by kernel_rfl) (fun _=>by kernel_rfl)
abbrev tb10:SD:=.one (.val (.int .u32))
def Jp.c1 (x:Int)(Z:Int→Option ρ):Option ρ:=
 bnd (idx (Array.toList (ByteArray.data (ByteArray.mk (List.toArray (List.append (List.append [0,1,1,2,1,2,2,3,1,2,2,3,2,3,3,4,1,2,2,3,2,3,3,4,2,3,3,4,3,4,4,5,1,2,2,3,2,3,3,4,2,3,3,4,3,4,4,5,2,3,3,4,3,4,4,5,3,4,4,5,4,5,5,6] [1,2,2,3,2,3,3,4,2,3,3,4,3,4,4,5,2,3,3,4,3,4,4,5,3,4,4,5,4,5,5,6,2,3,3,4,3,4,4,5,3,4,4,5,4,5,5,6,3,4,4,5,4,5,5,6,4,5,5,6,5,6,6,7]) (List.append [1,2,2,3,2,3,3,4,2,3,3,4,3,4,4,5,2,3,3,4,3,4,4,5,3,4,4,5,4,5,5,6,2,3,3,4,3,4,4,5,3,4,4,5,4,5,5,6,3,4,4,5,4,5,5,6,4,5,5,6,5,6,6,7] [2,3,3,4,3,4,4,5,3,4,4,5,4,5,5,6,3,4,4,5,4,5,5,6,4,5,5,6,5,6,6,7,3,4,4,5,4,5,5,6,4,5,5,6,5,6,6,7,4,5,5,6,5,6,6,7,5,6,6,7,6,7,7,8])))))) (Int.fdiv x ((2:Int)^(24:Nat)))) fun y=>
 bnd (idx (Array.toList (ByteArray.data (ByteArray.mk (List.toArray (List.append (List.append [0,1,1,2,1,2,2,3,1,2,2,3,2,3,3,4,1,2,2,3,2,3,3,4,2,3,3,4,3,4,4,5,1,2,2,3,2,3,3,4,2,3,3,4,3,4,4,5,2,3,3,4,3,4,4,5,3,4,4,5,4,5,5,6] [1,2,2,3,2,3,3,4,2,3,3,4,3,4,4,5,2,3,3,4,3,4,4,5,3,4,4,5,4,5,5,6,2,3,3,4,3,4,4,5,3,4,4,5,4,5,5,6,3,4,4,5,4,5,5,6,4,5,5,6,5,6,6,7]) (List.append [1,2,2,3,2,3,3,4,2,3,3,4,3,4,4,5,2,3,3,4,3,4,4,5,3,4,4,5,4,5,5,6,2,3,3,4,3,4,4,5,3,4,4,5,4,5,5,6,3,4,4,5,4,5,5,6,4,5,5,6,5,6,6,7] [2,3,3,4,3,4,4,5,3,4,4,5,4,5,5,6,3,4,4,5,4,5,5,6,4,5,5,6,5,6,6,7,3,4,4,5,4,5,5,6,4,5,5,6,5,6,6,7,4,5,5,6,5,6,6,7,5,6,6,7,6,7,7,8])))))) (ibits BinOp.and IntKind.u32 (Int.fdiv x ((2:Int)^(16:Nat))) (255:Int))) fun y1=>
 bnd (idx (Array.toList (ByteArray.data (ByteArray.mk (List.toArray (List.append (List.append [0,1,1,2,1,2,2,3,1,2,2,3,2,3,3,4,1,2,2,3,2,3,3,4,2,3,3,4,3,4,4,5,1,2,2,3,2,3,3,4,2,3,3,4,3,4,4,5,2,3,3,4,3,4,4,5,3,4,4,5,4,5,5,6] [1,2,2,3,2,3,3,4,2,3,3,4,3,4,4,5,2,3,3,4,3,4,4,5,3,4,4,5,4,5,5,6,2,3,3,4,3,4,4,5,3,4,4,5,4,5,5,6,3,4,4,5,4,5,5,6,4,5,5,6,5,6,6,7]) (List.append [1,2,2,3,2,3,3,4,2,3,3,4,3,4,4,5,2,3,3,4,3,4,4,5,3,4,4,5,4,5,5,6,2,3,3,4,3,4,4,5,3,4,4,5,4,5,5,6,3,4,4,5,4,5,5,6,4,5,5,6,5,6,6,7] [2,3,3,4,3,4,4,5,3,4,4,5,4,5,5,6,3,4,4,5,4,5,5,6,4,5,5,6,5,6,6,7,3,4,4,5,4,5,5,6,4,5,5,6,5,6,6,7,4,5,5,6,5,6,6,7,5,6,6,7,6,7,7,8])))))) (ibits BinOp.and IntKind.u32 (Int.fdiv x ((2:Int)^(8:Nat))) (255:Int))) fun y2=>
 bnd (idx (Array.toList (ByteArray.data (ByteArray.mk (List.toArray (List.append (List.append [0,1,1,2,1,2,2,3,1,2,2,3,2,3,3,4,1,2,2,3,2,3,3,4,2,3,3,4,3,4,4,5,1,2,2,3,2,3,3,4,2,3,3,4,3,4,4,5,2,3,3,4,3,4,4,5,3,4,4,5,4,5,5,6] [1,2,2,3,2,3,3,4,2,3,3,4,3,4,4,5,2,3,3,4,3,4,4,5,3,4,4,5,4,5,5,6,2,3,3,4,3,4,4,5,3,4,4,5,4,5,5,6,3,4,4,5,4,5,5,6,4,5,5,6,5,6,6,7]) (List.append [1,2,2,3,2,3,3,4,2,3,3,4,3,4,4,5,2,3,3,4,3,4,4,5,3,4,4,5,4,5,5,6,2,3,3,4,3,4,4,5,3,4,4,5,4,5,5,6,3,4,4,5,4,5,5,6,4,5,5,6,5,6,6,7] [2,3,3,4,3,4,4,5,3,4,4,5,4,5,5,6,3,4,4,5,4,5,5,6,4,5,5,6,5,6,6,7,3,4,4,5,4,5,5,6,4,5,5,6,5,6,6,7,4,5,5,6,5,6,6,7,5,6,6,7,6,7,7,8])))))) (ibits BinOp.and IntKind.u32 x (255:Int))) fun y3=>
 Z (IntKind.i64.wrap (IntKind.wrap IntKind.u8 (IntKind.wrap IntKind.u8 (IntKind.wrap IntKind.u8 ((↑(UInt8.toNat y):Int)+(↑(UInt8.toNat y1):Int))+(↑(UInt8.toNat y2):Int))+(↑(UInt8.toNat y3):Int))))
def Jp.c1s:Shape:=⟨[(0,tb10),(2,tb5)],[]⟩
def Jp.c1r:Ck:=Ck.of (T:=Int) Jp.c1s (fun ρ X Z=>Jp.c1 X.1 Z) (fun ρ X V Z=>Z 0 (Shape.inj Jp.c1s (X.1,V,())))
def Jp (x:Int):Option Int:=
 bnd (Jp.c1 x some) fun y=>
 some y
def Jp.ce:Go.Ql.Callee:=⟨[(.int .u32)],[(.int .i64)],fun X=>Jp X⟩
def Jp.G:Env:=⟨21,tab,[],[0,2],[],[(1,[⟨[],[],[6,7,8,9,11,12,13,14,16,17,18],[]⟩,⟨[0],[],[6,7,8,9,11,12,13,14,16,17,18],[]⟩,⟨[1,0],[],[6,7,8,9,11,12,13,14,16,17,18],[]⟩,⟨[],[],[3,4,5,11,12,13,14,16,17,18],[]⟩,⟨[3],[],[3,4,5,11,12,13,14,16,17,18],[]⟩,⟨[4,3],[],[3,4,5,11,12,13,14,16,17,18],[]⟩,⟨[5,4,3],[],[3,4,5,11,12,13,14,16,17,18],[]⟩,⟨[2,1,0,6,5,4,3],[],[11,12,13,14,16,17,18],[]⟩,⟨[],[],[3,4,5,6,7,8,9,10,16,17,18],[]⟩,⟨[8],[],[3,4,5,6,7,8,9,10,16,17,18],[]⟩,⟨[9,8],[],[3,4,5,6,7,8,9,10,16,17,18],[]⟩,⟨[10,9,8],[],[3,4,5,6,7,8,9,10,16,17,18],[]⟩,⟨[7,2,1,0,6,5,4,3,11,10,9,8],[],[16,17,18],[]⟩,⟨[],[],[3,4,5,6,7,8,9,10,11,12,13,14,15],[]⟩,⟨[13],[],[3,4,5,6,7,8,9,10,11,12,13,14,15],[]⟩,⟨[14,13],[],[3,4,5,6,7,8,9,10,11,12,13,14,15],[]⟩,⟨[12,7,2,1,0,6,5,4,3,11,10,9,8,15,14,13],[],[],[]⟩,⟨[16,12,7,2,1,0,6,5,4,3,11,10,9,8,15,14,13],[],[],[]⟩,⟨[17,16,12,7,2,1,0,6,5,4,3,11,10,9,8,15,14,13],[],[],[]⟩])],[(1,Jp.c1r)],[],Jd⟩
theorem Jp.p0:PcA Jp.G Try.f135 0:=
 jB (s:=Jp.c1r) (by kernel_rfl) (by kernel_rfl) (jC (sh:=Jp.c1s) (fun ρ X Z=>(je fun _=>(je fun _=>(je fun _=>(je fun _=>jd))))) (fun ρ X t k=>(by kernel_rfl)) (fun X=>by kernel_rfl))
theorem Jp.ok:CalleeOk Try.prog 135 Jp.ce:=fn_ok (G:=Jp.G) Jn mixed Try.func135 ⟨Je,jY,jN⟩ (m:=1) (by kernel_rfl) ⟨trivial,Jp.p0⟩ (by kernel_rfl) (fun _=>by kernel_rfl)
def ka (x:Int):Option Int:=
 some (ibits BinOp.and IntKind.i64 (IntKind.i64.wrap (IntKind.u64.wrap (IntKind.u64.wrap (IntKind.u64.wrap (ibits BinOp.and IntKind.u64 (IntKind.u64.wrap (Int.fdiv (IntKind.u64.wrap (ibits BinOp.and IntKind.u64 (Int.fdiv (IntKind.u64.wrap (ibits BinOp.and IntKind.u64 (Int.fdiv x ((2:Int)^(1:Nat))) (6148914691236517205:Int)+ibits BinOp.and IntKind.u64 x (6148914691236517205:Int))) ((2:Int)^(2:Nat))) (3689348814741910323:Int)+ibits BinOp.and IntKind.u64 (IntKind.u64.wrap (ibits BinOp.and IntKind.u64 (Int.fdiv x ((2:Int)^(1:Nat))) (6148914691236517205:Int)+ibits BinOp.and IntKind.u64 x (6148914691236517205:Int))) (3689348814741910323:Int))) ((2:Int)^(4:Nat))+IntKind.u64.wrap (ibits BinOp.and IntKind.u64 (Int.fdiv (IntKind.u64.wrap (ibits BinOp.and IntKind.u64 (Int.fdiv x ((2:Int)^(1:Nat))) (6148914691236517205:Int)+ibits BinOp.and IntKind.u64 x (6148914691236517205:Int))) ((2:Int)^(2:Nat))) (3689348814741910323:Int)+ibits BinOp.and IntKind.u64 (IntKind.u64.wrap (ibits BinOp.and IntKind.u64 (Int.fdiv x ((2:Int)^(1:Nat))) (6148914691236517205:Int)+ibits BinOp.and IntKind.u64 x (6148914691236517205:Int))) (3689348814741910323:Int)))) (1085102592571150095:Int)+Int.fdiv (ibits BinOp.and IntKind.u64 (IntKind.u64.wrap (Int.fdiv (IntKind.u64.wrap (ibits BinOp.and IntKind.u64 (Int.fdiv (IntKind.u64.wrap (ibits BinOp.and IntKind.u64 (Int.fdiv x ((2:Int)^(1:Nat))) (6148914691236517205:Int)+ibits BinOp.and IntKind.u64 x (6148914691236517205:Int))) ((2:Int)^(2:Nat))) (3689348814741910323:Int)+ibits BinOp.and IntKind.u64 (IntKind.u64.wrap (ibits BinOp.and IntKind.u64 (Int.fdiv x ((2:Int)^(1:Nat))) (6148914691236517205:Int)+ibits BinOp.and IntKind.u64 x (6148914691236517205:Int))) (3689348814741910323:Int))) ((2:Int)^(4:Nat))+IntKind.u64.wrap (ibits BinOp.and IntKind.u64 (Int.fdiv (IntKind.u64.wrap (ibits BinOp.and IntKind.u64 (Int.fdiv x ((2:Int)^(1:Nat))) (6148914691236517205:Int)+ibits BinOp.and IntKind.u64 x (6148914691236517205:Int))) ((2:Int)^(2:Nat))) (3689348814741910323:Int)+ibits BinOp.and IntKind.u64 (IntKind.u64.wrap (ibits BinOp.and IntKind.u64 (Int.fdiv x ((2:Int)^(1:Nat))) (6148914691236517205:Int)+ibits BinOp.and IntKind.u64 x (6148914691236517205:Int))) (3689348814741910323:Int)))) (1085102592571150095:Int)) ((2:Int)^(8:Nat)))+Int.fdiv (IntKind.u64.wrap (ibits BinOp.and IntKind.u64 (IntKind.u64.wrap (Int.fdiv (IntKind.u64.wrap (ibits BinOp.and IntKind.u64 (Int.fdiv (IntKind.u64.wrap (ibits BinOp.and IntKind.u64 (Int.fdiv x ((2:Int)^(1:Nat))) (6148914691236517205:Int)+ibits BinOp.and IntKind.u64 x (6148914691236517205:Int))) ((2:Int)^(2:Nat))) (3689348814741910323:Int)+ibits BinOp.and IntKind.u64 (IntKind.u64.wrap (ibits BinOp.and IntKind.u64 (Int.fdiv x ((2:Int)^(1:Nat))) (6148914691236517205:Int)+ibits BinOp.and IntKind.u64 x (6148914691236517205:Int))) (3689348814741910323:Int))) ((2:Int)^(4:Nat))+IntKind.u64.wrap (ibits BinOp.and IntKind.u64 (Int.fdiv (IntKind.u64.wrap (ibits BinOp.and IntKind.u64 (Int.fdiv x ((2:Int)^(1:Nat))) (6148914691236517205:Int)+ibits BinOp.and IntKind.u64 x (6148914691236517205:Int))) ((2:Int)^(2:Nat))) (3689348814741910323:Int)+ibits BinOp.and IntKind.u64 (IntKind.u64.wrap (ibits BinOp.and IntKind.u64 (Int.fdiv x ((2:Int)^(1:Nat))) (6148914691236517205:Int)+ibits BinOp.and IntKind.u64 x (6148914691236517205:Int))) (3689348814741910323:Int)))) (1085102592571150095:Int)+Int.fdiv (ibits BinOp.and IntKind.u64 (IntKind.u64.wrap (Int.fdiv (IntKind.u64.wrap (ibits BinOp.and IntKind.u64 (Int.fdiv (IntKind.u64.wrap (ibits BinOp.and IntKind.u64 (Int.fdiv x ((2:Int)^(1:Nat))) (6148914691236517205:Int)+ibits BinOp.and IntKind.u64 x (6148914691236517205:Int))) ((2:Int)^(2:Nat))) (3689348814741910323:Int)+ibits BinOp.and IntKind.u64 (IntKind.u64.wrap (ibits BinOp.and IntKind.u64 (Int.fdiv x ((2:Int)^(1:Nat))) (6148914691236517205:Int)+ibits BinOp.and IntKind.u64 x (6148914691236517205:Int))) (3689348814741910323:Int))) ((2:Int)^(4:Nat))+IntKind.u64.wrap (ibits BinOp.and IntKind.u64 (Int.fdiv (IntKind.u64.wrap (ibits BinOp.and IntKind.u64 (Int.fdiv x ((2:Int)^(1:Nat))) (6148914691236517205:Int)+ibits BinOp.and IntKind.u64 x (6148914691236517205:Int))) ((2:Int)^(2:Nat))) (3689348814741910323:Int)+ibits BinOp.and IntKind.u64 (IntKind.u64.wrap (ibits BinOp.and IntKind.u64 (Int.fdiv x ((2:Int)^(1:Nat))) (6148914691236517205:Int)+ibits BinOp.and IntKind.u64 x (6148914691236517205:Int))) (3689348814741910323:Int)))) (1085102592571150095:Int)) ((2:Int)^(8:Nat)))) ((2:Int)^(16:Nat)))+Int.fdiv (IntKind.u64.wrap (IntKind.u64.wrap (ibits BinOp.and IntKind.u64 (IntKind.u64.wrap (Int.fdiv (IntKind.u64.wrap (ibits BinOp.and IntKind.u64 (Int.fdiv (IntKind.u64.wrap (ibits BinOp.and IntKind.u64 (Int.fdiv x ((2:Int)^(1:Nat))) (6148914691236517205:Int)+ibits BinOp.and IntKind.u64 x (6148914691236517205:Int))) ((2:Int)^(2:Nat))) (3689348814741910323:Int)+ibits BinOp.and IntKind.u64 (IntKind.u64.wrap (ibits BinOp.and IntKind.u64 (Int.fdiv x ((2:Int)^(1:Nat))) (6148914691236517205:Int)+ibits BinOp.and IntKind.u64 x (6148914691236517205:Int))) (3689348814741910323:Int))) ((2:Int)^(4:Nat))+IntKind.u64.wrap (ibits BinOp.and IntKind.u64 (Int.fdiv (IntKind.u64.wrap (ibits BinOp.and IntKind.u64 (Int.fdiv x ((2:Int)^(1:Nat))) (6148914691236517205:Int)+ibits BinOp.and IntKind.u64 x (6148914691236517205:Int))) ((2:Int)^(2:Nat))) (3689348814741910323:Int)+ibits BinOp.and IntKind.u64 (IntKind.u64.wrap (ibits BinOp.and IntKind.u64 (Int.fdiv x ((2:Int)^(1:Nat))) (6148914691236517205:Int)+ibits BinOp.and IntKind.u64 x (6148914691236517205:Int))) (3689348814741910323:Int)))) (1085102592571150095:Int)+Int.fdiv (ibits BinOp.and IntKind.u64 (IntKind.u64.wrap (Int.fdiv (IntKind.u64.wrap (ibits BinOp.and IntKind.u64 (Int.fdiv (IntKind.u64.wrap (ibits BinOp.and IntKind.u64 (Int.fdiv x ((2:Int)^(1:Nat))) (6148914691236517205:Int)+ibits BinOp.and IntKind.u64 x (6148914691236517205:Int))) ((2:Int)^(2:Nat))) (3689348814741910323:Int)+ibits BinOp.and IntKind.u64 (IntKind.u64.wrap (ibits BinOp.and IntKind.u64 (Int.fdiv x ((2:Int)^(1:Nat))) (6148914691236517205:Int)+ibits BinOp.and IntKind.u64 x (6148914691236517205:Int))) (3689348814741910323:Int))) ((2:Int)^(4:Nat))+IntKind.u64.wrap (ibits BinOp.and IntKind.u64 (Int.fdiv (IntKind.u64.wrap (ibits BinOp.and IntKind.u64 (Int.fdiv x ((2:Int)^(1:Nat))) (6148914691236517205:Int)+ibits BinOp.and IntKind.u64 x (6148914691236517205:Int))) ((2:Int)^(2:Nat))) (3689348814741910323:Int)+ibits BinOp.and IntKind.u64 (IntKind.u64.wrap (ibits BinOp.and IntKind.u64 (Int.fdiv x ((2:Int)^(1:Nat))) (6148914691236517205:Int)+ibits BinOp.and IntKind.u64 x (6148914691236517205:Int))) (3689348814741910323:Int)))) (1085102592571150095:Int)) ((2:Int)^(8:Nat)))+Int.fdiv (IntKind.u64.wrap (ibits BinOp.and IntKind.u64 (IntKind.u64.wrap (Int.fdiv (IntKind.u64.wrap (ibits BinOp.and IntKind.u64 (Int.fdiv (IntKind.u64.wrap (ibits BinOp.and IntKind.u64 (Int.fdiv x ((2:Int)^(1:Nat))) (6148914691236517205:Int)+ibits BinOp.and IntKind.u64 x (6148914691236517205:Int))) ((2:Int)^(2:Nat))) (3689348814741910323:Int)+ibits BinOp.and IntKind.u64 (IntKind.u64.wrap (ibits BinOp.and IntKind.u64 (Int.fdiv x ((2:Int)^(1:Nat))) (6148914691236517205:Int)+ibits BinOp.and IntKind.u64 x (6148914691236517205:Int))) (3689348814741910323:Int))) ((2:Int)^(4:Nat))+IntKind.u64.wrap (ibits BinOp.and IntKind.u64 (Int.fdiv (IntKind.u64.wrap (ibits BinOp.and IntKind.u64 (Int.fdiv x ((2:Int)^(1:Nat))) (6148914691236517205:Int)+ibits BinOp.and IntKind.u64 x (6148914691236517205:Int))) ((2:Int)^(2:Nat))) (3689348814741910323:Int)+ibits BinOp.and IntKind.u64 (IntKind.u64.wrap (ibits BinOp.and IntKind.u64 (Int.fdiv x ((2:Int)^(1:Nat))) (6148914691236517205:Int)+ibits BinOp.and IntKind.u64 x (6148914691236517205:Int))) (3689348814741910323:Int)))) (1085102592571150095:Int)+Int.fdiv (ibits BinOp.and IntKind.u64 (IntKind.u64.wrap (Int.fdiv (IntKind.u64.wrap (ibits BinOp.and IntKind.u64 (Int.fdiv (IntKind.u64.wrap (ibits BinOp.and IntKind.u64 (Int.fdiv x ((2:Int)^(1:Nat))) (6148914691236517205:Int)+ibits BinOp.and IntKind.u64 x (6148914691236517205:Int))) ((2:Int)^(2:Nat))) (3689348814741910323:Int)+ibits BinOp.and IntKind.u64 (IntKind.u64.wrap (ibits BinOp.and IntKind.u64 (Int.fdiv x ((2:Int)^(1:Nat))) (6148914691236517205:Int)+ibits BinOp.and IntKind.u64 x (6148914691236517205:Int))) (3689348814741910323:Int))) ((2:Int)^(4:Nat))+IntKind.u64.wrap (ibits BinOp.and IntKind.u64 (Int.fdiv (IntKind.u64.wrap (ibits BinOp.and IntKind.u64 (Int.fdiv x ((2:Int)^(1:Nat))) (6148914691236517205:Int)+ibits BinOp.and IntKind.u64 x (6148914691236517205:Int))) ((2:Int)^(2:Nat))) (3689348814741910323:Int)+ibits BinOp.and IntKind.u64 (IntKind.u64.wrap (ibits BinOp.and IntKind.u64 (Int.fdiv x ((2:Int)^(1:Nat))) (6148914691236517205:Int)+ibits BinOp.and IntKind.u64 x (6148914691236517205:Int))) (3689348814741910323:Int)))) (1085102592571150095:Int)) ((2:Int)^(8:Nat)))) ((2:Int)^(16:Nat)))) ((2:Int)^(32:Nat))))) (127:Int))
def ka.ce:Go.Ql.Callee:=⟨[(.int .u64)],[(.int .i64)],fun X=>ka X⟩
def ka.G:Env:=⟨35,tab,[],[0,2],[],[],[],[],Jd⟩
theorem ka.ok:CalleeOk Try.prog 136 ka.ce:=fn_ok (G:=ka.G) Jn mixed Try.func136 ⟨Je,jY,jN⟩ (m:=0) (by kernel_rfl) trivial (by kernel_rfl) (fun _=>by kernel_rfl)
def JD (x:Int):Option Int:=
 bnd (ka x) fun y=>
 some y
def JD.ce:Go.Ql.Callee:=⟨[(.int .u64)],[(.int .i64)],fun X=>JD X⟩
def JD.G:Env:=⟨8,tab,[(135,Jp.ce),(136,ka.ce)],[0,2],[],[],[],[],Jd⟩
theorem JD.ok:CalleeOk Try.prog 118 JD.ce:=fn_ok (G:=JD.G) Jn mixed Try.func118 ⟨(jX Jp.ok (jX ka.ok Je)),jY,jN⟩ (m:=0) (by kernel_rfl) trivial (by kernel_rfl) (fun _=>by kernel_rfl)
abbrev tb11:SD:=.one (.val (.st (.pair (.int .u64) (.pair (.int .u64) .bool))))
abbrev tb12:SD:=.one (.ref 3 0)
def jL.c1 (p0:Int)(p1:Int)(o0:Int)(o1:Int)(Z:Bool→Option ρ):Option ρ:=
 bnd (JD (ibits BinOp.and IntKind.u64 p0 o1)) fun y=>
 bnd (JD (ibits BinOp.and IntKind.u64 p1 o0)) fun y1=>
 Z (ibits BinOp.and IntKind.i64 y (1:Int) !=ibits BinOp.and IntKind.i64 y1 (1:Int))
def jL.c1s:Shape:=⟨[(0,tb11),(1,tb11),(2,tb2),(3,tb12),(4,tb7)],[(2,tb9),(3,tb9)]⟩
def jL.c1r:Ck:=Ck.of (T:=Bool) jL.c1s (fun ρ X Z=>jL.c1 X.2.2.2.1 (q4 X).1 (q4 X).2.2.1 (q4 X).2.2.2.1 Z) (fun ρ X V Z=>Z 0 (Shape.inj jL.c1s (X.1,X.2.1,V,X.2.2.2)))
def jL (p:YP) (o:YP):Option Bool:=
 bnd (jL.c1 p.1 p.2.1 o.1 o.2.1 some) fun y=>
 some y
def jL.ce:Go.Ql.Callee:=⟨[(.st (.pair (.int .u64) (.pair (.int .u64) .bool))),(.st (.pair (.int .u64) (.pair (.int .u64) .bool)))],[.bool],fun X=>jL X.1 X.2⟩
def jL.G:Env:=⟨20,tab,[(118,JD.ce)],[0,1,2,3,4],[],[(1,[⟨[],[],[7,8,12,13,14,15,16],[]⟩,⟨[0],[],[7,8,12,13,14,15,16],[]⟩,⟨[],[],[5,6,12,13,14,15,16],[]⟩,⟨[2],[],[5,6,12,13,14,15,16],[]⟩,⟨[1,0,3,2],[],[12,13,14,15,16],[]⟩,⟨[4,1,0,3,2],[],[12,13,14,15,16],[]⟩,⟨[5,4,1,0,3,2],[],[12,13,14,15,16,17,18],[]⟩,⟨[],[],[5,6,7,8,9,10,11,14,15],[]⟩,⟨[7],[],[5,6,7,8,9,10,11,14,15],[]⟩,⟨[],[],[5,6,7,8,9,10,11,12,13],[]⟩,⟨[9],[],[5,6,7,8,9,10,11,12,13],[]⟩,⟨[8,7,10,9],[],[5,6,7,8,9,10,11],[]⟩,⟨[11,8,7,10,9,5,4,1,0,3,2],[],[11],[]⟩,⟨[12,11,8,7,10,9,5,4,1,0,3,2],[],[11],[]⟩,⟨[6,5,4,1,0,3,2,13,12,11,8,7,10,9],[],[],[]⟩,⟨[14,6,5,4,1,0,3,2,13,12,11,8,7,10,9],[],[],[]⟩])],[(1,jL.c1r)],[],Jd⟩
theorem jL.p0:PcA jL.G Try.f85 0:=
 jB (s:=jL.c1r) (by kernel_rfl) (by kernel_rfl) (jC (sh:=jL.c1s) (fun ρ X Z=>(je fun _=>(je fun _=>jd))) (fun ρ X t k=>(by kernel_rfl)) (fun X=>by kernel_rfl))
theorem jL.ok:CalleeOk Try.prog 85 jL.ce:=fn_ok (G:=jL.G) Jn mixed Try.func85 ⟨(jX JD.ok Je),jY,jN⟩ (m:=1) (by kernel_rfl) ⟨trivial,jL.p0⟩ (by kernel_rfl) (fun _=>by kernel_rfl)
def Ju (p:YP) (o:YP):Option Bool:=
 bnd (jL (p.1,p.2.1,p.2.2) (o.1,o.2.1,o.2.2)) fun y=>
 some y
def Ju.ce:Go.Ql.Callee:=⟨[(.st (.pair (.int .u64) (.pair (.int .u64) .bool))),(.st (.pair (.int .u64) (.pair (.int .u64) .bool)))],[.bool],fun X=>Ju X.1 X.2⟩
def Ju.G:Env:=⟨8,tab,[(85,jL.ce)],[0,1,2,3,4],[],[],[],[],Jd⟩
theorem Ju.ok:CalleeOk Try.prog 107 Ju.ce:=fn_ok (G:=Ju.G) Jn mixed Try.func107 ⟨(jX jL.ok Je),jY,jN⟩ (m:=0) (by kernel_rfl) trivial (by kernel_rfl) (fun _=>by kernel_rfl)
def JI (p:YP):Option (List Int):=
 bnd (okIf (decide (List.length (List.set (List.set (List.replicate (2:Nat) (0:Int)) (0:Nat) p.1) (1:Nat) p.2.1)=List.length (List.replicate (2:Nat) (0:Int))))) fun y=>
 bnd (okIf (decide (List.length (List.set (List.set (List.replicate (2:Nat) (0:Int)) (0:Nat) p.1) (1:Nat) p.2.1)=(2:Nat)))) fun y1=>
 some (List.set (List.set (List.replicate (2:Nat) (0:Int)) (0:Nat) p.1) (1:Nat) p.2.1)
def JI.ce:Go.Ql.Callee:=⟨[(.st (.pair (.int .u64) (.pair (.int .u64) .bool)))],[(.ar 2 (.int .u64))],fun X=>JI X⟩
def JI.G:Env:=⟨8,tab,[],[0,1,2],[2,7],[],[],[],Jd⟩
theorem JI.ok:CalleeOk Try.prog 109 JI.ce:=fn_ok (G:=JI.G) Jn mixed Try.func109 ⟨Je,jY,jN⟩ (m:=0) (by kernel_rfl) trivial (by kernel_rfl) (fun _=>by kernel_rfl)
def kz (p:List Int):Option Int:=
 bnd (idx p (0:Int)) fun y=>
 bnd (idx p (1:Int)) fun y1=>
 some (ibits BinOp.or IntKind.u64 (IntKind.u64.wrap (y*(2:Int)^(16:Nat))) y1)
def kz.ce:Go.Ql.Callee:=⟨[(.ar 2 (.int .u64))],[(.int .u64)],fun X=>kz X⟩
def kz.G:Env:=⟨9,tab,[],[0,1,2],[8000001],[],[],[],Jd⟩
theorem kz.ok:CalleeOk Try.prog 131 kz.ce:=fn_ok (G:=kz.G) Jn mixed Try.func131 ⟨Je,jY,jN⟩ (m:=0) (by kernel_rfl) trivial (by kernel_rfl) (fun _=>by kernel_rfl)
abbrev tb13:SD:=.one (.val (.int .u64))
def jT.cA_ (x:Int)(n:Int)(Z:Int×Int→Option ρ):Option ρ:=
 br (decide (x≥(4294967296:Int)))
 (Z ((Int.fdiv x ((2:Int)^(32:Nat))),(32:Int)))
 (Z (x,n))
def jT.cA_s:Shape:=⟨[(0,tb13),(2,tb5)],[]⟩
def jT.cA_r:Ck:=Ck.of (T:=Int×Int) jT.cA_s (fun ρ X Z=>jT.cA_ X.1 X.2.1 Z) (fun ρ X V Z=>Z 0 (Shape.inj jT.cA_s (V.1,V.2,())))
def jT.cq_ (x:Int)(n:Int)(Z:Int×Int→Option ρ):Option ρ:=
 br (decide (x≥(65536:Int)))
 (Z ((Int.fdiv x ((2:Int)^(16:Nat))),(IntKind.i64.wrap (n+(16:Int)))))
 (Z (x,n))
def jT.cq_r:Ck:=Ck.of (T:=Int×Int) jT.cA_s (fun ρ X Z=>jT.cq_ X.1 X.2.1 Z) (fun ρ X V Z=>Z 0 (Shape.inj jT.cA_s (V.1,V.2,())))
def jT.cY_ (x:Int)(n:Int)(Z:Int×Int→Option ρ):Option ρ:=
 br (decide (x≥(256:Int)))
 (Z ((Int.fdiv x ((2:Int)^(8:Nat))),(IntKind.i64.wrap (n+(8:Int)))))
 (Z (x,n))
def jT.cY_r:Ck:=Ck.of (T:=Int×Int) jT.cA_s (fun ρ X Z=>jT.cY_ X.1 X.2.1 Z) (fun ρ X V Z=>Z 0 (Shape.inj jT.cA_s (V.1,V.2,())))
def jT (x:Int):Option Int:=
 bnd (jT.cA_ x (0:Int) some) fun y=>
 bnd (jT.cq_ y.1 y.2 some) fun y1=>
 bnd (jT.cY_ y1.1 y1.2 some) fun y2=>
 bnd (idx (Array.toList (ByteArray.data (ByteArray.mk (List.toArray (List.append (List.append [0,1,2,2,3,3,3,3,4,4,4,4,4,4,4,4,5,5,5,5,5,5,5,5,5,5,5,5,5,5,5,5,6,6,6,6,6,6,6,6,6,6,6,6,6,6,6,6,6,6,6,6,6,6,6,6,6,6,6,6,6,6,6,6] [7,7,7,7,7,7,7,7,7,7,7,7,7,7,7,7,7,7,7,7,7,7,7,7,7,7,7,7,7,7,7,7,7,7,7,7,7,7,7,7,7,7,7,7,7,7,7,7,7,7,7,7,7,7,7,7,7,7,7,7,7,7,7,7]) (List.append [8,8,8,8,8,8,8,8,8,8,8,8,8,8,8,8,8,8,8,8,8,8,8,8,8,8,8,8,8,8,8,8,8,8,8,8,8,8,8,8,8,8,8,8,8,8,8,8,8,8,8,8,8,8,8,8,8,8,8,8,8,8,8,8] [8,8,8,8,8,8,8,8,8,8,8,8,8,8,8,8,8,8,8,8,8,8,8,8,8,8,8,8,8,8,8,8,8,8,8,8,8,8,8,8,8,8,8,8,8,8,8,8,8,8,8,8,8,8,8,8,8,8,8,8,8,8,8,8])))))) (IntKind.wrap IntKind.u8 y2.1)) fun y3=>
 some (IntKind.i64.wrap (y2.2+IntKind.i64.wrap (↑(UInt8.toNat y3):Int)))
def jT.ce:Go.Ql.Callee:=⟨[(.int .u64)],[(.int .i64)],fun X=>jT X⟩
def jT.G:Env:=⟨25,tab,[],[0,2,4,8,14],[],[],[(228679,jT.cY_r),(216391,jT.cq_r),(204103,jT.cA_r)],[],Jd⟩
theorem jT.p0:PcA jT.G Try.f132 0:=
 kq (s:=jT.cA_r) (by kernel_rfl) (by kernel_rfl) (jC (sh:=jT.cA_s) (fun ρ X Z=>(jo jd jd)) (fun ρ X t k=>(by kernel_rfl)) (fun X=>by kernel_rfl))
theorem jT.p1:PcA jT.G Try.f132 1:=
 kq (s:=jT.cq_r) (by kernel_rfl) (by kernel_rfl) (jC (sh:=jT.cA_s) (fun ρ X Z=>(jo jd jd)) (fun ρ X t k=>(by kernel_rfl)) (fun X=>by kernel_rfl))
theorem jT.p2:PcA jT.G Try.f132 2:=
 kq (s:=jT.cY_r) (by kernel_rfl) (by kernel_rfl) (jC (sh:=jT.cA_s) (fun ρ X Z=>(jo jd jd)) (fun ρ X t k=>(by kernel_rfl)) (fun X=>by kernel_rfl))
theorem jT.ok:CalleeOk Try.prog 132 jT.ce:=fn_ok (G:=jT.G) Jn mixed Try.func132 ⟨Je,jY,jN⟩ (m:=3) (by kernel_rfl) ⟨⟨⟨trivial,jT.p0⟩,jT.p1⟩,jT.p2⟩ (by kernel_rfl) (fun _=>by kernel_rfl)
abbrev tb14:SD:=.one (.own 2000000 0)
abbrev tb15:SO:=.arr 0 false 143 (.sl (.pair (.int .i64) (.int .u64)))
def Ja.pre:Shape:=⟨[(0,tb14),(1,tb13)],[(2000000,tb15)]⟩
def Ja.post:Shape:=⟨[(0,tb13)],[(2000000,tb15)]⟩
def Ja.ci_ (v:Int)(uf:List (List (Int×Int)))(Z:Int⊕((Int×Int)⊕Int)→Option ρ):Option ρ:=
 br (v !=(0:Int))
 (bnd (jT v) fun y=>
 br (!Option.isSome (mget uf y))
 (Z (.inr (.inl (v,v))))
 (Z (.inl (ibits BinOp.xor IntKind.u64 v (mzero (mget uf y))))))
 (Z (.inr (.inr v)))
def Ja.ci_s:Shape:=⟨[(0,tb14),(1,tb13),(4,tb13)],[(2000000,tb15)]⟩
def Ja.ci_r:Ck:=Ck.ofLoop (S:=Int) (T:=(Int×Int)⊕Int) Ja.ci_s (fun X=>X.1) (fun ρ X Q Z=>Ja.ci_ Q X.2.2.1 Z) (fun ρ X V Z=>sel V (fun V=>Z 1 (Shape.inj Ja.ci_s (V.1,V.2,X.2.2))) (fun V=>Z 2 (Shape.inj Ja.ci_s (V,X.2))))
def Ja (v:Int) (uf:List (List (Int×Int))):Option (Int×(List (List (Int×Int)))×Unit):=
 bnd (iter (fun s↦Ja.ci_ s uf some) v) fun y=>
 sel y
 (fun u=>some (u.2,uf,()))
 (fun v_1=>some ((0:Int),uf,()))
def Ja.mc:MCallee:=⟨130,Ja.pre,Ja.post,fun X=>Ja X.1 X.2.1⟩
def Ja.G:Env:=⟨22,tab,[(132,jT.ce)],[0,1,4,5,6,8,17],[2000000],[],[(100001,Ja.ci_r)],[],Jd⟩
theorem Ja.p0:PcA Ja.G Try.f130 0:=
 Jo (s:=Ja.ci_r) (by kernel_rfl) (by kernel_rfl) (Jg (sh:=Ja.ci_s) (I:=fun X Q=>(Q,X.2)) (fun X=>rfl) (fun ρ X Q Z=>(jo (je fun _=>(jo jd jd)) jd)) (fun ρ X t k=>(JU (fun _=>(by kernel_rfl)) (fun _=>(by kernel_rfl)))) (fun X s=>by kernel_rfl))
theorem Ja.ok:MOk Try.prog 130 Ja.mc:=kW (mc:=Ja.mc) (G:=Ja.G) Jn mixed Try.func130 ⟨(jX jT.ok Je),jY,jN⟩ (m:=1) (by kernel_rfl) ⟨trivial,Ja.p0⟩ (by kernel_rfl) (fun _=>by kernel_rfl)
abbrev tb16:SD:=.one (.val (.ar 2 (.int .u64)))
def JG.pre:Shape:=⟨[(0,tb14),(1,tb16)],[(2000000,tb15)]⟩
def JG.post:Shape:=⟨[(0,tb7)],[(2000000,tb15)]⟩
def JG (p:List Int) (uf:List (List (Int×Int))):Option (Bool×(List (List (Int×Int)))×Unit):=
 bnd (kz p) fun y=>
 bnd (Ja y uf) fun y1=>
 br (y1.1==(0:Int))
 (some (false,y1.2.1,()))
 (bnd (jT y1.1) fun y2=>
 some (true,mput y1.2.1 y2 y1.1,()))
def JG.mc:MCallee:=⟨108,JG.pre,JG.post,fun X=>JG X.1 X.2.1⟩
def JG.G:Env:=⟨16,tab,[(131,kz.ce),(132,jT.ce)],[0,1,3,4,5,11],[2000000,8000003],[],[],[(130,Ja.mc)],Jd⟩
theorem JG.ok:MOk Try.prog 108 JG.mc:=kW (mc:=JG.mc) (G:=JG.G) Jn mixed Try.func108 ⟨(jX kz.ok (jX jT.ok Je)),(JX Ja.ok jY),jN⟩ (m:=0) (by kernel_rfl) trivial (by kernel_rfl) (fun _=>by kernel_rfl)
def km (t0:Int) (t1:Int):Option ((List YP)×(Int×Int)):=
 some ([],t0,t1)
def km.ce:Go.Ql.Callee:=⟨[(.int .i64),(.int .i64)],[(.sl (.st (.pair (.int .u64) (.pair (.int .u64) .bool)))),(.st (.pair (.int .i64) (.int .i64)))],fun X=>km X.1 X.2⟩
def km.G:Env:=⟨9,tab,[],[0,1,4,5],[],[],[],[],Jd⟩
theorem km.ok:CalleeOk Try.prog 105 km.ce:=fn_ok (G:=km.G) Jn mixed Try.func105 ⟨Je,jY,jN⟩ (m:=0) (by kernel_rfl) trivial (by kernel_rfl) (fun _=>by kernel_rfl)
abbrev tb17:SD:=.one (.val (.sl (.st (.pair (.int .u64) (.pair (.int .u64) .bool)))))
abbrev tb18:SD:=.one (.fn 105)
abbrev tb19:SO:=.box [.val (.int .i64),.val (.int .i64)]
abbrev tb20:SD:=.one (.own 5 0)
abbrev tb21:SD:=.one (.val (.sl .str))
abbrev tb22:SO:=.arr 0 false 80 (.st (.pair (.int .u64) (.pair (.int .u64) .bool)))
abbrev tb23:SD:=.one (.ref 11 0)
abbrev tb24:SD:=.one (.own 91 0)
def jy.c2 (c0:Int)(Z:Bool→Option ρ):Option ρ:=
 br (decide (c0<(1:Int)))
 (Z true)
 (Z (decide (c0>(12:Int))))
def jy.c2s:Shape:=⟨[(0,tb0),(1,tb1),(2,tb17),(3,tb12),(4,tb18)],[(1,tb3),(3,tb19)]⟩
def jy.c2x0:Shape:=⟨[(0,tb0),(1,tb1),(2,tb17),(3,tb12),(4,tb18),(24,tb7)],[(1,tb3),(3,tb19)]⟩
def jy.c2r:Ck:=Ck.of (T:=Bool) jy.c2s (fun ρ X Z=>jy.c2 X.2.2.1 Z) (fun ρ X V Z=>Z 0 (Shape.inj jy.c2x0 (X.1,X.2.1,V,X.2.2)))
def jy.cc_ (t40:List (List UInt8))(t41:Int)(t42:Int)(c0:Int)(l:List YP)(Z:(Int×(List YP))⊕(((List YP)×Int×Int×Int×(List YP))⊕(Int×(List YP)))→Option ρ):Option ρ:=
 br (decide (t42<t41))
 (bnd (idx t40 t42) fun y=>
 bnd (JP y c0) fun y1=>
 br (!y1.2)
 (bnd (km (33:Int) t42) fun y2=>
 Z (.inr (.inl (y2.1,t42,y2.2.1,y2.2.2,l))))
 (bnd (okIf (decide ((List.length l+(1:Nat))*(24:Nat)≤(140737488355328:Nat))&&decide (List.length l+(1:Nat)≤(140737488355328:Nat)))) fun y3=>
 Z (.inl ((IntKind.i64.wrap (t42+(1:Int))),(l++[(y1.1.1,y1.1.2.1,y1.1.2.2)])))))
 (Z (.inr (.inr (t42,l))))
def jy.cc_s:Shape:=⟨[(0,tb0),(1,tb1),(2,tb17),(3,tb12),(4,tb18),(5,tb20),(40,tb21),(41,tb5),(42,tb5)],[(1,tb3),(3,tb19),(5,tb22)]⟩
def jy.cc_r:Ck:=Ck.ofLoop (S:=Int×(List YP)) (T:=((List YP)×Int×Int×Int×(List YP))⊕(Int×(List YP))) jy.cc_s (fun X=>((q4 X).1,(q8 X).2.1)) (fun ρ X Q Z=>jy.cc_ X.2.2.1 X.2.2.2.1 Q.1 (q4 X).2.1 Q.2 Z) (fun ρ X V Z=>sel V (fun V=>Z 1 (Shape.inj jy.cc_s (X.1,V.1,X.2.2.1,X.2.2.2.1,V.2.1,(q4 X).2.1,(q4 X).2.2.1,V.2.2.1,V.2.2.2.1,V.2.2.2.2,()))) (fun V=>Z 2 (Shape.inj jy.cc_s (X.1,X.2.1,X.2.2.1,X.2.2.2.1,V.1,(q4 X).2.1,(q4 X).2.2.1,(q4 X).2.2.2.1,(q8 X).1,V.2,()))))
def jy.cs_ (i:Int)(t75:List YP)(t76:Int)(t77:Int)(p0:Int)(p1:Int)(p2:Bool)(Z:Int⊕(((List YP)×Int×Int×Int)⊕Int)→Option ρ):Option ρ:=
 br (decide (t77<t76))
 (bnd (idx t75 t77) fun y=>
 bnd (Ju (p0,p1,p2) (y.1,y.2.1,y.2.2)) fun y1=>
 br y1
 (bnd (km (34:Int) i) fun y2=>
 Z (.inr (.inl (y2.1,t77,y2.2.1,y2.2.2))))
 (Z (.inl (IntKind.i64.wrap (t77+(1:Int))))))
 (Z (.inr (.inr t77)))
def jy.cs_s:Shape:=⟨[(0,tb0),(1,tb1),(2,tb17),(3,tb12),(4,tb18),(5,tb17),(10,tb5),(11,tb23),(40,tb21),(41,tb5),(42,tb5),(66,tb17),(67,tb5),(68,tb5),(75,tb17),(76,tb5),(77,tb5)],[(1,tb3),(3,tb19),(11,tb9)]⟩
def jy.cs_r:Ck:=Ck.ofLoop (S:=Int) (T:=((List YP)×Int×Int×Int)⊕Int) jy.cs_s (fun X=>(q4 (q8 X)).1) (fun ρ X Q Z=>jy.cs_ X.2.2.2.1 (q8 X).2.2.1 (q8 X).2.2.2.1 Q (q8 (q8 X)).2.1 (q8 (q8 X)).2.2.1 (q8 (q8 X)).2.2.2.1 Z) (fun ρ X V Z=>sel V (fun V=>Z 1 (Shape.inj jy.cs_s (X.1,V.1,X.2.2.1,X.2.2.2.1,(q4 X).1,(q4 X).2.1,(q4 X).2.2.1,(q4 X).2.2.2.1,(q8 X).1,(q8 X).2.1,(q8 X).2.2.1,(q8 X).2.2.2.1,V.2.1,(q4 (q8 X)).2.1,(q4 (q8 X)).2.2.1,V.2.2.1,V.2.2.2,(q8 (q8 X)).2))) (fun V=>Z 6 (Shape.inj jy.cs_s (X.1,X.2.1,X.2.2.1,X.2.2.2.1,(q4 X).1,(q4 X).2.1,(q4 X).2.2.1,(q4 X).2.2.2.1,(q8 X).1,(q8 X).2.1,(q8 X).2.2.1,(q8 X).2.2.2.1,V,(q4 (q8 X)).2))))
def jy.cl_ (l:List YP)(t66:List YP)(t67:Int)(t68:Int)(Z:Int⊕(((List YP)×Int×Int×Int)⊕Int)→Option ρ):Option ρ:=
 br (decide (t68<t67))
 (bnd (idx t66 t68) fun y=>
 bnd (okIf (decide ((0:Int)≤t68)&&decide (t68≤(↑(List.length l):Int)))) fun y1=>
 bnd (iter (fun s↦jy.cs_ t68 (List.take (Int.toNat t68) l) (↑(List.length (List.take (Int.toNat t68) l)):Int) s y.1 y.2.1 y.2.2 some) (0:Int)) fun y2=>
 sel y2
 (fun u=>Z (.inr (.inl (u.1,t68,u.2.2.1,u.2.2.2))))
 (fun v=>Z (.inl (IntKind.i64.wrap (t68+(1:Int))))))
 (Z (.inr (.inr t68)))
def jy.cl_s:Shape:=⟨[(0,tb0),(1,tb1),(2,tb17),(3,tb12),(4,tb18),(5,tb17),(40,tb21),(41,tb5),(42,tb5),(66,tb17),(67,tb5),(68,tb5)],[(1,tb3),(3,tb19)]⟩
def jy.cl_r:Ck:=Ck.ofLoop (S:=Int) (T:=((List YP)×Int×Int×Int)⊕Int) jy.cl_s (fun X=>(q8 X).1) (fun ρ X Q Z=>jy.cl_ X.2.2.1 (q4 X).2.2.1 (q4 X).2.2.2.1 Q Z) (fun ρ X V Z=>sel V (fun V=>Z 1 (Shape.inj jy.cl_s (X.1,V.1,X.2.2.1,X.2.2.2.1,(q4 X).1,(q4 X).2.1,(q4 X).2.2.1,(q4 X).2.2.2.1,V.2.1,(q8 X).2.1,(q8 X).2.2.1,V.2.2.1,V.2.2.2,()))) (fun V=>Z 4 (Shape.inj jy.cl_s (X.1,X.2.1,X.2.2.1,X.2.2.2.1,(q4 X).1,(q4 X).2.1,(q4 X).2.2.1,(q4 X).2.2.2.1,V,(q8 X).2))))
def jy.cu_ (t92:List YP)(t93:Int)(t94:Int)(t91:List (List (Int×Int)))(Z:(Int×(List (List (Int×Int))))⊕(((List YP)×Int×Int×Int×(List (List (Int×Int))))⊕(Int×(List (List (Int×Int)))))→Option ρ):Option ρ:=
 br (decide (t94<t93))
 (bnd (idx t92 t94) fun y=>
 bnd (JI (y.1,y.2.1,y.2.2)) fun y1=>
 bnd (JG y1 t91) fun y2=>
 br (!y2.1)
 (bnd (km (35:Int) t94) fun y3=>
 Z (.inr (.inl (y3.1,t94,y3.2.1,y3.2.2,y2.2.1))))
 (Z (.inl ((IntKind.i64.wrap (t94+(1:Int))),y2.2.1))))
 (Z (.inr (.inr (t94,t91))))
def jy.cu_s:Shape:=⟨[(0,tb0),(1,tb1),(2,tb17),(3,tb12),(4,tb18),(5,tb17),(14,tb24),(40,tb21),(41,tb5),(42,tb5),(66,tb17),(67,tb5),(68,tb5),(92,tb17),(93,tb5),(94,tb5)],[(1,tb3),(3,tb19),(91,tb15)]⟩
def jy.cu_r:Ck:=Ck.ofLoop (S:=Int×(List (List (Int×Int)))) (T:=((List YP)×Int×Int×Int×(List (List (Int×Int))))⊕(Int×(List (List (Int×Int))))) jy.cu_s (fun X=>((q8 X).2.2.2.1,(q8 (q8 X)).1)) (fun ρ X Q Z=>jy.cu_ (q8 X).2.1 (q8 X).2.2.1 Q.1 Q.2 Z) (fun ρ X V Z=>uP X fun c X=>uP X fun t2 X=>uP X fun l X=>uP X fun t40 X=>uP X fun t41 X=>uP X fun t42 X=>uP X fun t66 X=>uP X fun t67 X=>uP X fun t68 X=>uP X fun t92 X=>uP X fun t93 X=>uP X fun t94 X=>uP X fun c0 X=>uP X fun c1 X=>uP X fun t30 X=>uP X fun t31 X=>uP X fun t91 X=>sel V (fun V=>Z 1 (Shape.inj jy.cu_s (c,V.1,l,t40,t41,t42,t66,t67,t68,t92,t93,V.2.1,c0,c1,V.2.2.1,V.2.2.2.1,V.2.2.2.2,()))) (fun V=>Z 8 (Shape.inj jy.cu_s (c,t2,l,t40,t41,t42,t66,t67,t68,t92,t93,V.1,c0,c1,t30,t31,V.2,()))))
def jy (c:Int×(List (List UInt8))):Option ((List YP)×(Int×Int)):=
 bnd (jy.c2 c.1 some) fun y=>
 br y
 (bnd (km (6:Int) (0:Int)) fun y1=>
 some (y1.1,y1.2.1,y1.2.2))
 (br (decide ((↑(List.length c.2):Int)>c.1))
 (bnd (km (21:Int) (0:Int)) fun y2=>
 some (y2.1,y2.2.1,y2.2.2))
 (bnd (iter (fun s↦jy.cc_ c.2 (↑(List.length c.2):Int) s.1 c.1 s.2 some) ((0:Int),[])) fun y3=>
 sel y3
 (fun u=>some (u.1,u.2.2.1,u.2.2.2.1))
 (fun v=>bnd (iter (fun s↦jy.cl_ v.2 v.2 (↑(List.length v.2):Int) s some) (0:Int)) fun y4=>
 sel y4
 (fun u_1=>some (u_1.1,u_1.2.2.1,u_1.2.2.2))
 (fun v_1=>bnd (iter (fun s↦jy.cu_ v.2 (↑(List.length v.2):Int) s.1 s.2 some) ((0:Int),HT)) fun y5=>
 sel y5
 (fun u_2=>some (u_2.1,u_2.2.2.1,u_2.2.2.2.1))
 (fun v_2=>some (v.2,(0:Int),(0:Int)))))))
def jy.ce:Go.Ql.Callee:=⟨[(.st (.pair (.int .i64) (.sl .str)))],[(.sl (.st (.pair (.int .u64) (.pair (.int .u64) .bool)))),(.st (.pair (.int .i64) (.int .i64)))],fun X=>jy X⟩
def jy.G:Env:=⟨112,tab,[(106,JP.ce),(107,Ju.ce),(109,JI.ce),(105,km.ce)],[0,1,2,3,4,5,6,7,8,9,10,11,13,14,15,16,24,34,40,41,42,43,55,66,67,68,69,75,76,77,78,83,92,93,94,95,103],[5,91,5000066],[],[(100027,jy.cu_r),(100016,jy.cl_r),(100019,jy.cs_r),(100008,jy.cc_r),(2,jy.c2r)],[(108,JG.mc)],Jd⟩
theorem jy.p0:PcA jy.G Try.f70 0:=
 jB (s:=jy.c2r) (by kernel_rfl) (by kernel_rfl) (jC (sh:=jy.c2s) (fun ρ X Z=>(jo jd jd)) (fun ρ X t k=>(by kernel_rfl)) (fun X=>by kernel_rfl))
theorem jy.p1:PcA jy.G Try.f70 1:=
 Jo (s:=jy.cc_r) (by kernel_rfl) (by kernel_rfl) (Jg (sh:=jy.cc_s) (I:=fun X Q=>(X.1,X.2.1,X.2.2.1,X.2.2.2.1,Q.1,(q4 X).2.1,(q4 X).2.2.1,(q4 X).2.2.2.1,(q8 X).1,Q.2,())) (fun X=>rfl) (fun ρ X Q Z=>(jo (je fun _=>(je fun _=>(jo (je fun _=>jd) (je fun _=>jd)))) jd)) (fun ρ X t k=>(JU (fun _=>(by kernel_rfl)) (fun _=>(by kernel_rfl)))) (fun X s=>by kernel_rfl))
theorem jy.p2:PcA jy.G Try.f70 2:=
 Jo (s:=jy.cl_r) (by kernel_rfl) (by kernel_rfl) (Jg (sh:=jy.cl_s) (I:=fun X Q=>(X.1,X.2.1,X.2.2.1,X.2.2.2.1,(q4 X).1,(q4 X).2.1,(q4 X).2.2.1,(q4 X).2.2.2.1,Q,(q8 X).2)) (fun X=>rfl) (fun ρ X Q Z=>(jo (je fun _=>(je fun _=>(je fun _=>(JU (fun _=>jd) (fun _=>jd))))) jd)) (fun ρ X t k=>(JU (fun _=>(by kernel_rfl)) (fun _=>(by kernel_rfl)))) (fun X s=>by kernel_rfl))
theorem jy.p3:PcA jy.G Try.f70 3:=
 Jo (s:=jy.cs_r) (by kernel_rfl) (by kernel_rfl) (Jg (sh:=jy.cs_s) (I:=fun X Q=>(X.1,X.2.1,X.2.2.1,X.2.2.2.1,(q4 X).1,(q4 X).2.1,(q4 X).2.2.1,(q4 X).2.2.2.1,(q8 X).1,(q8 X).2.1,(q8 X).2.2.1,(q8 X).2.2.2.1,Q,(q4 (q8 X)).2)) (fun X=>rfl) (fun ρ X Q Z=>(jo (je fun _=>(je fun _=>(jo (je fun _=>jd) jd))) jd)) (fun ρ X t k=>(JU (fun _=>(by kernel_rfl)) (fun _=>(by kernel_rfl)))) (fun X s=>by kernel_rfl))
theorem jy.p4:PcA jy.G Try.f70 4:=
 Jo (s:=jy.cu_r) (by kernel_rfl) (by kernel_rfl) (Jg (sh:=jy.cu_s) (I:=fun X Q=>(X.1,X.2.1,X.2.2.1,X.2.2.2.1,(q4 X).1,(q4 X).2.1,(q4 X).2.2.1,(q4 X).2.2.2.1,(q8 X).1,(q8 X).2.1,(q8 X).2.2.1,Q.1,(q4 (q8 X)).1,(q4 (q8 X)).2.1,(q4 (q8 X)).2.2.1,(q4 (q8 X)).2.2.2.1,Q.2,())) (fun X=>rfl) (fun ρ X Q Z=>(jo (je fun _=>(je fun _=>(je fun _=>(jo (je fun _=>jd) jd)))) jd)) (fun ρ X t k=>(JU (fun _=>(by kernel_rfl)) (fun _=>(by kernel_rfl)))) (fun X s=>by kernel_rfl))
theorem jy.ok:CalleeOk Try.prog 70 jy.ce:=fn_ok (G:=jy.G) Jn mixed Try.func70 ⟨(jX JP.ok (jX Ju.ok (jX JI.ok (jX km.ok Je)))),(JX JG.ok jY),jN⟩ (m:=5) (by kernel_rfl) ⟨⟨⟨⟨⟨trivial,jy.p0⟩,jy.p1⟩,jy.p2⟩,jy.p3⟩,jy.p4⟩ (by kernel_rfl) (fun _=>by kernel_rfl)
abbrev tb25:SD:=.one (.val (.st (.pair (.int .i64) (.pair (.int .i64) (.pair (.sl (.int .i64)) (.pair (.int .i64) (.pair (.int .i64) (.sl (.int .i64)))))))))
abbrev tb26:SO:=.box [.val (.int .i64),.val (.int .i64),.val (.sl (.int .i64)),.val (.int .i64),.val (.int .i64),.val (.sl (.int .i64))]
abbrev tb27:SD:=.one (.ref 8 0)
def ja.self.pre:Shape:=⟨[(0,tb11),(1,tb25)],[]⟩
def ja.self.post:Shape:=⟨[(0,tb11)],[]⟩
class ja.Self where
 F:densU ja.self.pre.tys→Option (densU ja.self.post.tys)
 ok:MOk Try.prog 57 ⟨57,ja.self.pre,ja.self.post,F⟩
section
variable [ja.Self]
def ja.self (X:densU ja.self.pre.tys):Option (densU ja.self.post.tys):=ja.Self.F X
def ja.self.mc:MCallee:=⟨57,ja.self.pre,ja.self.post,fun X=>ja.self X⟩
theorem ja.self.ok:MOk Try.prog 57 ja.self.mc:=ja.Self.ok
def ja.pre:Shape:=⟨[(0,tb11),(1,tb25)],[]⟩
def ja.post:Shape:=⟨[(0,tb11)],[]⟩
def ja.c2 {ρ:Type} (q:Int)(Z:Unit→Option ρ):Option ρ:=
 bnd (okIf (decide ((0:Int)≤q))) fun y=>
 bnd (okIf (decide ((0:Int)≤q))) fun y1=>
 Z ()
def ja.c2s:Shape:=⟨[(0,tb11),(1,tb25),(2,tb2),(3,tb12),(4,tb6),(5,tb13)],[(2,tb9),(3,tb26),(4,tb9)]⟩
def ja.c2x0:Shape:=⟨[(0,tb11),(1,tb25),(2,tb2),(3,tb12),(4,tb6),(5,tb13),(6,tb13),(7,tb13)],[(2,tb9),(3,tb26),(4,tb9)]⟩
def ja.c2r:Ck:=Ck.of (T:=Unit) ja.c2s (fun ρ X Z=>ja.c2 X.2.2.1 Z) (fun ρ X V Z=>Z 0 (Shape.inj ja.c2x0 (X.1,X.2.1,X.2.2.1,(ibits BinOp.and IntKind.u64 (Int.fdiv X.2.2.2.1 ((2:Int)^Min.min (Int.toNat X.2.2.1) (64:Nat))) (1:Int)),(ibits BinOp.and IntKind.u64 (Int.fdiv (q4 X).1 ((2:Int)^Min.min (Int.toNat X.2.2.1) (64:Nat))) (1:Int)),X.2.2.2)))
def ja.cq_ {ρ:Type} (q:Int)(x:Int)(z:Int)(p0:Int)(p1:Int)(Z:Int×Int→Option ρ):Option ρ:=
 br (x !=z)
 (bnd (okIf (decide ((0:Int)≤q))) fun y=>
 bnd (okIf (decide ((0:Int)≤q))) fun y1=>
 Z ((ibits BinOp.xor IntKind.u64 p0 (IntKind.u64.wrap ((1:Int)*(2:Int)^Min.min (Int.toNat q) (64:Nat)))),(ibits BinOp.xor IntKind.u64 p1 (IntKind.u64.wrap ((1:Int)*(2:Int)^Min.min (Int.toNat q) (64:Nat))))))
 (Z (p0,p1))
def ja.cq_r:Ck:=Ck.of (T:=Int×Int) ja.c2x0 (fun ρ X Z=>ja.cq_ X.2.2.1 X.2.2.2.1 (q4 X).1 (q4 X).2.1 (q4 X).2.2.1 Z) (fun ρ X V Z=>Z 0 (Shape.inj ja.c2x0 (X.1,X.2.1,X.2.2.1,X.2.2.2.1,(q4 X).1,V.1,V.2,(q4 X).2.2.2)))
def ja.c8 {ρ:Type} (o0:Int)(o2:List Int)(Z:Bool→Option ρ):Option ρ:=
 br (o0==(4:Int))
 (Z ((↑(List.length o2):Int)==(0:Int)))
 (Z false)
def ja.c8x0:Shape:=⟨[(0,tb11),(1,tb25),(2,tb2),(3,tb12),(4,tb6),(5,tb13),(6,tb13),(7,tb13),(52,tb7)],[(2,tb9),(3,tb26),(4,tb9)]⟩
def ja.c8r:Ck:=Ck.of (T:=Bool) ja.c2x0 (fun ρ X Z=>ja.c8 (q8 X).1 (q8 X).2.2.1 Z) (fun ρ X V Z=>Z 0 (Shape.inj ja.c8x0 (X.1,X.2.1,X.2.2.1,X.2.2.2.1,(q4 X).1,V,(q4 X).2)))
def ja.c11 {ρ:Type} (q:Int)(Z:Unit→Option ρ):Option ρ:=
 bnd (okIf (decide ((0:Int)≤q))) fun y=>
 bnd (okIf (decide ((0:Int)≤q))) fun y1=>
 Z ()
def ja.c11s:Shape:=⟨[(0,tb11),(1,tb25),(2,tb2),(3,tb12),(4,tb6),(5,tb13),(6,tb13),(7,tb13),(64,tb5),(65,tb5)],[(2,tb9),(3,tb26),(4,tb9)]⟩
def ja.c11r:Ck:=Ck.of (T:=Unit) ja.c11s (fun ρ X Z=>ja.c11 X.2.2.1 Z) (fun ρ X V Z=>Z 0 (Shape.inj ja.c11s (X.1,X.2.1,X.2.2.1,(ibits BinOp.and IntKind.u64 (Int.fdiv (q4 X).2.2.2.1 ((2:Int)^Min.min (Int.toNat X.2.2.1) (64:Nat))) (1:Int)),(ibits BinOp.and IntKind.u64 (Int.fdiv (q8 X).1 ((2:Int)^Min.min (Int.toNat X.2.2.1) (64:Nat))) (1:Int)),(q4 X).2)))
def ja.cn_ {ρ:Type} (q:Int)(x:Int)(z:Int)(t64:Int)(t65:Int)(p0:Int)(p1:Int)(p2:Bool)(Z:(Int×Int×Int×Int×Bool)⊕(Int×Int×Int×Int×Bool)→Option ρ):Option ρ:=
 br (decide (t65<t64))
 (bnd (ja.c11 q some) fun y=>
 bnd (okIf (decide ((0:Int)≤q))) fun y1=>
 Z (.inl ((ibits BinOp.and IntKind.u64 (Int.fdiv p0 ((2:Int)^Min.min (Int.toNat q) (64:Nat))) (1:Int)),(ibits BinOp.and IntKind.u64 (Int.fdiv p1 ((2:Int)^Min.min (Int.toNat q) (64:Nat))) (1:Int)),(IntKind.i64.wrap (t65+(1:Int))),(ibits BinOp.xor IntKind.u64 p1 (IntKind.u64.wrap (ibits BinOp.and IntKind.u64 (Int.fdiv p0 ((2:Int)^Min.min (Int.toNat q) (64:Nat))) (1:Int)*(2:Int)^Min.min (Int.toNat q) (64:Nat)))),(!p2==(ibits BinOp.and IntKind.u64 (ibits BinOp.and IntKind.u64 (Int.fdiv p0 ((2:Int)^Min.min (Int.toNat q) (64:Nat))) (1:Int)) (ibits BinOp.and IntKind.u64 (Int.fdiv p1 ((2:Int)^Min.min (Int.toNat q) (64:Nat))) (1:Int))==(1:Int))))))
 (Z (.inr (x,z,t65,p1,p2)))
def ja.cn_r:Ck:=Ck.ofLoop (S:=Int×Int×Int×Int×Bool) (T:=Int×Int×Int×Int×Bool) ja.c11s (fun X=>(X.2.2.2.1,(q4 X).1,(q4 X).2.2.1,(q8 X).1,(q8 X).2.1)) (fun ρ X Q Z=>ja.cn_ X.2.2.1 Q.1 Q.2.1 (q4 X).2.1 Q.2.2.1 (q4 X).2.2.2.1 Q.2.2.2.1 Q.2.2.2.2 Z) (fun ρ X V Z=>Z 3 (Shape.inj ja.c11s (X.1,X.2.1,X.2.2.1,V.1,V.2.1,(q4 X).2.1,V.2.2.1,(q4 X).2.2.2.1,V.2.2.2.1,V.2.2.2.2,(q8 X).2.2)))
def ja.c15 {ρ:Type} (o0:Int)(o1:Int)(Z:Bool→Option ρ):Option ρ:=
 br (o0==(4:Int))
 (Z (o1==(8:Int)))
 (Z false)
def ja.c15x0:Shape:=⟨[(0,tb11),(1,tb25),(2,tb2),(3,tb12),(4,tb6),(5,tb13),(6,tb13),(7,tb13),(93,tb7)],[(2,tb9),(3,tb26),(4,tb9)]⟩
def ja.c15r:Ck:=Ck.of (T:=Bool) ja.c2x0 (fun ρ X Z=>ja.c15 (q8 X).1 (q8 X).2.1 Z) (fun ρ X V Z=>Z 0 (Shape.inj ja.c15x0 (X.1,X.2.1,X.2.2.1,X.2.2.2.1,(q4 X).1,V,(q4 X).2)))
def ja.c17 {ρ:Type} (p0:Int)(p1:Int)(p2:Bool)(o2:List Int)(o3:Int)(h0:Int)(h1:Int)(h2:List Int)(h3:Int)(h4:Int)(h5:List Int)(Z:Int×Int×Bool→Option ρ):Option ρ:=
 bnd (ja.self ((p0,p1,p2),(h0,h1,h2,h3,h4,h5),())) fun y=>
 bnd (ja.self (y.1,((2:Int),(0:Int),o2,o3,(0:Int),[]),())) fun y1=>
 bnd (ja.self (y1.1,(h0,h1,h2,h3,h4,h5),())) fun y2=>
 Z (y2.1.1,y2.1.2.1,y2.1.2.2)
def ja.c17s:Shape:=⟨[(0,tb11),(1,tb25),(2,tb2),(3,tb12),(4,tb6),(5,tb13),(6,tb13),(7,tb13),(8,tb27)],[(2,tb9),(3,tb26),(4,tb9),(8,tb26)]⟩
def ja.c17r:Ck:=Ck.of (T:=Int×Int×Bool) ja.c17s (fun ρ X Z=>ja.c17 (q4 X).2.1 (q4 X).2.2.1 (q4 X).2.2.2.1 (q8 X).2.2.1 (q8 X).2.2.2.1 (q8 (q8 X)).2.1 (q8 (q8 X)).2.2.1 (q8 (q8 X)).2.2.2.1 (q4 (q8 (q8 X))).1 (q4 (q8 (q8 X))).2.1 (q4 (q8 (q8 X))).2.2.1 Z) (fun ρ X V Z=>Z 0 (Shape.inj ja.c17s (X.1,X.2.1,X.2.2.1,X.2.2.2.1,(q4 X).1,V.1,V.2.1,V.2.2,(q8 X))))
def ja.c18 {ρ:Type} (o0:Int)(o2:List Int)(Z:Bool→Option ρ):Option ρ:=
 br (o0==(2:Int))
 (Z ((↑(List.length o2):Int)==(0:Int)))
 (Z false)
def ja.c18x0:Shape:=⟨[(0,tb11),(1,tb25),(2,tb2),(3,tb12),(4,tb6),(5,tb13),(6,tb13),(7,tb13),(116,tb7)],[(2,tb9),(3,tb26),(4,tb9)]⟩
def ja.c18r:Ck:=Ck.of (T:=Bool) ja.c2x0 (fun ρ X Z=>ja.c18 (q8 X).1 (q8 X).2.2.1 Z) (fun ρ X V Z=>Z 0 (Shape.inj ja.c18x0 (X.1,X.2.1,X.2.2.1,X.2.2.2.1,(q4 X).1,V,(q4 X).2)))
def ja.c22 {ρ:Type} (c:Int)(Z:Unit→Option ρ):Option ρ:=
 bnd (okIf (decide ((0:Int)≤c))) fun y=>
 bnd (okIf (decide ((0:Int)≤c))) fun y1=>
 Z ()
def ja.c22s:Shape:=⟨[(0,tb11),(1,tb25),(2,tb2),(3,tb12),(4,tb6),(5,tb13),(6,tb13),(7,tb13),(9,tb13)],[(2,tb9),(3,tb26),(4,tb9)]⟩
def ja.c22x0:Shape:=⟨[(0,tb11),(1,tb25),(2,tb2),(3,tb12),(4,tb6),(5,tb13),(6,tb13),(7,tb13),(9,tb13),(10,tb13),(11,tb13)],[(2,tb9),(3,tb26),(4,tb9)]⟩
def ja.c22r:Ck:=Ck.of (T:=Unit) ja.c22s (fun ρ X Z=>ja.c22 (q4 X).2.1 Z) (fun ρ X V Z=>Z 0 (Shape.inj ja.c22x0 (X.1,X.2.1,X.2.2.1,X.2.2.2.1,(q4 X).1,(q4 X).2.1,(ibits BinOp.and IntKind.u64 (Int.fdiv (q4 X).2.2.1 ((2:Int)^Min.min (Int.toNat (q4 X).2.1) (64:Nat))) (1:Int)),(ibits BinOp.and IntKind.u64 (Int.fdiv (q4 X).2.2.2.1 ((2:Int)^Min.min (Int.toNat (q4 X).2.1) (64:Nat))) (1:Int)),(q4 X).2.2)))
def ja.c23 {ρ:Type} (x:Int)(z:Int)(cx:Int)(cz:Int)(p2:Bool)(Z:Bool→Option ρ):Option ρ:=
 br (ibits BinOp.and IntKind.u64 cx z==(1:Int))
 (Z (!p2==(x==cz)))
 (Z (!p2==false))
def ja.c23r:Ck:=Ck.of (T:=Bool) ja.c22x0 (fun ρ X Z=>ja.c23 X.2.2.2.1 (q4 X).1 (q4 X).2.2.1 (q4 X).2.2.2.1 (q8 X).2.2.1 Z) (fun ρ X V Z=>Z 0 (Shape.inj ja.c22x0 (X.1,X.2.1,X.2.2.1,X.2.2.2.1,(q4 X).1,(q4 X).2.1,(q4 X).2.2.1,(q4 X).2.2.2.1,(q8 X).1,(q8 X).2.1,V,(q8 X).2.2.2)))
def ja.cw_ {ρ:Type} (q:Int)(x:Int)(z:Int)(p0:Int)(p1:Int)(p2:Bool)(o0:Int)(o1:Int)(o2:List Int)(o3:Int)(Z:Int×Int×Int×Int×Bool→Option ρ):Option ρ:=
 br (o0==(3:Int))
 (bnd (ja.cq_ q x z p0 p1 some) fun y=>
 Z (x,z,y.1,y.2,(!p2==(ibits BinOp.and IntKind.u64 x z==(1:Int)))))
 (bnd (ja.c8 o0 o2 some) fun y1=>
 br y1
 (bnd (iter (fun s↦ja.cn_ q s.1 s.2.1 (IntKind.i64.wrap (Int.tdiv o1 (4:Int))) s.2.2.1 p0 s.2.2.2.1 s.2.2.2.2 some) (x,z,(0:Int),p1,p2)) fun y2=>
 Z (y2.1,y2.2.1,p0,y2.2.2.2.1,y2.2.2.2.2))
 (bnd (ja.c15 o0 o1 some) fun y3=>
 br y3
 (bnd (ja.c17 p0 p1 p2 o2 o3 (3:Int) (0:Int) [] o3 (0:Int) [] some) fun y4=>
 Z (x,z,y4.1,y4.2.1,y4.2.2))
 (bnd (ja.c18 o0 o2 some) fun y5=>
 br y5
 (Z (x,z,p0,p1,(!p2==(z==(1:Int)))))
 (br (o0==(2:Int))
 (bnd (idx o2 (0:Int)) fun y6=>
 bnd (ja.c22 (IntKind.wrap IntKind.u64 y6) some) fun y7=>
 bnd (ja.c23 x z (ibits BinOp.and IntKind.u64 (Int.fdiv p0 ((2:Int)^Min.min (Int.toNat (IntKind.wrap IntKind.u64 y6)) (64:Nat))) (1:Int)) (ibits BinOp.and IntKind.u64 (Int.fdiv p1 ((2:Int)^Min.min (Int.toNat (IntKind.wrap IntKind.u64 y6)) (64:Nat))) (1:Int)) p2 some) fun y8=>
 bnd (okIf (decide ((0:Int)≤q))) fun y9=>
 bnd (okIf (decide ((0:Int)≤IntKind.wrap IntKind.u64 y6))) fun y10=>
 Z (x,z,(ibits BinOp.xor IntKind.u64 p0 (IntKind.u64.wrap (ibits BinOp.and IntKind.u64 (Int.fdiv p0 ((2:Int)^Min.min (Int.toNat (IntKind.wrap IntKind.u64 y6)) (64:Nat))) (1:Int)*(2:Int)^Min.min (Int.toNat q) (64:Nat)))),(ibits BinOp.xor IntKind.u64 p1 (IntKind.u64.wrap (z*(2:Int)^Min.min (Int.toNat (IntKind.wrap IntKind.u64 y6)) (64:Nat)))),y8))
 (Z (x,z,p0,p1,p2))))))
def ja.cw_r:Ck:=Ck.of (T:=Int×Int×Int×Int×Bool) ja.c2x0 (fun ρ X Z=>ja.cw_ X.2.2.1 X.2.2.2.1 (q4 X).1 (q4 X).2.1 (q4 X).2.2.1 (q4 X).2.2.2.1 (q8 X).1 (q8 X).2.1 (q8 X).2.2.1 (q8 X).2.2.2.1 Z) (fun ρ X V Z=>Z 0 (Shape.inj ja.c2x0 (X.1,X.2.1,X.2.2.1,V.1,V.2.1,V.2.2.1,V.2.2.2.1,V.2.2.2.2,(q8 X))))
def ja (p:YP) (o:YO):Option (YP×Unit):=
 bnd (ja.c2 (IntKind.u64.wrap o.2.2.2.1) some) fun y=>
 bnd (ja.cw_ (IntKind.u64.wrap o.2.2.2.1) (ibits BinOp.and IntKind.u64 (Int.fdiv p.1 ((2:Int)^Min.min (Int.toNat (IntKind.u64.wrap o.2.2.2.1)) (64:Nat))) (1:Int)) (ibits BinOp.and IntKind.u64 (Int.fdiv p.2.1 ((2:Int)^Min.min (Int.toNat (IntKind.u64.wrap o.2.2.2.1)) (64:Nat))) (1:Int)) p.1 p.2.1 p.2.2 o.1 o.2.1 o.2.2.1 o.2.2.2.1 some) fun y1=>
 some ((y1.2.2.1,y1.2.2.2.1,y1.2.2.2.2),())
def ja.mc:MCallee:=⟨57,ja.pre,ja.post,fun X=>ja X.1 X.2.1⟩
def ja.G:Env:=⟨179,tab,[],[0,1,2,3,4,5,6,7,8,9,10,11,25,31,52,64,65,66,93,116,132],[],[(22,[⟨[],[],[143,146,147,148,149,150],[]⟩,⟨[0],[],[143,146,147,148,149,150],[]⟩,⟨[],[],[141,142,146,147,148,149,150],[]⟩,⟨[1,0,2],[],[146,147,148,149,150],[]⟩,⟨[3,1,0,2],[],[146,147,148,149,150],[]⟩,⟨[],[],[141,142,143,144,145,148,10],[]⟩,⟨[5],[],[141,142,143,144,145,148,10],[]⟩,⟨[],[],[141,142,143,144,145,146,147,10],[]⟩,⟨[6,5,7],[],[141,142,143,144,145,10],[]⟩,⟨[8,6,5,7],[],[141,142,143,144,145,10],[]⟩,⟨[4,3,1,0,2],[],[146,147,148,149,150],[]⟩,⟨[9,8,6,5,7,10,4,3,1,0,2],[],[],[]⟩]),
 (17,[⟨[],[],[106,108,109,110,111,112,114],[]⟩,⟨[],[],[105,108,109,110,111,112,114],[]⟩,⟨[0,1],[],[108,109,110,111,112,114],[]⟩,⟨[],[],[105,106,107,110,111,114],[]⟩,⟨[3],[],[105,106,107,110,111,114],[]⟩,⟨[],[],[105,106,107,108,109,114],[]⟩,⟨[5],[],[105,106,107,108,109,114],[]⟩,⟨[4,3,6,5],[],[105,106,107,114],[]⟩,⟨[2,0,1,7,4,3,6,5],[],[114],[]⟩,⟨[],[],[105,106,107,108,109,110,111,112,113],[]⟩,⟨[8,2,0,1,7,4,3,6,5,9],[],[],[]⟩,⟨[10,8,2,0,1,7,4,3,6,5,9],[2],[],[]⟩]),
 (11,[⟨[],[],[69,72,73,74,75,76],[]⟩,⟨[0],[],[69,72,73,74,75,76],[]⟩,⟨[],[],[67,68,72,73,74,75,76],[]⟩,⟨[1,0,2],[],[72,73,74,75,76],[]⟩,⟨[3,1,0,2],[],[72,73,74,75,76],[]⟩,⟨[],[],[67,68,69,70,71,74,6],[]⟩,⟨[5],[],[67,68,69,70,71,74,6],[]⟩,⟨[],[],[67,68,69,70,71,72,73,6],[]⟩,⟨[6,5,7],[],[67,68,69,70,71,6],[]⟩,⟨[8,6,5,7],[],[67,68,69,70,71,6],[]⟩,⟨[4,3,1,0,2],[],[72,73,74,75,76],[]⟩,⟨[9,8,6,5,7,10,4,3,1,0,2],[],[],[]⟩]),
 (2,[⟨[],[],[17,20,21,22,23,24],[]⟩,⟨[0],[],[17,20,21,22,23,24],[]⟩,⟨[],[],[15,16,20,21,22,23,24],[]⟩,⟨[1,0,2],[],[20,21,22,23,24],[]⟩,⟨[3,1,0,2],[],[20,21,22,23,24],[]⟩,⟨[],[],[15,16,17,18,19,22,6],[]⟩,⟨[5],[],[15,16,17,18,19,22,6],[]⟩,⟨[],[],[15,16,17,18,19,20,21,6],[]⟩,⟨[6,5,7],[],[15,16,17,18,19,6],[]⟩,⟨[8,6,5,7],[],[15,16,17,18,19,6],[]⟩,⟨[4,3,1,0,2],[],[20,21,22,23,24],[]⟩,⟨[9,8,6,5,7,10,4,3,1,0,2],[],[],[]⟩])],[(212345,ja.cw_r),(23,ja.c23r),(22,ja.c22r),(18,ja.c18r),(17,ja.c17r),(15,ja.c15r),(100010,ja.cn_r),(11,ja.c11r),(8,ja.c8r),(216391,ja.cq_r),(2,ja.c2r)],[(57,ja.self.mc)],Jd⟩
theorem ja.p0:PcA ja.G Try.f57 0:=
 jB (s:=ja.c2r) (by kernel_rfl) (by kernel_rfl) (jC (sh:=ja.c2s) (fun ρ X Z=>(je fun _=>(je fun _=>jd))) (fun ρ X t k=>(by kernel_rfl)) (fun X=>by kernel_rfl))
theorem ja.p1:PcA ja.G Try.f57 1:=
 kq (s:=ja.cw_r) (by kernel_rfl) (by kernel_rfl) (jC (sh:=ja.c2x0) (fun ρ X Z=>(jo (je fun _=>jd) (je fun _=>(jo (je fun _=>jd) (je fun _=>(jo (je fun _=>jd) (je fun _=>(jo jd (jo (je fun _=>(je fun _=>(je fun _=>(je fun _=>(je fun _=>jd))))) jd))))))))) (fun ρ X t k=>(by kernel_rfl)) (fun X=>by kernel_rfl))
theorem ja.p2:PcA ja.G Try.f57 2:=
 kq (s:=ja.cq_r) (by kernel_rfl) (by kernel_rfl) (jC (sh:=ja.c2x0) (fun ρ X Z=>(jo (je fun _=>(je fun _=>jd)) jd)) (fun ρ X t k=>(by kernel_rfl)) (fun X=>by kernel_rfl))
theorem ja.p3:PcA ja.G Try.f57 3:=
 jB (s:=ja.c8r) (by kernel_rfl) (by kernel_rfl) (jC (sh:=ja.c2x0) (fun ρ X Z=>(jo jd jd)) (fun ρ X t k=>(by kernel_rfl)) (fun X=>by kernel_rfl))
theorem ja.p4:PcA ja.G Try.f57 4:=
 Jo (s:=ja.cn_r) (by kernel_rfl) (by kernel_rfl) (Jg (sh:=ja.c11s) (I:=fun X Q=>(X.1,X.2.1,X.2.2.1,Q.1,Q.2.1,(q4 X).2.1,Q.2.2.1,(q4 X).2.2.2.1,Q.2.2.2.1,Q.2.2.2.2,(q8 X).2.2)) (fun X=>rfl) (fun ρ X Q Z=>(jo (je fun _=>(je fun _=>jd)) jd)) (fun ρ X t k=>(by kernel_rfl)) (fun X s=>by kernel_rfl))
theorem ja.p5:PcA ja.G Try.f57 5:=
 jB (s:=ja.c11r) (by kernel_rfl) (by kernel_rfl) (jC (sh:=ja.c11s) (fun ρ X Z=>(je fun _=>(je fun _=>jd))) (fun ρ X t k=>(by kernel_rfl)) (fun X=>by kernel_rfl))
theorem ja.p6:PcA ja.G Try.f57 6:=
 jB (s:=ja.c15r) (by kernel_rfl) (by kernel_rfl) (jC (sh:=ja.c2x0) (fun ρ X Z=>(jo jd jd)) (fun ρ X t k=>(by kernel_rfl)) (fun X=>by kernel_rfl))
theorem ja.p7:PcA ja.G Try.f57 7:=
 jB (s:=ja.c17r) (by kernel_rfl) (by kernel_rfl) (jC (sh:=ja.c17s) (fun ρ X Z=>(je fun _=>(je fun _=>(je fun _=>jd)))) (fun ρ X t k=>(by kernel_rfl)) (fun X=>by kernel_rfl))
theorem ja.p8:PcA ja.G Try.f57 8:=
 jB (s:=ja.c18r) (by kernel_rfl) (by kernel_rfl) (jC (sh:=ja.c2x0) (fun ρ X Z=>(jo jd jd)) (fun ρ X t k=>(by kernel_rfl)) (fun X=>by kernel_rfl))
theorem ja.p9:PcA ja.G Try.f57 9:=
 jB (s:=ja.c22r) (by kernel_rfl) (by kernel_rfl) (jC (sh:=ja.c22s) (fun ρ X Z=>(je fun _=>(je fun _=>jd))) (fun ρ X t k=>(by kernel_rfl)) (fun X=>by kernel_rfl))
theorem ja.p10:PcA ja.G Try.f57 10:=
 jB (s:=ja.c23r) (by kernel_rfl) (by kernel_rfl) (jC (sh:=ja.c22x0) (fun ρ X Z=>(jo jd jd)) (fun ρ X t k=>(by kernel_rfl)) (fun X=>by kernel_rfl))
theorem ja.ok:MOk Try.prog 57 ja.mc:=kW (mc:=ja.mc) (G:=ja.G) Jn mixed Try.func57 ⟨Je,(JX ja.self.ok jY),jN⟩ (m:=11) (by kernel_rfl) ⟨⟨⟨⟨⟨⟨⟨⟨⟨⟨⟨trivial,ja.p0⟩,ja.p1⟩,ja.p2⟩,ja.p3⟩,ja.p4⟩,ja.p5⟩,ja.p6⟩,ja.p7⟩,ja.p8⟩,ja.p9⟩,ja.p10⟩ (by kernel_rfl) (fun _=>by kernel_rfl)
end
@[reducible] def ja.fuel:Nat→ja.Self
 | 0=>⟨fun _=>none,⟨⟨Try.f57,Try.func57,by kernel_rfl,by kernel_rfl⟩,fun _ _ _ _ _ _ _ hy=>by cases hy⟩⟩
 | n+1=>⟨fun X=>(@ja.mc (ja.fuel n)).F X,@ja.ok (ja.fuel n)⟩
def kb (X:densU ja.self.pre.tys):Option (densU ja.self.post.tys):=(ja.fuel (3)).F X
def kb.mc:MCallee:=⟨57,ja.self.pre,ja.self.post,fun X=>kb X⟩
theorem kb.ok:MOk Try.prog 57 kb.mc:=mok_diag (F:=fun n=>(ja.fuel n).F) (fun n=>(ja.fuel n).ok) (fun X=>3)
abbrev tb28:SD:=.one (.ref 1000700 0)
abbrev tb29:SO:=.box [.own 1000701 0,.own 1000702 0]
abbrev tb30:SO:=.arr 0 false 53 (.st (.pair (.int .i64) (.pair (.int .i64) (.pair (.sl (.int .i64)) (.pair (.int .i64) (.pair (.int .i64) (.sl (.int .i64))))))))
def jx.pre:Shape:=⟨[(0,tb28),(1,tb25)],[(1000700,tb29),(1000701,tb22),(1000702,tb30)]⟩
def jx.post:Shape:=⟨[],[(1000701,tb22),(1000702,tb30),(1000700,tb29)]⟩
def jx.c4 (i:Int)(o0:Int)(o1:Int)(o2:List Int)(o3:Int)(o4:Int)(o5:List Int)(ud:List YP)(Z:List YP→Option ρ):Option ρ:=
 bnd (inR (List.length ud) i) fun y=>
 bnd (idx ud i) fun y1=>
 bnd (kb (y1,(o0,o1,o2,o3,o4,o5),())) fun y2=>
 bnd (inR (List.length ud) i) fun y3=>
 bnd (idx ud i) fun y4=>
 Z (List.set ud (Int.toNat i) y2.1)
def jx.c4s:Shape:=⟨[(0,tb28),(1,tb25),(3,tb12),(4,tb5),(9,tb5),(10,tb5)],[(3,tb26),(1000700,tb29),(1000701,tb22),(1000702,tb30)]⟩
def jx.c4r:Ck:=Ck.of (T:=List YP) jx.c4s (fun ρ X Z=>jx.c4 X.2.1 (q4 X).1 (q4 X).2.1 (q4 X).2.2.1 (q4 X).2.2.2.1 (q8 X).1 (q8 X).2.1 (q8 X).2.2.1 Z) (fun ρ X V Z=>Z 0 (Shape.inj jx.c4s (X.1,X.2.1,X.2.2.1,X.2.2.2.1,(q4 X).1,(q4 X).2.1,(q4 X).2.2.1,(q4 X).2.2.2.1,(q8 X).1,(q8 X).2.1,V,(q8 X).2.2.2)))
def jx.cb_ (t9:Int)(t10:Int)(o0:Int)(o1:Int)(o2:List Int)(o3:Int)(o4:Int)(o5:List Int)(ud:List YP)(Z:(Int×(List YP))⊕(Int×(List YP))→Option ρ):Option ρ:=
 br (decide (t10<t9))
 (bnd (jx.c4 t10 o0 o1 o2 o3 o4 o5 ud some) fun y=>
 Z (.inl ((IntKind.i64.wrap (t10+(1:Int))),y)))
 (Z (.inr (t10,ud)))
def jx.cb_s:Shape:=⟨[(0,tb28),(1,tb25),(3,tb12),(9,tb5),(10,tb5)],[(3,tb26),(1000700,tb29),(1000701,tb22),(1000702,tb30)]⟩
def jx.cb_r:Ck:=Ck.ofLoop (S:=Int×(List YP)) (T:=Int×(List YP)) jx.cb_s (fun X=>(X.2.2.1,(q8 X).2.1)) (fun ρ X Q Z=>jx.cb_ X.2.1 Q.1 X.2.2.2.1 (q4 X).1 (q4 X).2.1 (q4 X).2.2.1 (q4 X).2.2.2.1 (q8 X).1 Q.2 Z) (fun ρ X V Z=>Z 2 (Shape.inj jx.cb_s (X.1,X.2.1,V.1,X.2.2.2.1,(q4 X).1,(q4 X).2.1,(q4 X).2.2.1,(q4 X).2.2.2.1,(q8 X).1,V.2,(q8 X).2.2)))
def jx.c6 (o0:Int)(o1:Int)(o2:List Int)(o3:Int)(o4:Int)(o5:List Int)(ue:List YO)(Z:Unit→Option ρ):Option ρ:=
 bnd (okIf (decide ((List.length ue+(1:Nat))*(80:Nat)≤(140737488355328:Nat))&&decide (List.length ue+(1:Nat)≤(140737488355328:Nat)))) fun y=>
 Z ()
def jx.c6r:Ck:=Ck.of (T:=Unit) jx.cb_s (fun ρ X Z=>jx.c6 X.2.2.2.1 (q4 X).1 (q4 X).2.1 (q4 X).2.2.1 (q4 X).2.2.2.1 (q8 X).1 (q8 X).2.2.1 Z) (fun ρ X V Z=>Z 0 (Shape.inj jx.cb_s (X.1,X.2.1,X.2.2.1,X.2.2.2.1,(q4 X).1,(q4 X).2.1,(q4 X).2.2.1,(q4 X).2.2.2.1,(q8 X).1,(q8 X).2.1,((q8 X).2.2.1++[(X.2.2.2.1,(q4 X).1,(q4 X).2.1,(q4 X).2.2.1,(q4 X).2.2.2.1,(q8 X).1)]),())))
def jx (o:YO) (ud:List YP) (ue:List YO):Option ((List YP)×(List YO)×Unit):=
 bnd (iter (fun s↦jx.cb_ (↑(List.length ud):Int) s.1 o.1 o.2.1 o.2.2.1 o.2.2.2.1 o.2.2.2.2.1 o.2.2.2.2.2 s.2 some) ((0:Int),ud)) fun y=>
 bnd (jx.c6 o.1 o.2.1 o.2.2.1 o.2.2.2.1 o.2.2.2.2.1 o.2.2.2.2.2 ue some) fun y1=>
 some (y.2,ue++[(o.1,o.2.1,o.2.2.1,o.2.2.2.1,o.2.2.2.2.1,o.2.2.2.2.2)],())
def jx.mc:MCallee:=⟨67,jx.pre,jx.post,fun X=>jx X.1 X.2.1 X.2.2.1⟩
def jx.G:Env:=⟨39,tab,[],[0,1,3,4,9,10,11],[1000700,1000701,1000702],[(6,[⟨[],[],[30,31,32,33,34,35,36],[35,1000702]⟩,⟨[],[],[29,34,35],[35]⟩,⟨[1],[],[29,34,35],[35]⟩,⟨[2,1],[],[29,34,35],[35]⟩,⟨[3,2,1],[],[29,34,35],[35]⟩,⟨[],[],[29,30,31,32,33],[]⟩,⟨[5],[35],[29,30,31,32,33],[]⟩,⟨[4,3,2,1,6,5],[1000702],[29],[]⟩,⟨[0,1,2,3,4,5,6,7],[],[],[]⟩,⟨[8,0,1,2,3,4,5,6,7],[],[],[]⟩,⟨[9,8,0,1,2,3,4,5,6,7],[1000700],[],[]⟩]),
 (4,[⟨[],[],[17,18,19,20,21,22,23,24,25,26],[]⟩,⟨[0],[],[17,18,19,20,21,22,23,24,25,26],[]⟩,⟨[1,0],[],[17,18,19,20,21,22,23,24,25,26],[]⟩,⟨[2,1,0],[],[17,18,19,20,21,22,23,24,25,26],[]⟩,⟨[],[],[13,14,15,16,18,19,20,21,22,23,24,25,26],[]⟩,⟨[],[],[13,14,15,16,17,22,25],[]⟩,⟨[5],[],[13,14,15,16,17,22,25],[]⟩,⟨[6,5],[],[13,14,15,16,17,22,25],[]⟩,⟨[7,6,5],[],[13,14,15,16,17,22,25],[]⟩,⟨[],[],[13,14,15,16,17,18,19,20,21,25],[]⟩,⟨[8,7,6,5,9],[],[13,14,15,16,17,25],[]⟩,⟨[10,8,7,6,5,9],[],[13,14,15,16,17,25],[]⟩,⟨[],[],[13,14,15,16,17,18,19,20,21,22,23,24],[]⟩,⟨[11,10,8,7,6,5,9,12],[],[13,14,15,16,17],[]⟩,⟨[3,2,1,0,4,5,6,7,8,9,10,11,12,13],[],[],[]⟩,⟨[14,3,2,1,0,4,5,6,7,8,9,10,11,12,13],[1000701],[],[]⟩])],[(6,jx.c6r),(100002,jx.cb_r),(4,jx.c4r)],[(57,kb.mc)],Jd⟩
theorem jx.p0:PcA jx.G Try.f67 0:=
 Jo (s:=jx.cb_r) (by kernel_rfl) (by kernel_rfl) (Jg (sh:=jx.cb_s) (I:=fun X Q=>(X.1,X.2.1,Q.1,X.2.2.2.1,(q4 X).1,(q4 X).2.1,(q4 X).2.2.1,(q4 X).2.2.2.1,(q8 X).1,Q.2,(q8 X).2.2)) (fun X=>rfl) (fun ρ X Q Z=>(jo (je fun _=>jd) jd)) (fun ρ X t k=>(by kernel_rfl)) (fun X s=>by kernel_rfl))
theorem jx.p1:PcA jx.G Try.f67 1:=
 jB (s:=jx.c4r) (by kernel_rfl) (by kernel_rfl) (jC (sh:=jx.c4s) (fun ρ X Z=>(je fun _=>(je fun _=>(je fun _=>(je fun _=>(je fun _=>jd)))))) (fun ρ X t k=>(by kernel_rfl)) (fun X=>by kernel_rfl))
theorem jx.p2:PcA jx.G Try.f67 2:=
 jB (s:=jx.c6r) (by kernel_rfl) (by kernel_rfl) (jC (sh:=jx.cb_s) (fun ρ X Z=>(je fun _=>jd)) (fun ρ X t k=>(by kernel_rfl)) (fun X=>by kernel_rfl))
theorem jx.ok:MOk Try.prog 67 jx.mc:=kW (mc:=jx.mc) (G:=jx.G) Jn mixed Try.func67 ⟨Je,(JX kb.ok jY),jN⟩ (m:=3) (by kernel_rfl) ⟨⟨⟨trivial,jx.p0⟩,jx.p1⟩,jx.p2⟩ (by kernel_rfl) (fun _=>by kernel_rfl)
def jf.pre:Shape:=⟨[(0,tb28),(1,tb5),(2,tb5),(3,tb5)],[(1000700,tb29),(1000701,tb22),(1000702,tb30)]⟩
def jf.post:Shape:=⟨[],[(1000701,tb22),(1000702,tb30),(1000700,tb29)]⟩
def jf.cK_ (i:Int)(j:Int)(ud:List YP)(ue:List YO)(Z:(List YP)×(List YO)→Option ρ):Option ρ:=
 bnd (inR (List.length ud) i) fun y=>
 bnd (idx ud i) fun y1=>
 bnd (okIf (decide ((0:Int)≤j))) fun y2=>
 br (ibits BinOp.and IntKind.u64 (Int.fdiv y1.2.1 ((2:Int)^Min.min (Int.toNat j) (64:Nat))) (1:Int)==(1:Int))
 (bnd (okIf (decide ((0:Int)≤j))) fun y3=>
 br (ibits BinOp.and IntKind.u64 (Int.fdiv y1.1 ((2:Int)^Min.min (Int.toNat j) (64:Nat))) (1:Int)==(1:Int))
 (bnd (jx ((4:Int),(4:Int),[],j,(0:Int),[]) ud ue) fun y4=>
 Z (y4.1,y4.2.1))
 (bnd (jx ((3:Int),(0:Int),[],j,(0:Int),[]) ud ue) fun y5=>
 Z (y5.1,y5.2.1)))
 (Z (ud,ue))
def jf.cK_s:Shape:=⟨[(0,tb28),(1,tb5),(2,tb5),(3,tb5),(8,tb5)],[(1000700,tb29),(1000701,tb22),(1000702,tb30)]⟩
def jf.cK_r:Ck:=Ck.of (T:=(List YP)×(List YO)) jf.cK_s (fun ρ X Z=>jf.cK_ X.1 X.2.2.2.1 (q4 X).1 (q4 X).2.1 Z) (fun ρ X V Z=>Z 0 (Shape.inj jf.cK_s (X.1,X.2.1,X.2.2.1,X.2.2.2.1,V.1,V.2,())))
def jf.ci_ (i:Int)(n:Int)(j:Int)(ud:List YP)(ue:List YO)(Z:(Int×(List YP)×(List YO))⊕(Int×(List YP)×(List YO))→Option ρ):Option ρ:=
 br (decide (j<n))
 (bnd (jf.cK_ i j ud ue some) fun y=>
 Z (.inl ((IntKind.i64.wrap (j+(1:Int))),y.1,y.2)))
 (Z (.inr (j,ud,ue)))
def jf.ci_r:Ck:=Ck.ofLoop (S:=Int×(List YP)×(List YO)) (T:=Int×(List YP)×(List YO)) jf.cK_s (fun X=>(X.2.2.2.1,(q4 X).1,(q4 X).2.1)) (fun ρ X Q Z=>jf.ci_ X.1 X.2.2.1 Q.1 Q.2.1 Q.2.2 Z) (fun ρ X V Z=>Z 2 (Shape.inj jf.cK_s (X.1,X.2.1,X.2.2.1,V.1,V.2.1,V.2.2,())))
def jf.c9 (i:Int)(q:Int)(n:Int)(j_1:Int)(ud:List YP)(Z:Bool→Option ρ):Option ρ:=
 br (decide (j_1<n))
 (bnd (inR (List.length ud) i) fun y=>
 bnd (idx ud i) fun y1=>
 bnd (okIf (decide ((0:Int)≤q))) fun y2=>
 Z (ibits BinOp.and IntKind.u64 (Int.fdiv y1.1 ((2:Int)^Min.min (Int.toNat q) (64:Nat))) (1:Int)==(0:Int)))
 (Z false)
def jf.c9s:Shape:=⟨[(0,tb28),(1,tb5),(2,tb5),(3,tb5),(8,tb5),(10,tb5)],[(1000700,tb29),(1000701,tb22),(1000702,tb30)]⟩
def jf.c9x0:Shape:=⟨[(0,tb28),(1,tb5),(2,tb5),(3,tb5),(8,tb5),(10,tb5),(63,tb7)],[(1000700,tb29),(1000701,tb22),(1000702,tb30)]⟩
def jf.c9r:Ck:=Ck.of (T:=Bool) jf.c9s (fun ρ X Z=>jf.c9 X.1 X.2.1 X.2.2.1 (q4 X).1 (q4 X).2.1 Z) (fun ρ X V Z=>Z 0 (Shape.inj jf.c9x0 (X.1,X.2.1,X.2.2.1,X.2.2.2.1,(q4 X).1,V,(q4 X).2)))
def jf.cZ_ (i:Int)(q:Int)(j_1:Int)(ud:List YP)(ue:List YO)(Z:(List YP)×(List YO)→Option ρ):Option ρ:=
 bnd (inR (List.length ud) i) fun y=>
 bnd (idx ud i) fun y1=>
 bnd (okIf (decide ((0:Int)≤j_1))) fun y2=>
 br (ibits BinOp.and IntKind.u64 (Int.fdiv y1.1 ((2:Int)^Min.min (Int.toNat j_1) (64:Nat))) (1:Int)==(1:Int))
 (bnd (jx ((2:Int),(0:Int),[j_1],q,(0:Int),[]) ud ue) fun y3=>
 Z (y3.1,y3.2.1))
 (Z (ud,ue))
def jf.cZ_r:Ck:=Ck.of (T:=(List YP)×(List YO)) jf.c9s (fun ρ X Z=>jf.cZ_ X.1 X.2.1 (q4 X).1 (q4 X).2.1 (q4 X).2.2.1 Z) (fun ρ X V Z=>Z 0 (Shape.inj jf.c9s (X.1,X.2.1,X.2.2.1,X.2.2.2.1,(q4 X).1,V.1,V.2,())))
def jf.co_ (i:Int)(q:Int)(n:Int)(j_1:Int)(ud:List YP)(ue:List YO)(Z:(Int×(List YP)×(List YO))⊕(Int×(List YP)×(List YO))→Option ρ):Option ρ:=
 bnd (jf.c9 i q n j_1 ud some) fun y=>
 br y
 (bnd (jf.cZ_ i q j_1 ud ue some) fun y1=>
 Z (.inl ((IntKind.i64.wrap (j_1+(1:Int))),y1.1,y1.2)))
 (Z (.inr (j_1,ud,ue)))
def jf.co_r:Ck:=Ck.ofLoop (S:=Int×(List YP)×(List YO)) (T:=Int×(List YP)×(List YO)) jf.c9s (fun X=>((q4 X).1,(q4 X).2.1,(q4 X).2.2.1)) (fun ρ X Q Z=>jf.co_ X.1 X.2.1 X.2.2.1 Q.1 Q.2.1 Q.2.2 Z) (fun ρ X V Z=>Z 4 (Shape.inj jf.c9s (X.1,X.2.1,X.2.2.1,X.2.2.2.1,V.1,V.2.1,V.2.2,())))
def jf.cN_ (i:Int)(q:Int)(j_2:Int)(ud:List YP)(ue:List YO)(Z:(List YP)×(List YO)→Option ρ):Option ρ:=
 bnd (inR (List.length ud) i) fun y=>
 bnd (idx ud i) fun y1=>
 bnd (okIf (decide ((0:Int)≤j_2))) fun y2=>
 br (ibits BinOp.and IntKind.u64 (Int.fdiv y1.1 ((2:Int)^Min.min (Int.toNat j_2) (64:Nat))) (1:Int)==(1:Int))
 (bnd (jx ((2:Int),(0:Int),[q],j_2,(0:Int),[]) ud ue) fun y3=>
 Z (y3.1,y3.2.1))
 (Z (ud,ue))
def jf.cN_s:Shape:=⟨[(0,tb28),(1,tb5),(2,tb5),(3,tb5),(8,tb5),(10,tb5),(11,tb5)],[(1000700,tb29),(1000701,tb22),(1000702,tb30)]⟩
def jf.cN_r:Ck:=Ck.of (T:=(List YP)×(List YO)) jf.cN_s (fun ρ X Z=>jf.cN_ X.1 X.2.1 (q4 X).2.1 (q4 X).2.2.1 (q4 X).2.2.2.1 Z) (fun ρ X V Z=>Z 0 (Shape.inj jf.cN_s (X.1,X.2.1,X.2.2.1,X.2.2.2.1,(q4 X).1,(q4 X).2.1,V.1,V.2,())))
def jf.ck_ (i:Int)(q:Int)(n:Int)(j_2:Int)(ud:List YP)(ue:List YO)(Z:(Int×(List YP)×(List YO))⊕(Int×(List YP)×(List YO))→Option ρ):Option ρ:=
 br (decide (j_2<n))
 (bnd (jf.cN_ i q j_2 ud ue some) fun y=>
 Z (.inl ((IntKind.i64.wrap (j_2+(1:Int))),y.1,y.2)))
 (Z (.inr (j_2,ud,ue)))
def jf.ck_r:Ck:=Ck.ofLoop (S:=Int×(List YP)×(List YO)) (T:=Int×(List YP)×(List YO)) jf.cN_s (fun X=>((q4 X).2.1,(q4 X).2.2.1,(q4 X).2.2.2.1)) (fun ρ X Q Z=>jf.ck_ X.1 X.2.1 X.2.2.1 Q.1 Q.2.1 Q.2.2 Z) (fun ρ X V Z=>Z 6 (Shape.inj jf.cN_s (X.1,X.2.1,X.2.2.1,X.2.2.2.1,(q4 X).1,V.1,V.2.1,V.2.2,())))
def jf (i:Int) (q:Int) (n:Int) (ud:List YP) (ue:List YO):Option ((List YP)×(List YO)×Unit):=
 bnd (iter (fun s↦jf.ci_ i n s.1 s.2.1 s.2.2 some) (q,ud,ue)) fun y=>
 bnd (iter (fun s↦jf.co_ i q n s.1 s.2.1 s.2.2 some) (IntKind.i64.wrap (q+(1:Int)),y.2.1,y.2.2)) fun y1=>
 bnd (iter (fun s↦jf.ck_ i q n s.1 s.2.1 s.2.2 some) (IntKind.i64.wrap (q+(1:Int)),y1.2.1,y1.2.2)) fun y2=>
 some (y2.2.1,y2.2.2,())
def jf.mc:MCallee:=⟨68,jf.pre,jf.post,fun X=>jf X.1 X.2.1 X.2.2.1 X.2.2.2.1 (q4 X).1⟩
def jf.G:Env:=⟨109,tab,[],[0,1,2,3,8,9,10,11,15,30,36,63,77,88,102],[1000700,1000701,1000702],[],[(100014,jf.ck_r),(265542,jf.cN_r),(100009,jf.co_r),(245062,jf.cZ_r),(9,jf.c9r),(100001,jf.ci_r),(212300,jf.cK_r)],[(67,jx.mc)],Jd⟩
theorem jf.p0:PcA jf.G Try.f68 0:=
 Jo (s:=jf.ci_r) (by kernel_rfl) (by kernel_rfl) (Jg (sh:=jf.cK_s) (I:=fun X Q=>(X.1,X.2.1,X.2.2.1,Q.1,Q.2.1,Q.2.2,())) (fun X=>rfl) (fun ρ X Q Z=>(jo (je fun _=>jd) jd)) (fun ρ X t k=>(by kernel_rfl)) (fun X s=>by kernel_rfl))
theorem jf.p1:PcA jf.G Try.f68 1:=
 kq (s:=jf.cK_r) (by kernel_rfl) (by kernel_rfl) (jC (sh:=jf.cK_s) (fun ρ X Z=>(je fun _=>(je fun _=>(je fun _=>(jo (je fun _=>(jo (je fun _=>jd) (je fun _=>jd))) jd))))) (fun ρ X t k=>(by kernel_rfl)) (fun X=>by kernel_rfl))
theorem jf.p2:PcA jf.G Try.f68 2:=
 Jo (s:=jf.co_r) (by kernel_rfl) (by kernel_rfl) (Jg (sh:=jf.c9s) (I:=fun X Q=>(X.1,X.2.1,X.2.2.1,X.2.2.2.1,Q.1,Q.2.1,Q.2.2,())) (fun X=>rfl) (fun ρ X Q Z=>(je fun _=>(jo (je fun _=>jd) jd))) (fun ρ X t k=>(by kernel_rfl)) (fun X s=>by kernel_rfl))
theorem jf.p3:PcA jf.G Try.f68 3:=
 jB (s:=jf.c9r) (by kernel_rfl) (by kernel_rfl) (jC (sh:=jf.c9s) (fun ρ X Z=>(jo (je fun _=>(je fun _=>(je fun _=>jd))) jd)) (fun ρ X t k=>(by kernel_rfl)) (fun X=>by kernel_rfl))
theorem jf.p4:PcA jf.G Try.f68 4:=
 kq (s:=jf.cZ_r) (by kernel_rfl) (by kernel_rfl) (jC (sh:=jf.c9s) (fun ρ X Z=>(je fun _=>(je fun _=>(je fun _=>(jo (je fun _=>jd) jd))))) (fun ρ X t k=>(by kernel_rfl)) (fun X=>by kernel_rfl))
theorem jf.p5:PcA jf.G Try.f68 5:=
 Jo (s:=jf.ck_r) (by kernel_rfl) (by kernel_rfl) (Jg (sh:=jf.cN_s) (I:=fun X Q=>(X.1,X.2.1,X.2.2.1,X.2.2.2.1,(q4 X).1,Q.1,Q.2.1,Q.2.2,())) (fun X=>rfl) (fun ρ X Q Z=>(jo (je fun _=>jd) jd)) (fun ρ X t k=>(by kernel_rfl)) (fun X s=>by kernel_rfl))
theorem jf.p6:PcA jf.G Try.f68 6:=
 kq (s:=jf.cN_r) (by kernel_rfl) (by kernel_rfl) (jC (sh:=jf.cN_s) (fun ρ X Z=>(je fun _=>(je fun _=>(je fun _=>(jo (je fun _=>jd) jd))))) (fun ρ X t k=>(by kernel_rfl)) (fun X=>by kernel_rfl))
theorem jf.ok:MOk Try.prog 68 jf.mc:=kW (mc:=jf.mc) (G:=jf.G) Jn mixed Try.func68 ⟨Je,(JX jx.ok jY),jN⟩ (m:=7) (by kernel_rfl) ⟨⟨⟨⟨⟨⟨⟨trivial,jf.p0⟩,jf.p1⟩,jf.p2⟩,jf.p3⟩,jf.p4⟩,jf.p5⟩,jf.p6⟩ (by kernel_rfl) (fun _=>by kernel_rfl)
abbrev tb31:SD:=.one (.val (.sl (.st (.pair (.int .i64) (.pair (.int .i64) (.pair (.sl (.int .i64)) (.pair (.int .i64) (.pair (.int .i64) (.sl (.int .i64))))))))))
abbrev tb32:SO:=.box [.own 9 0,.own 2011 0]
def js.cM_ (i:Int)(t30:Int)(t9:List YP)(ug:List YO)(Z:(List YP)×(List YO)→Option ρ):Option ρ:=
 bnd (inR (List.length t9) i) fun y=>
 bnd (idx t9 i) fun y1=>
 bnd (okIf (decide ((0:Int)≤t30))) fun y2=>
 br (ibits BinOp.and IntKind.u64 (Int.fdiv y1.2.1 ((2:Int)^Min.min (Int.toNat t30) (64:Nat))) (1:Int)==(1:Int))
 (bnd (jx ((2:Int),(0:Int),[t30],i,(0:Int),[]) t9 ug) fun y3=>
 Z (y3.1,y3.2.1))
 (Z (t9,ug))
def js.cM_s:Shape:=⟨[(0,tb17),(1,tb5),(4,tb31),(5,tb23),(6,tb5),(16,tb5),(17,tb5),(29,tb5),(30,tb5)],[(9,tb22),(11,tb32),(2011,tb30)]⟩
def js.cM_r:Ck:=Ck.of (T:=(List YP)×(List YO)) js.cM_s (fun ρ X Z=>js.cM_ X.2.2.2.1 (q4 X).2.2.2.1 (q8 X).1 (q8 X).2.1 Z) (fun ρ X V Z=>Z 0 (Shape.inj js.cM_s (X.1,X.2.1,X.2.2.1,X.2.2.2.1,(q4 X).1,(q4 X).2.1,(q4 X).2.2.1,(q4 X).2.2.2.1,V.1,V.2,())))
def js.cc_ (i:Int)(t29:Int)(t30:Int)(t9:List YP)(ug:List YO)(Z:(Int×(List YP)×(List YO))⊕(Int×(List YP)×(List YO))→Option ρ):Option ρ:=
 br (decide (t30<t29))
 (bnd (js.cM_ i t30 t9 ug some) fun y=>
 Z (.inl ((IntKind.i64.wrap (t30+(1:Int))),y.1,y.2)))
 (Z (.inr (t30,t9,ug)))
def js.cc_r:Ck:=Ck.ofLoop (S:=Int×(List YP)×(List YO)) (T:=Int×(List YP)×(List YO)) js.cM_s (fun X=>((q4 X).2.2.2.1,(q8 X).1,(q8 X).2.1)) (fun ρ X Q Z=>js.cc_ X.2.2.2.1 (q4 X).2.2.1 Q.1 Q.2.1 Q.2.2 Z) (fun ρ X V Z=>Z 4 (Shape.inj js.cM_s (X.1,X.2.1,X.2.2.1,X.2.2.2.1,(q4 X).1,(q4 X).2.1,(q4 X).2.2.1,V.1,V.2.1,V.2.2,())))
def js.cD_ (n:Int)(t17:Int)(t9:List YP)(ug:List YO)(Z:(List YP)×(List YO)→Option ρ):Option ρ:=
 bnd (jf t17 t17 n t9 ug) fun y=>
 bnd (jx ((3:Int),(0:Int),[],t17,(0:Int),[]) y.1 y.2.1) fun y1=>
 bnd (iter (fun s↦js.cc_ t17 t17 s.1 s.2.1 s.2.2 some) ((0:Int),y1.1,y1.2.1)) fun y2=>
 bnd (inR (List.length y2.2.1) t17) fun y3=>
 bnd (idx y2.2.1 t17) fun y4=>
 br y4.2.2
 (bnd (jx ((2:Int),(0:Int),[],t17,(0:Int),[]) y2.2.1 y2.2.2) fun y5=>
 Z (y5.1,y5.2.1))
 (Z (y2.2.1,y2.2.2))
def js.cD_s:Shape:=⟨[(0,tb17),(1,tb5),(4,tb31),(5,tb23),(16,tb5),(17,tb5)],[(9,tb22),(11,tb32),(2011,tb30)]⟩
def js.cD_r:Ck:=Ck.of (T:=(List YP)×(List YO)) js.cD_s (fun ρ X Z=>js.cD_ X.2.1 (q4 X).1 (q4 X).2.1 (q4 X).2.2.1 Z) (fun ρ X V Z=>Z 0 (Shape.inj js.cD_s (X.1,X.2.1,X.2.2.1,X.2.2.2.1,(q4 X).1,V.1,V.2,())))
def js.ca_ (n:Int)(t16:Int)(t17:Int)(t9:List YP)(ug:List YO)(Z:(Int×(List YP)×(List YO))⊕(Int×(List YP)×(List YO))→Option ρ):Option ρ:=
 br (decide (t17<t16))
 (bnd (js.cD_ n t17 t9 ug some) fun y=>
 Z (.inl ((IntKind.i64.wrap (t17+(1:Int))),y.1,y.2)))
 (Z (.inr (t17,t9,ug)))
def js.ca_r:Ck:=Ck.ofLoop (S:=Int×(List YP)×(List YO)) (T:=Int×(List YP)×(List YO)) js.cD_s (fun X=>((q4 X).1,(q4 X).2.1,(q4 X).2.2.1)) (fun ρ X Q Z=>js.ca_ X.2.1 X.2.2.2.1 Q.1 Q.2.1 Q.2.2 Z) (fun ρ X V Z=>Z 2 (Shape.inj js.cD_s (X.1,X.2.1,X.2.2.1,X.2.2.2.1,V.1,V.2.1,V.2.2,())))
def js (l:List YP) (n:Int):Option (List YO):=
 bnd (okIf (decide (((0:Nat)+List.length l)*(24:Nat)≤(140737488355328:Nat))&&decide ((0:Nat)+List.length l≤(140737488355328:Nat)))) fun y=>
 bnd (iter (fun s↦js.ca_ n (↑(List.length l):Int) s.1 s.2.1 s.2.2 some) ((0:Int),l,[])) fun y1=>
 some y1.2.2
def js.ce:Go.Ql.Callee:=⟨[(.sl (.st (.pair (.int .u64) (.pair (.int .u64) .bool)))),(.int .i64)],[(.sl (.st (.pair (.int .i64) (.pair (.int .i64) (.pair (.sl (.int .i64)) (.pair (.int .i64) (.pair (.int .i64) (.sl (.int .i64)))))))))],fun X=>js X.1 X.2⟩
def js.G:Env:=⟨69,tab,[],[0,1,4,5,6,7,16,17,18,29,30,31,44,59],[9,10,11,2011],[],[(100003,js.ca_r),(216417,js.cD_r),(100008,js.cc_r),(236872,js.cM_r)],[(68,jf.mc),(67,jx.mc)],Jd⟩
theorem js.p0:PcA js.G Try.f71 0:=
 Jo (s:=js.ca_r) (by kernel_rfl) (by kernel_rfl) (Jg (sh:=js.cD_s) (I:=fun X Q=>(X.1,X.2.1,X.2.2.1,X.2.2.2.1,Q.1,Q.2.1,Q.2.2,())) (fun X=>rfl) (fun ρ X Q Z=>(jo (je fun _=>jd) jd)) (fun ρ X t k=>(by kernel_rfl)) (fun X s=>by kernel_rfl))
theorem js.p1:PcA js.G Try.f71 1:=
 kq (s:=js.cD_r) (by kernel_rfl) (by kernel_rfl) (jC (sh:=js.cD_s) (fun ρ X Z=>(je fun _=>(je fun _=>(je fun _=>(je fun _=>(je fun _=>(jo (je fun _=>jd) jd))))))) (fun ρ X t k=>(by kernel_rfl)) (fun X=>by kernel_rfl))
theorem js.p2:PcA js.G Try.f71 2:=
 Jo (s:=js.cc_r) (by kernel_rfl) (by kernel_rfl) (Jg (sh:=js.cM_s) (I:=fun X Q=>(X.1,X.2.1,X.2.2.1,X.2.2.2.1,(q4 X).1,(q4 X).2.1,(q4 X).2.2.1,Q.1,Q.2.1,Q.2.2,())) (fun X=>rfl) (fun ρ X Q Z=>(jo (je fun _=>jd) jd)) (fun ρ X t k=>(by kernel_rfl)) (fun X s=>by kernel_rfl))
theorem js.p3:PcA js.G Try.f71 3:=
 kq (s:=js.cM_r) (by kernel_rfl) (by kernel_rfl) (jC (sh:=js.cM_s) (fun ρ X Z=>(je fun _=>(je fun _=>(je fun _=>(jo (je fun _=>jd) jd))))) (fun ρ X t k=>(by kernel_rfl)) (fun X=>by kernel_rfl))
theorem js.ok:CalleeOk Try.prog 71 js.ce:=fn_ok (G:=js.G) Jn mixed Try.func71 ⟨Je,(JX jf.ok (JX jx.ok jY)),jN⟩ (m:=4) (by kernel_rfl) ⟨⟨⟨⟨trivial,js.p0⟩,js.p1⟩,js.p2⟩,js.p3⟩ (by kernel_rfl) (fun _=>by kernel_rfl)
def JV (code:Int) (t1:Int):Option (Int×Int):=
 some (code,t1)
def JV.ce:Go.Ql.Callee:=⟨[(.int .i64),(.int .i64)],[(.st (.pair (.int .i64) (.int .i64)))],fun X=>JV X.1 X.2⟩
def JV.G:Env:=⟨8,tab,[],[0,1,4],[],[],[],[],Jd⟩
theorem JV.ok:CalleeOk Try.prog 80 JV.ce:=fn_ok (G:=JV.G) Jn mixed Try.func80 ⟨Je,jY,jN⟩ (m:=0) (by kernel_rfl) trivial (by kernel_rfl) (fun _=>by kernel_rfl)
def JF.c1 (kind:Int)(Z:Bool→Option ρ):Option ρ:=
 br (kind==(1:Int))
 (Z true)
 (Z (kind==(4:Int)))
def JF.c1s:Shape:=⟨[(0,tb5),(2,tb7)],[]⟩
def JF.c1r:Ck:=Ck.of (T:=Bool) JF.c1s (fun ρ X Z=>JF.c1 X.1 Z) (fun ρ X V Z=>Z 0 (Shape.inj JF.c1s (X.1,V,())))
def JF (kind:Int):Option Bool:=
 bnd (JF.c1 kind some) fun y=>
 some y
def JF.ce:Go.Ql.Callee:=⟨[(.int .i64)],[.bool],fun X=>JF X⟩
def JF.G:Env:=⟨9,tab,[],[0,2],[],[],[(1,JF.c1r)],[],Jd⟩
theorem JF.p0:PcA JF.G Try.f116 0:=
 jB (s:=JF.c1r) (by kernel_rfl) (by kernel_rfl) (jC (sh:=JF.c1s) (fun ρ X Z=>(jo jd jd)) (fun ρ X t k=>(by kernel_rfl)) (fun X=>by kernel_rfl))
theorem JF.ok:CalleeOk Try.prog 116 JF.ce:=fn_ok (G:=JF.G) Jn mixed Try.func116 ⟨Je,jY,jN⟩ (m:=1) (by kernel_rfl) ⟨trivial,JF.p0⟩ (by kernel_rfl) (fun _=>by kernel_rfl)
def JL.c1 (kind:Int)(Z:Bool→Option ρ):Option ρ:=
 br (kind==(2:Int))
 (Z true)
 (br (kind==(3:Int))
 (Z true)
 (Z (kind==(4:Int))))
def JL.c1s:Shape:=⟨[(0,tb5),(2,tb7)],[]⟩
def JL.c1r:Ck:=Ck.of (T:=Bool) JL.c1s (fun ρ X Z=>JL.c1 X.1 Z) (fun ρ X V Z=>Z 0 (Shape.inj JL.c1s (X.1,V,())))
def JL (kind:Int):Option Bool:=
 bnd (JL.c1 kind some) fun y=>
 some y
def JL.ce:Go.Ql.Callee:=⟨[(.int .i64)],[.bool],fun X=>JL X⟩
def JL.G:Env:=⟨13,tab,[],[0,2],[],[],[(1,JL.c1r)],[],Jd⟩
theorem JL.p0:PcA JL.G Try.f117 0:=
 jB (s:=JL.c1r) (by kernel_rfl) (by kernel_rfl) (jC (sh:=JL.c1s) (fun ρ X Z=>(jo jd (jo jd jd))) (fun ρ X t k=>(by kernel_rfl)) (fun X=>by kernel_rfl))
theorem JL.ok:CalleeOk Try.prog 117 JL.ce:=fn_ok (G:=JL.G) Jn mixed Try.func117 ⟨Je,jY,jN⟩ (m:=1) (by kernel_rfl) ⟨trivial,JL.p0⟩ (by kernel_rfl) (fun _=>by kernel_rfl)
abbrev tb33:SD:=.one (.ref 1000100 0)
abbrev tb34:SO:=.box [.val (.int .i64),.val (.int .i64),.val (.sl (.st (.pair (.int .i64) (.pair (.int .i64) (.pair (.sl (.int .i64)) (.pair (.int .i64) (.pair (.int .i64) (.sl (.int .i64)))))))))]
abbrev tb35:SD:=.one (.aptr 5 0)
abbrev tb36:SD:=.one (.val (.sl (.int .i64)))
abbrev tb37:SO:=.arr 0 false 152 .bool
def ju.pre:Shape:=⟨[(0,tb25),(1,tb33)],[(1000100,tb34)]⟩
def ju.post:Shape:=⟨[(0,tb5)],[(1000100,tb34)]⟩
def ju.c1 (o0:Int)(Z:Bool→Option ρ):Option ρ:=
 br (decide (o0<(1:Int)))
 (Z true)
 (Z (decide (o0>(6:Int))))
def ju.c1s:Shape:=⟨[(0,tb25),(1,tb33),(2,tb2),(4,tb5)],[(2,tb26),(1000100,tb34)]⟩
def ju.c1x0:Shape:=⟨[(0,tb25),(1,tb33),(2,tb2),(4,tb5),(17,tb7)],[(2,tb26),(1000100,tb34)]⟩
def ju.c1r:Ck:=Ck.of (T:=Bool) ju.c1s (fun ρ X Z=>ju.c1 X.2.2.1 Z) (fun ρ X V Z=>Z 0 (Shape.inj ju.c1x0 (X.1,X.2.1,V,X.2.2)))
def ju.c3 (o0:Int)(o1:Int)(Z:Bool→Option ρ):Option ρ:=
 br (decide (o1<(0:Int)))
 (Z true)
 (br (decide (o1>(15:Int)))
 (Z true)
 (bnd (JF o0) fun y=>
 br (!y)
 (Z (o1 !=(0:Int)))
 (Z false)))
def ju.c3x0:Shape:=⟨[(0,tb25),(1,tb33),(2,tb2),(4,tb5),(36,tb7)],[(2,tb26),(1000100,tb34)]⟩
def ju.c3r:Ck:=Ck.of (T:=Bool) ju.c1s (fun ρ X Z=>ju.c3 X.2.2.1 X.2.2.2.1 Z) (fun ρ X V Z=>Z 0 (Shape.inj ju.c3x0 (X.1,X.2.1,V,X.2.2)))
def ju.c5 (o0:Int)(o3:Int)(ua:Int)(Z:Bool→Option ρ):Option ρ:=
 br (decide (o3<(0:Int)))
 (Z true)
 (br (decide (o3≥ua))
 (Z true)
 (br (o0==(1:Int))
 (Z (o3 !=(0:Int)))
 (Z false)))
def ju.c5x0:Shape:=⟨[(0,tb25),(1,tb33),(2,tb2),(4,tb5),(58,tb7)],[(2,tb26),(1000100,tb34)]⟩
def ju.c5r:Ck:=Ck.of (T:=Bool) ju.c1s (fun ρ X Z=>ju.c5 X.2.2.1 (q4 X).2.1 (q8 X).1 Z) (fun ρ X V Z=>Z 0 (Shape.inj ju.c5x0 (X.1,X.2.1,V,X.2.2)))
def ju.c7 (o0:Int)(o2:List Int)(Z:Bool→Option ρ):Option ρ:=
 br (decide ((↑(List.length o2):Int)>(0:Int)))
 (bnd (JL o0) fun y=>
 Z (!y))
 (Z false)
def ju.c7x0:Shape:=⟨[(0,tb25),(1,tb33),(2,tb2),(4,tb5),(68,tb7)],[(2,tb26),(1000100,tb34)]⟩
def ju.c7r:Ck:=Ck.of (T:=Bool) ju.c1s (fun ρ X Z=>ju.c7 X.2.2.1 (q4 X).1 Z) (fun ρ X V Z=>Z 0 (Shape.inj ju.c7x0 (X.1,X.2.1,V,X.2.2)))
def ju.c14 (q:Int)(ua:Int)(Z:Bool→Option ρ):Option ρ:=
 br (decide (q<(0:Int)))
 (Z true)
 (Z (decide (q≥ua)))
def ju.c14s:Shape:=⟨[(0,tb25),(1,tb33),(2,tb2),(4,tb5),(5,tb35),(7,tb5),(74,tb36),(75,tb5),(76,tb5)],[(2,tb26),(5,tb37),(1000100,tb34)]⟩
def ju.c14x0:Shape:=⟨[(0,tb25),(1,tb33),(2,tb2),(4,tb5),(5,tb35),(7,tb5),(74,tb36),(75,tb5),(76,tb5),(80,tb7)],[(2,tb26),(5,tb37),(1000100,tb34)]⟩
def ju.c14r:Ck:=Ck.of (T:=Bool) ju.c14s (fun ρ X Z=>ju.c14 X.2.2.1 (q4 (q8 X)).2.1 Z) (fun ρ X V Z=>Z 0 (Shape.inj ju.c14x0 (X.1,X.2.1,X.2.2.1,X.2.2.2.1,(q4 X).1,(q4 X).2.1,V,(q4 X).2.2)))
def ju.ce_ (t74:List Int)(t75:Int)(t76:Int)(seen:List Bool)(ua:Int)(Z:(Int×(List Bool))⊕((Int×Int×(List Bool))⊕(Int×(List Bool)))→Option ρ):Option ρ:=
 br (decide (t76<t75))
 (bnd (idx t74 t76) fun y=>
 bnd (ju.c14 y ua some) fun y1=>
 br y1
 (Z (.inr (.inl ((10:Int),t76,seen))))
 (bnd (okIf (decide ((0:Ty.den (Ty.int IntKind.i64))≤y)&&decide (y<(↑(12:Nat):Int)))) fun y2=>
 bnd (inR (List.length seen) y) fun y3=>
 bnd (idx seen y) fun y4=>
 br y4
 (Z (.inr (.inl ((12:Int),t76,seen))))
 (bnd (okIf (decide ((0:Ty.den (Ty.int IntKind.i64))≤y)&&decide (y<(↑(12:Nat):Int)))) fun y5=>
 bnd (inR (List.length seen) y) fun y6=>
 bnd (idx seen y) fun y7=>
 Z (.inl ((IntKind.i64.wrap (t76+(1:Int))),(List.set seen (Int.toNat y) true))))))
 (Z (.inr (.inr (t76,seen))))
def ju.ce_s:Shape:=⟨[(0,tb25),(1,tb33),(2,tb2),(4,tb5),(5,tb35),(74,tb36),(75,tb5),(76,tb5)],[(2,tb26),(5,tb37),(1000100,tb34)]⟩
def ju.ce_r:Ck:=Ck.ofLoop (S:=Int×(List Bool)) (T:=(Int×Int×(List Bool))⊕(Int×(List Bool))) ju.ce_s (fun X=>((q4 X).1,(q8 X).2.2.2.1)) (fun ρ X Q Z=>ju.ce_ X.2.2.1 X.2.2.2.1 Q.1 Q.2 (q4 (q8 X)).1 Z) (fun ρ X V Z=>sel V (fun V=>Z 1 (Shape.inj ju.ce_s (X.1,V.1,X.2.2.1,X.2.2.2.1,V.2.1,(q4 X).2.1,(q4 X).2.2.1,(q4 X).2.2.2.1,(q8 X).1,(q8 X).2.1,(q8 X).2.2.1,V.2.2,(q4 (q8 X))))) (fun V=>Z 2 (Shape.inj ju.ce_s (X.1,X.2.1,X.2.2.1,X.2.2.2.1,V.1,(q4 X).2.1,(q4 X).2.2.1,(q4 X).2.2.2.1,(q8 X).1,(q8 X).2.1,(q8 X).2.2.1,V.2,(q4 (q8 X))))))
def ju.c20 (o0:Int)(o4:Int)(ub:Int)(Z:Bool→Option ρ):Option ρ:=
 br (o0==(5:Int))
 (br (decide (o4<(0:Int)))
 (Z true)
 (br (decide (o4≥ub))
 (Z true)
 (br (o0 !=(5:Int))
 (Z (o4 !=(0:Int)))
 (Z false))))
 (br (o0 !=(5:Int))
 (Z (o4 !=(0:Int)))
 (Z false))
def ju.c20x0:Shape:=⟨[(0,tb25),(1,tb33),(2,tb2),(4,tb5),(5,tb35),(74,tb36),(75,tb5),(76,tb5),(124,tb7)],[(2,tb26),(5,tb37),(1000100,tb34)]⟩
def ju.c20r:Ck:=Ck.of (T:=Bool) ju.ce_s (fun ρ X Z=>ju.c20 (q4 X).2.1 (q8 X).2.1 (q4 (q8 X)).2.1 Z) (fun ρ X V Z=>Z 0 (Shape.inj ju.c20x0 (X.1,X.2.1,X.2.2.1,X.2.2.2.1,(q4 X).1,V,(q4 X).2)))
def ju.c27 (v:Int)(ub:Int)(Z:Bool→Option ρ):Option ρ:=
 br (v==(0:Int))
 (Z true)
 (br (decide (v>ub))
 (Z true)
 (Z (decide (v<IntKind.i64.wrap ((0:Int)-ub)))))
def ju.c27s:Shape:=⟨[(0,tb25),(1,tb33),(2,tb2),(4,tb5),(5,tb35),(9,tb5),(74,tb36),(75,tb5),(76,tb5),(130,tb36),(131,tb5),(132,tb5)],[(2,tb26),(5,tb37),(1000100,tb34)]⟩
def ju.c27x0:Shape:=⟨[(0,tb25),(1,tb33),(2,tb2),(4,tb5),(5,tb35),(9,tb5),(74,tb36),(75,tb5),(76,tb5),(130,tb36),(131,tb5),(132,tb5),(154,tb7)],[(2,tb26),(5,tb37),(1000100,tb34)]⟩
def ju.c27r:Ck:=Ck.of (T:=Bool) ju.c27s (fun ρ X Z=>ju.c27 X.2.2.1 (q8 (q8 X)).2.1 Z) (fun ρ X V Z=>Z 0 (Shape.inj ju.c27x0 (X.1,X.2.1,X.2.2.1,X.2.2.2.1,(q4 X).1,(q4 X).2.1,(q4 X).2.2.1,(q4 X).2.2.2.1,(q8 X).1,V,(q8 X).2)))
def ju.cg_ (t130:List Int)(t131:Int)(t132:Int)(ub:Int)(Z:Int⊕(Int⊕Int)→Option ρ):Option ρ:=
 br (decide (t132<t131))
 (bnd (idx t130 t132) fun y=>
 bnd (ju.c27 y ub some) fun y1=>
 br y1
 (Z (.inr (.inl t132)))
 (Z (.inl (IntKind.i64.wrap (t132+(1:Int))))))
 (Z (.inr (.inr t132)))
def ju.cg_s:Shape:=⟨[(0,tb25),(1,tb33),(2,tb2),(4,tb5),(5,tb35),(74,tb36),(75,tb5),(76,tb5),(130,tb36),(131,tb5),(132,tb5)],[(2,tb26),(5,tb37),(1000100,tb34)]⟩
def ju.cg_r:Ck:=Ck.ofLoop (S:=Int) (T:=Int⊕Int) ju.cg_s (fun X=>(q4 X).2.2.2.1) (fun ρ X Q Z=>ju.cg_ (q4 X).2.1 (q4 X).2.2.1 Q (q8 (q8 X)).1 Z) (fun ρ X V Z=>sel V (fun V=>Z 1 (Shape.inj ju.cg_s (X.1,(14:Int),X.2.2.1,X.2.2.2.1,(q4 X).1,(q4 X).2.1,(q4 X).2.2.1,V,(q8 X)))) (fun V=>Z 5 (Shape.inj ju.cg_s (X.1,X.2.1,X.2.2.1,X.2.2.2.1,(q4 X).1,(q4 X).2.1,(q4 X).2.2.1,V,(q8 X)))))
def ju (o:YO) (ua:Int) (ub:Int) (uc:List YO):Option (Int×Int×Int×(List YO)×Unit):=
 bnd (ju.c1 o.1 some) fun y=>
 br y
 (some ((8:Int),ua,ub,uc,()))
 (bnd (ju.c3 o.1 o.2.1 some) fun y1=>
 br y1
 (some ((9:Int),ua,ub,uc,()))
 (bnd (ju.c5 o.1 o.2.2.2.1 ua some) fun y2=>
 br y2
 (some ((10:Int),ua,ub,uc,()))
 (bnd (ju.c7 o.1 o.2.2.1 some) fun y3=>
 br y3
 (some ((11:Int),ua,ub,uc,()))
 (bnd (okIf (decide ((0:Ty.den (Ty.int IntKind.i64))≤o.2.2.2.1)&&decide (o.2.2.2.1<(↑(12:Nat):Int)))) fun y4=>
 bnd (inR (List.length (List.replicate (12:Nat) false)) o.2.2.2.1) fun y5=>
 bnd (idx (List.replicate (12:Nat) false) o.2.2.2.1) fun y6=>
 bnd (iter (fun s↦ju.ce_ o.2.2.1 (↑(List.length o.2.2.1):Int) s.1 s.2 ua some) ((0:Int),List.set (List.replicate (12:Nat) false) (Int.toNat o.2.2.2.1) true)) fun y7=>
 sel y7
 (fun u=>some (u.1,ua,ub,uc,()))
 (fun v=>bnd (ju.c20 o.1 o.2.2.2.2.1 ub some) fun y8=>
 br y8
 (some ((13:Int),ua,ub,uc,()))
 (br (decide ((↑(List.length o.2.2.2.2.2):Int)>(24:Int)))
 (some ((14:Int),ua,ub,uc,()))
 (bnd (iter (fun s↦ju.cg_ o.2.2.2.2.2 (↑(List.length o.2.2.2.2.2):Int) s ub some) (0:Int)) fun y9=>
 sel y9
 (fun u_1=>some ((14:Int),ua,ub,uc,()))
 (fun v_1=>some ((0:Int),ua,ub,uc,())))))))))
def ju.mc:MCallee:=⟨81,ju.pre,ju.post,fun X=>ju X.1 X.2.1 X.2.2.1 X.2.2.2.1⟩
def ju.G:Env:=⟨156,tab,[(116,JF.ce),(117,JL.ce)],[0,1,2,4,5,7,9,17,36,58,68,74,75,76,77,80,91,124,128,130,131,132,133,154],[5,69],[(20,[⟨[],[],[],[]⟩,⟨[0],[],[],[]⟩,⟨[1,0],[],[],[]⟩,⟨[2,1,0],[],[],[]⟩,⟨[3,2,1,0],[],[],[]⟩,⟨[4,3,2,1,0],[],[],[]⟩,⟨[5,4,3,2,1,0],[],[],[]⟩,⟨[6,5,4,3,2,1,0],[],[],[]⟩,⟨[7,6,5,4,3,2,1,0],[],[108,109,110,111],[]⟩,⟨[8,7,6,5,4,3,2,1,0],[],[108,109,110,111],[]⟩,⟨[7,6,5,4,3,2,1,0],[],[106,107],[]⟩,⟨[10,7,6,5,4,3,2,1,0],[],[106,107],[]⟩,⟨[11,10,7,6,5,4,3,2,1,0],[],[106,107],[]⟩,⟨[12,11,10,7,6,5,4,3,2,1,0],[],[106,107],[]⟩,⟨[9,8,7,6,5,4,3,2,1,0,13,12,11,10],[],[],[]⟩,⟨[7,6,5,4,3,2,1,0,14,9,8,13,12,11,10],[],[],[]⟩,⟨[3,2,1,0,15,7,6,5,4,14,9,8,13,12,11,10],[],[],[]⟩,⟨[16,3,2,1,0,15,7,6,5,4,14,9,8,13,12,11,10],[],[],[]⟩,⟨[17,16,3,2,1,0,15,7,6,5,4,14,9,8,13,12,11,10],[],[],[]⟩,⟨[18,17,16,3,2,1,0,15,7,6,5,4,14,9,8,13,12,11,10],[],[],[]⟩,⟨[19,18,17,16,3,2,1,0,15,7,6,5,4,14,9,8,13,12,11,10],[],[],[]⟩,⟨[20,19,18,17,16,3,2,1,0,15,7,6,5,4,14,9,8,13,12,11,10],[],[],[]⟩,⟨[21,20,19,18,17,16,3,2,1,0,15,7,6,5,4,14,9,8,13,12,11,10],[],[],[]⟩,⟨[22,21,20,19,18,17,16,3,2,1,0,15,7,6,5,4,14,9,8,13,12,11,10],[],[],[]⟩,⟨[23,22,21,20,19,18,17,16,3,2,1,0,15,7,6,5,4,14,9,8,13,12,11,10],[],[],[]⟩,⟨[21,20,19,18,17,16,3,2,1,0,15,7,6,5,4,14,9,8,13,12,11,10,24,23,22],[],[],[]⟩,⟨[17,16,3,2,1,0,15,7,6,5,4,14,9,8,13,12,11,10,25,21,20,19,18,24,23,22],[],[],[]⟩]),
 (5,[⟨[],[],[],[]⟩,⟨[0],[],[],[]⟩,⟨[1,0],[],[],[]⟩,⟨[2,1,0],[],[],[]⟩,⟨[3,2,1,0],[],[43,44,45,46],[]⟩,⟨[4,3,2,1,0],[],[43,44,45,46],[]⟩,⟨[3,2,1,0],[],[41,42],[]⟩,⟨[6,3,2,1,0],[],[41,42],[]⟩,⟨[7,6,3,2,1,0],[],[41,42],[]⟩,⟨[8,7,6,3,2,1,0],[],[41,42],[]⟩,⟨[5,4,3,2,1,0,9,8,7,6],[],[],[]⟩,⟨[3,2,1,0,10,5,4,9,8,7,6],[],[],[]⟩,⟨[11,3,2,1,0,10,5,4,9,8,7,6],[],[],[]⟩,⟨[12,11,3,2,1,0,10,5,4,9,8,7,6],[],[],[]⟩,⟨[13,12,11,3,2,1,0,10,5,4,9,8,7,6],[],[],[]⟩,⟨[14,13,12,11,3,2,1,0,10,5,4,9,8,7,6],[],[],[]⟩,⟨[15,14,13,12,11,3,2,1,0,10,5,4,9,8,7,6],[],[],[]⟩,⟨[16,15,14,13,12,11,3,2,1,0,10,5,4,9,8,7,6],[],[],[]⟩,⟨[17,16,15,14,13,12,11,3,2,1,0,10,5,4,9,8,7,6],[],[],[]⟩,⟨[18,17,16,15,14,13,12,11,3,2,1,0,10,5,4,9,8,7,6],[],[],[]⟩,⟨[16,15,14,13,12,11,3,2,1,0,10,5,4,9,8,7,6,19,18,17],[],[],[]⟩,⟨[12,11,3,2,1,0,10,5,4,9,8,7,6,20,16,15,14,13,19,18,17],[],[],[]⟩])],[(100025,ju.cg_r),(27,ju.c27r),(20,ju.c20r),(100012,ju.ce_r),(14,ju.c14r),(7,ju.c7r),(5,ju.c5r),(3,ju.c3r),(1,ju.c1r)],[],Jd⟩
theorem ju.p0:PcA ju.G Try.f81 0:=
 jB (s:=ju.c1r) (by kernel_rfl) (by kernel_rfl) (jC (sh:=ju.c1s) (fun ρ X Z=>(jo jd jd)) (fun ρ X t k=>(by kernel_rfl)) (fun X=>by kernel_rfl))
theorem ju.p1:PcA ju.G Try.f81 1:=
 jB (s:=ju.c3r) (by kernel_rfl) (by kernel_rfl) (jC (sh:=ju.c1s) (fun ρ X Z=>(jo jd (jo jd (je fun _=>(jo jd jd))))) (fun ρ X t k=>(by kernel_rfl)) (fun X=>by kernel_rfl))
theorem ju.p2:PcA ju.G Try.f81 2:=
 jB (s:=ju.c5r) (by kernel_rfl) (by kernel_rfl) (jC (sh:=ju.c1s) (fun ρ X Z=>(jo jd (jo jd (jo jd jd)))) (fun ρ X t k=>(by kernel_rfl)) (fun X=>by kernel_rfl))
theorem ju.p3:PcA ju.G Try.f81 3:=
 jB (s:=ju.c7r) (by kernel_rfl) (by kernel_rfl) (jC (sh:=ju.c1s) (fun ρ X Z=>(jo (je fun _=>jd) jd)) (fun ρ X t k=>(by kernel_rfl)) (fun X=>by kernel_rfl))
theorem ju.p4:PcA ju.G Try.f81 4:=
 Jo (s:=ju.ce_r) (by kernel_rfl) (by kernel_rfl) (Jg (sh:=ju.ce_s) (I:=fun X Q=>(X.1,X.2.1,X.2.2.1,X.2.2.2.1,Q.1,(q4 X).2.1,(q4 X).2.2.1,(q4 X).2.2.2.1,(q8 X).1,(q8 X).2.1,(q8 X).2.2.1,Q.2,(q4 (q8 X)))) (fun X=>rfl) (fun ρ X Q Z=>(jo (je fun _=>(je fun _=>(jo jd (je fun _=>(je fun _=>(je fun _=>(jo jd (je fun _=>(je fun _=>(je fun _=>jd)))))))))) jd)) (fun ρ X t k=>(JU (fun _=>(by kernel_rfl)) (fun _=>(by kernel_rfl)))) (fun X s=>by kernel_rfl))
theorem ju.p5:PcA ju.G Try.f81 5:=
 jB (s:=ju.c14r) (by kernel_rfl) (by kernel_rfl) (jC (sh:=ju.c14s) (fun ρ X Z=>(jo jd jd)) (fun ρ X t k=>(by kernel_rfl)) (fun X=>by kernel_rfl))
theorem ju.p6:PcA ju.G Try.f81 6:=
 jB (s:=ju.c20r) (by kernel_rfl) (by kernel_rfl) (jC (sh:=ju.ce_s) (fun ρ X Z=>(jo (jo jd (jo jd (jo jd jd))) (jo jd jd))) (fun ρ X t k=>(by kernel_rfl)) (fun X=>by kernel_rfl))
theorem ju.p7:PcA ju.G Try.f81 7:=
 Jo (s:=ju.cg_r) (by kernel_rfl) (by kernel_rfl) (Jg (sh:=ju.cg_s) (I:=fun X Q=>(X.1,X.2.1,X.2.2.1,X.2.2.2.1,(q4 X).1,(q4 X).2.1,(q4 X).2.2.1,Q,(q8 X))) (fun X=>rfl) (fun ρ X Q Z=>(jo (je fun _=>(je fun _=>(jo jd jd))) jd)) (fun ρ X t k=>(JU (fun _=>(by kernel_rfl)) (fun _=>(by kernel_rfl)))) (fun X s=>by kernel_rfl))
theorem ju.p8:PcA ju.G Try.f81 8:=
 jB (s:=ju.c27r) (by kernel_rfl) (by kernel_rfl) (jC (sh:=ju.c27s) (fun ρ X Z=>(jo jd (jo jd jd))) (fun ρ X t k=>(by kernel_rfl)) (fun X=>by kernel_rfl))
theorem ju.ok:MOk Try.prog 81 ju.mc:=kW (mc:=ju.mc) (G:=ju.G) Jn mixed Try.func81 ⟨(jX JF.ok (jX JL.ok Je)),jY,jN⟩ (m:=9) (by kernel_rfl) ⟨⟨⟨⟨⟨⟨⟨⟨⟨trivial,ju.p0⟩,ju.p1⟩,ju.p2⟩,ju.p3⟩,ju.p4⟩,ju.p5⟩,ju.p6⟩,ju.p7⟩,ju.p8⟩ (by kernel_rfl) (fun _=>by kernel_rfl)
abbrev tb38:SD:=.one (.val (.st (.pair (.int .i64) (.pair (.int .i64) (.sl (.st (.pair (.int .i64) (.pair (.int .i64) (.pair (.sl (.int .i64)) (.pair (.int .i64) (.pair (.int .i64) (.sl (.int .i64)))))))))))))
def jW.c1 (c0:Int)(Z:Bool→Option ρ):Option ρ:=
 br (decide (c0<(1:Int)))
 (Z true)
 (Z (decide (c0>(12:Int))))
def jW.c1s:Shape:=⟨[(0,tb38),(1,tb1),(2,tb2)],[(1,tb34),(2,tb19)]⟩
def jW.c1x0:Shape:=⟨[(0,tb38),(1,tb1),(2,tb2),(6,tb7)],[(1,tb34),(2,tb19)]⟩
def jW.c1r:Ck:=Ck.of (T:=Bool) jW.c1s (fun ρ X Z=>jW.c1 X.2.1 Z) (fun ρ X V Z=>Z 0 (Shape.inj jW.c1x0 (X.1,V,X.2)))
def jW.c3 (c1:Int)(Z:Bool→Option ρ):Option ρ:=
 br (decide (c1<(0:Int)))
 (Z true)
 (Z (decide (c1>(12:Int))))
def jW.c3x0:Shape:=⟨[(0,tb38),(1,tb1),(2,tb2),(16,tb7)],[(1,tb34),(2,tb19)]⟩
def jW.c3r:Ck:=Ck.of (T:=Bool) jW.c1s (fun ρ X Z=>jW.c3 X.2.2.1 Z) (fun ρ X V Z=>Z 0 (Shape.inj jW.c3x0 (X.1,V,X.2)))
def jW.cc_ (t33:List YO)(t34:Int)(t35:Int)(c0:Int)(c1:Int)(c2:List YO)(Z:(Int×Int×Int×(List YO))⊕((Int×Int×Int×(List YO)×Int×Int)⊕(Int×Int×Int×(List YO)))→Option ρ):Option ρ:=
 br (decide (t35<t34))
 (bnd (idx t33 t35) fun y=>
 bnd (ju (y.1,y.2.1,y.2.2.1,y.2.2.2.1,y.2.2.2.2.1,y.2.2.2.2.2) c0 c1 c2) fun y1=>
 br (y1.1 !=(0:Int))
 (bnd (JV y1.1 t35) fun y2=>
 Z (.inr (.inl (t35,y1.2.1,y1.2.2.1,y1.2.2.2.1,y2.1,y2.2))))
 (Z (.inl ((IntKind.i64.wrap (t35+(1:Int))),y1.2.1,y1.2.2.1,y1.2.2.2.1))))
 (Z (.inr (.inr (t35,c0,c1,c2))))
def jW.cc_s:Shape:=⟨[(0,tb38),(1,tb1),(2,tb2),(33,tb31),(34,tb5),(35,tb5)],[(1,tb34),(2,tb19)]⟩
def jW.cc_r:Ck:=Ck.ofLoop (S:=Int×Int×Int×(List YO)) (T:=(Int×Int×Int×(List YO)×Int×Int)⊕(Int×Int×Int×(List YO))) jW.cc_s (fun X=>(X.2.2.2.1,(q4 X).1,(q4 X).2.1,(q4 X).2.2.1)) (fun ρ X Q Z=>jW.cc_ X.2.1 X.2.2.1 Q.1 Q.2.1 Q.2.2.1 Q.2.2.2 Z) (fun ρ X V Z=>sel V (fun V=>Z 1 (Shape.inj jW.cc_s (X.1,X.2.1,X.2.2.1,V.1,V.2.1,V.2.2.1,V.2.2.2.1,V.2.2.2.2.1,V.2.2.2.2.2,()))) (fun V=>Z 3 (Shape.inj jW.cc_s (X.1,X.2.1,X.2.2.1,V.1,V.2.1,V.2.2.1,V.2.2.2,(q4 X).2.2.2))))
def jW (c:Int×(Int×(List YO))):Option (Int×Int):=
 bnd (jW.c1 c.1 some) fun y=>
 br y
 (bnd (JV (6:Int) (0:Int)) fun y1=>
 some (y1.1,y1.2))
 (bnd (jW.c3 c.2.1 some) fun y2=>
 br y2
 (bnd (JV (7:Int) (0:Int)) fun y3=>
 some (y3.1,y3.2))
 (br (decide ((↑(List.length c.2.2):Int)>(4096:Int)))
 (bnd (JV (2:Int) (0:Int)) fun y4=>
 some (y4.1,y4.2))
 (bnd (iter (fun s↦jW.cc_ c.2.2 (↑(List.length c.2.2):Int) s.1 s.2.1 s.2.2.1 s.2.2.2 some) ((0:Int),c.1,c.2.1,c.2.2)) fun y5=>
 sel y5
 (fun u=>some (u.2.2.2.2.1,u.2.2.2.2.2))
 (fun v=>some ((0:Int),(0:Int))))))
def jW.ce:Go.Ql.Callee:=⟨[(.st (.pair (.int .i64) (.pair (.int .i64) (.sl (.st (.pair (.int .i64) (.pair (.int .i64) (.pair (.sl (.int .i64)) (.pair (.int .i64) (.pair (.int .i64) (.sl (.int .i64))))))))))))],[(.st (.pair (.int .i64) (.int .i64)))],fun X=>jW X⟩
def jW.G:Env:=⟨49,tab,[(80,JV.ce)],[0,1,2,3,4,5,6,16,26,33,34,35,36,43],[],[],[(100008,jW.cc_r),(3,jW.c3r),(1,jW.c1r)],[(81,ju.mc)],Jd⟩
theorem jW.p0:PcA jW.G Try.f36 0:=
 jB (s:=jW.c1r) (by kernel_rfl) (by kernel_rfl) (jC (sh:=jW.c1s) (fun ρ X Z=>(jo jd jd)) (fun ρ X t k=>(by kernel_rfl)) (fun X=>by kernel_rfl))
theorem jW.p1:PcA jW.G Try.f36 1:=
 jB (s:=jW.c3r) (by kernel_rfl) (by kernel_rfl) (jC (sh:=jW.c1s) (fun ρ X Z=>(jo jd jd)) (fun ρ X t k=>(by kernel_rfl)) (fun X=>by kernel_rfl))
theorem jW.p2:PcA jW.G Try.f36 2:=
 Jo (s:=jW.cc_r) (by kernel_rfl) (by kernel_rfl) (Jg (sh:=jW.cc_s) (I:=fun X Q=>(X.1,X.2.1,X.2.2.1,Q.1,Q.2.1,Q.2.2.1,Q.2.2.2,(q4 X).2.2.2)) (fun X=>rfl) (fun ρ X Q Z=>(jo (je fun _=>(je fun _=>(jo (je fun _=>jd) jd))) jd)) (fun ρ X t k=>(JU (fun _=>(by kernel_rfl)) (fun _=>(by kernel_rfl)))) (fun X s=>by kernel_rfl))
theorem jW.ok:CalleeOk Try.prog 36 jW.ce:=fn_ok (G:=jW.G) Jn mixed Try.func36 ⟨(jX JV.ok Je),(JX ju.ok jY),jN⟩ (m:=3) (by kernel_rfl) ⟨⟨⟨trivial,jW.p0⟩,jW.p1⟩,jW.p2⟩ (by kernel_rfl) (fun _=>by kernel_rfl)
abbrev tb39:SD:=.one (.ref 5 0)
def Jm.c7 (o0:Int)(o5:List Int)(Z:Bool→Option ρ):Option ρ:=
 br (o0==(5:Int))
 (Z true)
 (br (o0==(6:Int))
 (Z true)
 (Z (decide ((↑(List.length o5):Int)>(0:Int)))))
def Jm.c7s:Shape:=⟨[(0,tb38),(1,tb1),(2,tb2),(3,tb12),(4,tb5),(5,tb39),(13,tb31),(14,tb5),(15,tb5)],[(1,tb34),(2,tb19),(3,tb19),(5,tb26)]⟩
def Jm.c7x0:Shape:=⟨[(0,tb38),(1,tb1),(2,tb2),(3,tb12),(4,tb5),(5,tb39),(13,tb31),(14,tb5),(15,tb5),(33,tb7)],[(1,tb34),(2,tb19),(3,tb19),(5,tb26)]⟩
def Jm.c7r:Ck:=Ck.of (T:=Bool) Jm.c7s (fun ρ X Z=>Jm.c7 (q4 (q8 X)).1 (q8 (q8 X)).2.1 Z) (fun ρ X V Z=>Z 0 (Shape.inj Jm.c7x0 (X.1,X.2.1,X.2.2.1,X.2.2.2.1,(q4 X).1,V,(q4 X).2)))
def Jm.cm_ (t13:List YO)(t14:Int)(t15:Int)(Z:Int⊕((Int×Int×Int)⊕Int)→Option ρ):Option ρ:=
 br (decide (t15<t14))
 (bnd (idx t13 t15) fun y=>
 bnd (Jm.c7 y.1 y.2.2.2.2.2 some) fun y1=>
 br y1
 (bnd (JV (15:Int) t15) fun y2=>
 Z (.inr (.inl (t15,y2.1,y2.2))))
 (Z (.inl (IntKind.i64.wrap (t15+(1:Int))))))
 (Z (.inr (.inr t15)))
def Jm.cm_s:Shape:=⟨[(0,tb38),(1,tb1),(2,tb2),(3,tb12),(13,tb31),(14,tb5),(15,tb5)],[(1,tb34),(2,tb19),(3,tb19)]⟩
def Jm.cm_r:Ck:=Ck.ofLoop (S:=Int) (T:=(Int×Int×Int)⊕Int) Jm.cm_s (fun X=>X.2.2.2.1) (fun ρ X Q Z=>Jm.cm_ X.2.1 X.2.2.1 Q Z) (fun ρ X V Z=>sel V (fun V=>Z 1 (Shape.inj Jm.cm_s (X.1,X.2.1,X.2.2.1,V.1,(q4 X).1,(q4 X).2.1,(q4 X).2.2.1,V.2.1,V.2.2,(q8 X).2))) (fun V=>Z 2 (Shape.inj Jm.cm_s (X.1,X.2.1,X.2.2.1,V,(q4 X)))))
def Jm (c:Int×(Int×(List YO))):Option (Int×Int):=
 bnd (jW (c.1,c.2.1,c.2.2)) fun y=>
 br (y.1 !=(0:Int))
 (some (y.1,y.2))
 (bnd (iter (fun s↦Jm.cm_ c.2.2 (↑(List.length c.2.2):Int) s some) (0:Int)) fun y1=>
 sel y1
 (fun u=>some (u.2.1,u.2.2))
 (fun v=>some ((0:Int),(0:Int))))
def Jm.ce:Go.Ql.Callee:=⟨[(.st (.pair (.int .i64) (.pair (.int .i64) (.sl (.st (.pair (.int .i64) (.pair (.int .i64) (.pair (.sl (.int .i64)) (.pair (.int .i64) (.pair (.int .i64) (.sl (.int .i64))))))))))))],[(.st (.pair (.int .i64) (.int .i64)))],fun X=>Jm X⟩
def Jm.G:Env:=⟨38,tab,[(36,jW.ce),(80,JV.ce)],[0,1,2,3,4,5,10,13,14,15,16,33],[],[],[(100005,Jm.cm_r),(7,Jm.c7r)],[],Jd⟩
theorem Jm.p0:PcA Jm.G Try.f101 0:=
 Jo (s:=Jm.cm_r) (by kernel_rfl) (by kernel_rfl) (Jg (sh:=Jm.cm_s) (I:=fun X Q=>(X.1,X.2.1,X.2.2.1,Q,(q4 X))) (fun X=>rfl) (fun ρ X Q Z=>(jo (je fun _=>(je fun _=>(jo (je fun _=>jd) jd))) jd)) (fun ρ X t k=>(JU (fun _=>(by kernel_rfl)) (fun _=>(by kernel_rfl)))) (fun X s=>by kernel_rfl))
theorem Jm.p1:PcA Jm.G Try.f101 1:=
 jB (s:=Jm.c7r) (by kernel_rfl) (by kernel_rfl) (jC (sh:=Jm.c7s) (fun ρ X Z=>(jo jd (jo jd jd))) (fun ρ X t k=>(by kernel_rfl)) (fun X=>by kernel_rfl))
theorem Jm.ok:CalleeOk Try.prog 101 Jm.ce:=fn_ok (G:=Jm.G) Jn mixed Try.func101 ⟨(jX jW.ok (jX JV.ok Je)),jY,jN⟩ (m:=2) (by kernel_rfl) ⟨⟨trivial,Jm.p0⟩,Jm.p1⟩ (by kernel_rfl) (fun _=>by kernel_rfl)
def JR (s:List Int):Option (List Int):=
 br (List.isEmpty s)
 (both
 (some [])
 (bnd (okIf (decide (((0:Nat)+List.length s)*(8:Nat)≤(140737488355328:Nat))&&decide ((0:Nat)+List.length s≤(140737488355328:Nat)))) fun y=>
 some s))
 (bnd (okIf (decide (((0:Nat)+List.length s)*(8:Nat)≤(140737488355328:Nat))&&decide ((0:Nat)+List.length s≤(140737488355328:Nat)))) fun y1=>
 some s)
def JR.ce:Go.Ql.Callee:=⟨[(.sl (.int .i64))],[(.sl (.int .i64))],fun X=>JR X⟩
def JR.G:Env:=⟨8,tab,[],[0,2,4],[5],[],[],[],Jd⟩
theorem JR.ok:CalleeOk Try.prog 139 JR.ce:=fn_ok (G:=JR.G) Jn mixed Try.func139 ⟨Je,jY,jN⟩ (m:=0) (by kernel_rfl) trivial (by kernel_rfl) (fun _=>by kernel_rfl)
def JE.c1 (o2:List Int)(o5:List Int)(Z:(List Int)×(List Int)→Option ρ):Option ρ:=
 bnd (JR o2) fun y=>
 bnd (JR o5) fun y1=>
 Z (y,y1)
def JE.c1s:Shape:=⟨[(0,tb25),(1,tb1),(2,tb2)],[(1,tb26),(2,tb26)]⟩
def JE.c1r:Ck:=Ck.of (T:=(List Int)×(List Int)) JE.c1s (fun ρ X Z=>JE.c1 X.2.2.2.1 (q4 X).2.2.1 Z) (fun ρ X V Z=>Z 0 (Shape.inj JE.c1s (X.1,X.2.1,X.2.2.1,V.1,(q4 X).1,(q4 X).2.1,V.2,(q4 X).2.2.2)))
def JE (o:YO):Option YO:=
 bnd (JE.c1 o.2.2.1 o.2.2.2.2.2 some) fun y=>
 some (o.1,o.2.1,y.1,o.2.2.2.1,o.2.2.2.2.1,y.2)
def JE.ce:Go.Ql.Callee:=⟨[(.st (.pair (.int .i64) (.pair (.int .i64) (.pair (.sl (.int .i64)) (.pair (.int .i64) (.pair (.int .i64) (.sl (.int .i64))))))))],[(.st (.pair (.int .i64) (.pair (.int .i64) (.pair (.sl (.int .i64)) (.pair (.int .i64) (.pair (.int .i64) (.sl (.int .i64))))))))],fun X=>JE X⟩
def JE.G:Env:=⟨12,tab,[(139,JR.ce)],[0,1,2],[],[(1,[⟨[],[],[6,7],[]⟩,⟨[0],[],[6,7],[]⟩,⟨[1,0],[],[6,7],[]⟩,⟨[],[],[3,4,5],[]⟩,⟨[3],[],[3,4,5],[]⟩,⟨[4,3,2,1,0],[],[9],[]⟩,⟨[0,1,2,3,4],[],[8],[]⟩,⟨[6,0,1,2,3,4,5],[1],[],[]⟩,⟨[0,1,2,3,4,5,6,7],[],[],[]⟩,⟨[8,0,1,2,3,4,5,6,7],[1],[],[]⟩])],[(1,JE.c1r)],[],Jd⟩
theorem JE.p0:PcA JE.G Try.f129 0:=
 jB (s:=JE.c1r) (by kernel_rfl) (by kernel_rfl) (jC (sh:=JE.c1s) (fun ρ X Z=>(je fun _=>(je fun _=>jd))) (fun ρ X t k=>(by kernel_rfl)) (fun X=>by kernel_rfl))
theorem JE.ok:CalleeOk Try.prog 129 JE.ce:=fn_ok (G:=JE.G) Jn mixed Try.func129 ⟨(jX JR.ok Je),jY,jN⟩ (m:=1) (by kernel_rfl) ⟨trivial,JE.p0⟩ (by kernel_rfl) (fun _=>by kernel_rfl)
def kc (o:YO):Option YO:=
 some (o.1,Int.tmod (IntKind.i64.wrap ((16:Int)-o.2.1)) (16:Int),o.2.2.1,o.2.2.2.1,o.2.2.2.2.1,o.2.2.2.2.2)
def kc.ce:Go.Ql.Callee:=⟨[(.st (.pair (.int .i64) (.pair (.int .i64) (.pair (.sl (.int .i64)) (.pair (.int .i64) (.pair (.int .i64) (.sl (.int .i64))))))))],[(.st (.pair (.int .i64) (.pair (.int .i64) (.pair (.sl (.int .i64)) (.pair (.int .i64) (.pair (.int .i64) (.sl (.int .i64))))))))],fun X=>kc X⟩
def kc.G:Env:=⟨9,tab,[],[0,1,2],[],[],[],[],Jd⟩
theorem kc.ok:CalleeOk Try.prog 103 kc.ce:=fn_ok (G:=kc.G) Jn mixed Try.func103 ⟨Je,jY,jN⟩ (m:=0) (by kernel_rfl) trivial (by kernel_rfl) (fun _=>by kernel_rfl)
abbrev tb40:SD:=.one (.fn 103)
abbrev tb41:SD:=.agg [.val (.int .i64),.val (.int .i64),.own 2 0]
abbrev tb42:SD:=.one (.ref 7 0)
abbrev tb43:SO:=.box [.val (.int .i64),.val (.int .i64),.own 3004 0]
abbrev tb44:SO:=.box [.val (.int .i64),.val (.int .i64),.own 3005 0]
def jP.pre:Shape:=⟨[(0,tb38),(1,tb40)],[]⟩
def jP.post:Shape:=⟨[(0,tb41)],[(2,tb30)]⟩
def jP.c5 (o0:Int)(o1:Int)(o2:List Int)(o3:Int)(o4:Int)(o5:List Int)(uh:List YO)(Z:List YO→Option ρ):Option ρ:=
 bnd (JE (o0,o1,o2,o3,o4,o5)) fun y=>
 bnd (kc y) fun y1=>
 bnd (okIf (decide ((List.length uh+(1:Nat))*(80:Nat)≤(140737488355328:Nat))&&decide (List.length uh+(1:Nat)≤(140737488355328:Nat)))) fun y2=>
 Z (uh++[y1])
def jP.c5s:Shape:=⟨[(0,tb38),(1,tb40),(2,tb2),(4,tb6),(5,tb39),(7,tb42),(14,tb31),(15,tb5),(16,tb5)],[(2,tb34),(4,tb43),(5,tb44),(7,tb26),(3004,tb30),(3005,tb30)]⟩
def jP.c5r:Ck:=Ck.of (T:=List YO) jP.c5s (fun ρ X Z=>jP.c5 (q8 X).2.2.2.1 (q4 (q8 X)).1 (q4 (q8 X)).2.1 (q4 (q8 X)).2.2.1 (q4 (q8 X)).2.2.2.1 (q8 (q8 X)).1 (q8 (q8 X)).2.2.1 Z) (fun ρ X V Z=>Z 0 (Shape.inj jP.c5s (X.1,X.2.1,X.2.2.1,X.2.2.2.1,(q4 X).1,(q4 X).2.1,(q4 X).2.2.1,(q4 X).2.2.2.1,(q8 X).1,(q8 X).2.1,(q8 X).2.2.1,(q8 X).2.2.2.1,(q4 (q8 X)).1,(q4 (q8 X)).2.1,(q4 (q8 X)).2.2.1,(q4 (q8 X)).2.2.2.1,(q8 (q8 X)).1,(q8 (q8 X)).2.1,V,())))
def jP.ca_ (t14:List YO)(t15:Int)(t16:Int)(uh:List YO)(Z:(Int×(List YO))⊕(Int×(List YO))→Option ρ):Option ρ:=
 br (decide (t16<t15))
 (bnd (idx t14 t16) fun y=>
 bnd (jP.c5 y.1 y.2.1 y.2.2.1 y.2.2.2.1 y.2.2.2.2.1 y.2.2.2.2.2 uh some) fun y1=>
 Z (.inl ((IntKind.i64.wrap (t16+(1:Int))),y1)))
 (Z (.inr (t16,uh)))
def jP.ca_s:Shape:=⟨[(0,tb38),(1,tb40),(2,tb2),(4,tb6),(5,tb39),(14,tb31),(15,tb5),(16,tb5)],[(2,tb34),(4,tb43),(5,tb44),(3004,tb30),(3005,tb30)]⟩
def jP.ca_r:Ck:=Ck.ofLoop (S:=Int×(List YO)) (T:=Int×(List YO)) jP.ca_s (fun X=>(X.2.2.2.1,(q4 (q8 X)).1)) (fun ρ X Q Z=>jP.ca_ X.2.1 X.2.2.1 Q.1 Q.2 Z) (fun ρ X V Z=>Z 2 (Shape.inj jP.ca_s (X.1,X.2.1,X.2.2.1,V.1,(q4 X).1,(q4 X).2.1,(q4 X).2.2.1,(q4 X).2.2.2.1,(q8 X).1,(q8 X).2.1,(q8 X).2.2.1,(q8 X).2.2.2.1,V.2,())))
def jP (c:Int×(Int×(List YO))):Option (Int×Int×(List YO)×Unit):=
 bnd (iter (fun s↦jP.ca_ c.2.2 (↑(List.length c.2.2):Int) s.1 s.2 some) ((0:Int),[])) fun y=>
 some (c.1,c.2.1,y.2,())
def jP.mc:MCallee:=⟨102,jP.pre,jP.post,fun X=>jP X.1⟩
def jP.G:Env:=⟨31,tab,[(129,JE.ce),(103,kc.ce)],[0,1,2,4,5,7,14,15,16,17],[2,4,5,12,3002,3004,3005],[(5,[⟨[],[],[22,23,24,25,26],[26]⟩,⟨[0],[],[22,23,24,25,26],[26]⟩,⟨[],[],[20,21,23,24],[]⟩,⟨[],[],[20,21,22],[]⟩,⟨[3],[],[20,21,22],[]⟩,⟨[2,4,3],[],[20,21],[]⟩,⟨[5,2,4,3],[26],[20,21],[]⟩,⟨[1,0,6,5,2,4,3],[3005],[],[]⟩,⟨[0,1,2,3,4,5,6,7],[],[],[]⟩,⟨[8,0,1,2,3,4,5,6,7],[5],[],[]⟩])],[(100003,jP.ca_r),(5,jP.c5r)],[],Jd⟩
theorem jP.p0:PcA jP.G Try.f102 0:=
 Jo (s:=jP.ca_r) (by kernel_rfl) (by kernel_rfl) (Jg (sh:=jP.ca_s) (I:=fun X Q=>(X.1,X.2.1,X.2.2.1,Q.1,(q4 X).1,(q4 X).2.1,(q4 X).2.2.1,(q4 X).2.2.2.1,(q8 X).1,(q8 X).2.1,(q8 X).2.2.1,(q8 X).2.2.2.1,Q.2,())) (fun X=>rfl) (fun ρ X Q Z=>(jo (je fun _=>(je fun _=>jd)) jd)) (fun ρ X t k=>(by kernel_rfl)) (fun X s=>by kernel_rfl))
theorem jP.p1:PcA jP.G Try.f102 1:=
 jB (s:=jP.c5r) (by kernel_rfl) (by kernel_rfl) (jC (sh:=jP.c5s) (fun ρ X Z=>(je fun _=>(je fun _=>(je fun _=>jd)))) (fun ρ X t k=>(by kernel_rfl)) (fun X=>by kernel_rfl))
theorem jP.ok:MOk Try.prog 102 jP.mc:=kW (mc:=jP.mc) (G:=jP.G) Jn mixed Try.func102 ⟨(jX JE.ok (jX kc.ok Je)),jY,jN⟩ (m:=2) (by kernel_rfl) ⟨⟨trivial,jP.p0⟩,jP.p1⟩ (by kernel_rfl) (fun _=>by kernel_rfl)
def jz.pre:Shape:=⟨[(0,tb14)],[(2000000,tb30)]⟩
def jz.post:Shape:=⟨[],[(2000000,tb30)]⟩
def jz.c3 (i:Int)(j:Int)(uf:List YO)(Z:List YO→Option ρ):Option ρ:=
 bnd (inR (List.length uf) j) fun y=>
 bnd (idx uf j) fun y1=>
 bnd (inR (List.length uf) i) fun y2=>
 bnd (idx uf i) fun y3=>
 bnd (inR (List.length uf) i) fun y4=>
 bnd (idx uf i) fun y5=>
 bnd (inR (List.length (List.set uf (Int.toNat i) y1)) j) fun y6=>
 bnd (idx (List.set uf (Int.toNat i) y1) j) fun y7=>
 Z (List.set (List.set uf (Int.toNat i) y1) (Int.toNat j) y3)
def jz.c3s:Shape:=⟨[(0,tb14),(2,tb5),(3,tb5)],[(2000000,tb30)]⟩
def jz.c3r:Ck:=Ck.of (T:=List YO) jz.c3s (fun ρ X Z=>jz.c3 X.1 X.2.1 X.2.2.1 Z) (fun ρ X V Z=>Z 0 (Shape.inj jz.c3s (X.1,X.2.1,V,())))
def jz.ci_ (i:Int)(j:Int)(uf:List YO)(Z:(Int×Int×(List YO))⊕(Int×Int×(List YO))→Option ρ):Option ρ:=
 br (decide (i<j))
 (bnd (jz.c3 i j uf some) fun y=>
 Z (.inl ((IntKind.i64.wrap (i+(1:Int))),(IntKind.i64.wrap (j-(1:Int))),y)))
 (Z (.inr (i,j,uf)))
def jz.ci_r:Ck:=Ck.ofLoop (S:=Int×Int×(List YO)) (T:=Int×Int×(List YO)) jz.c3s (fun X=>(X.1,X.2.1,X.2.2.1)) (fun ρ X Q Z=>jz.ci_ Q.1 Q.2.1 Q.2.2 Z) (fun ρ X V Z=>Z 2 (Shape.inj jz.c3s (V.1,V.2.1,V.2.2,())))
def jz (uf:List YO):Option ((List YO)×Unit):=
 bnd (iter (fun s↦jz.ci_ s.1 s.2.1 s.2.2 some) ((0:Int),IntKind.i64.wrap ((↑(List.length uf):Int)-(1:Int)),uf)) fun y=>
 some (y.2.2,())
def jz.mc:MCallee:=⟨104,jz.pre,jz.post,fun X=>jz X.1⟩
def jz.G:Env:=⟨28,tab,[],[0,2,3,9],[2000000],[(3,[⟨[],[],[15,16,17,18,19,20,21,22,23,24,25],[]⟩,⟨[],[],[14,16,17,18,19,20,21,22,23,24,25],[]⟩,⟨[],[],[14,15,17,18,19,20,21,22,23,24,25,26],[2000000]⟩,⟨[],[],[14,15,16,18,19,20,21,22,23,24,25,26],[2000000]⟩,⟨[],[],[14,15,16,17,19,22,23,24,25],[]⟩,⟨[],[],[14,15,16,17,18,22,23,24,25],[]⟩,⟨[4,5],[],[14,15,16,17,22,23,24,25],[]⟩,⟨[6,4,5],[],[14,15,16,17,22,23,24,25],[]⟩,⟨[],[],[14,15,16,17,18,19,20,21,23],[]⟩,⟨[],[],[14,15,16,17,18,19,20,21,22],[]⟩,⟨[8,9],[],[14,15,16,17,18,19,20,21],[]⟩,⟨[10,8,9],[],[14,15,16,17,18,19,20,21],[]⟩,⟨[0,1,4,5,6,7,11,10,8,9],[],[16,17],[]⟩,⟨[12,0,1,4,5,6,7,11,10,8,9],[2000000],[16,17],[]⟩,⟨[2,3,0,1,4,5,6,7,8,9,10,11,12,13],[],[],[]⟩,⟨[14,2,3,0,1,4,5,6,7,8,9,10,11,12,13],[2000000],[],[]⟩])],[(100001,jz.ci_r),(3,jz.c3r)],[],Jd⟩
theorem jz.p0:PcA jz.G Try.f104 0:=
 Jo (s:=jz.ci_r) (by kernel_rfl) (by kernel_rfl) (Jg (sh:=jz.c3s) (I:=fun X Q=>(Q.1,Q.2.1,Q.2.2,())) (fun X=>rfl) (fun ρ X Q Z=>(jo (je fun _=>jd) jd)) (fun ρ X t k=>(by kernel_rfl)) (fun X s=>by kernel_rfl))
theorem jz.p1:PcA jz.G Try.f104 1:=
 jB (s:=jz.c3r) (by kernel_rfl) (by kernel_rfl) (jC (sh:=jz.c3s) (fun ρ X Z=>(je fun _=>(je fun _=>(je fun _=>(je fun _=>(je fun _=>(je fun _=>(je fun _=>(je fun _=>jd))))))))) (fun ρ X t k=>(by kernel_rfl)) (fun X=>by kernel_rfl))
theorem jz.ok:MOk Try.prog 104 jz.mc:=kW (mc:=jz.mc) (G:=jz.G) Jn mixed Try.func104 ⟨Je,jY,jN⟩ (m:=2) (by kernel_rfl) ⟨⟨trivial,jz.p0⟩,jz.p1⟩ (by kernel_rfl) (fun _=>by kernel_rfl)
def JA.c3  (Z:Unit→Option ρ):Option ρ:=
 Z ()
def JA.c3s:Shape:=⟨[(0,tb38),(1,tb1),(2,tb2),(3,tb12),(4,tb6)],[(1,tb34),(2,tb34),(3,tb19),(4,tb19)]⟩
def JA.c3r:Ck:=Ck.of (T:=Unit) JA.c3s (fun ρ X Z=>JA.c3  Z) (fun ρ X V Z=>Z 0 (Shape.inj JA.c3s (X.1,X.2.1,X.2.2.1,X.2.2.2.1,(0:Int),(0:Int),[],(q8 X).2.1,(q8 X).2.2.1,(q8 X).2)))
def JA (c:Int×(Int×(List YO))):Option ((Int×(Int×(List YO)))×(Int×Int)):=
 bnd (Jm (c.1,c.2.1,c.2.2)) fun y=>
 br (y.1 !=(0:Int))
 (bnd (JA.c3 some) fun y1=>
 some (((0:Int),(0:Int),[]),y.1,y.2))
 (bnd (jP (c.1,c.2.1,c.2.2)) fun y2=>
 bnd (jz y2.2.2.1) fun y3=>
 some ((y2.1,y2.2.1,y3.1),(0:Int),(0:Int)))
def JA.ce:Go.Ql.Callee:=⟨[(.st (.pair (.int .i64) (.pair (.int .i64) (.sl (.st (.pair (.int .i64) (.pair (.int .i64) (.pair (.sl (.int .i64)) (.pair (.int .i64) (.pair (.int .i64) (.sl (.int .i64))))))))))))],[(.st (.pair (.int .i64) (.pair (.int .i64) (.sl (.st (.pair (.int .i64) (.pair (.int .i64) (.pair (.sl (.int .i64)) (.pair (.int .i64) (.pair (.int .i64) (.sl (.int .i64)))))))))))),(.st (.pair (.int .i64) (.int .i64)))],fun X=>JA X⟩
def JA.G:Env:=⟨20,tab,[(101,Jm.ce)],[0,1,2,3,4,5,10],[5,2014,3005],[(3,[⟨[],[],[12],[]⟩,⟨[],[],[11],[2]⟩,⟨[0],[2],[12],[]⟩,⟨[1,2,0],[3],[],[]⟩])],[(3,JA.c3r)],[(102,jP.mc),(104,jz.mc)],Jd⟩
theorem JA.p0:PcA JA.G Try.f69 0:=
 jB (s:=JA.c3r) (by kernel_rfl) (by kernel_rfl) (jC (sh:=JA.c3s) (fun ρ X Z=>jd) (fun ρ X t k=>(by kernel_rfl)) (fun X=>by kernel_rfl))
theorem JA.ok:CalleeOk Try.prog 69 JA.ce:=fn_ok (G:=JA.G) Jn mixed Try.func69 ⟨(jX Jm.ok Je),(JX jP.ok (JX jz.ok jY)),jN⟩ (m:=1) (by kernel_rfl) ⟨trivial,JA.p0⟩ (by kernel_rfl) (fun _=>by kernel_rfl)
def jO.c3  (Z:Unit→Option ρ):Option ρ:=
 Z ()
def jO.c3s:Shape:=⟨[(0,tb0),(1,tb1),(2,tb2),(3,tb12),(4,tb17),(5,tb39)],[(1,tb3),(2,tb34),(3,tb19),(5,tb19)]⟩
def jO.c3r:Ck:=Ck.of (T:=Unit) jO.c3s (fun ρ X Z=>jO.c3  Z) (fun ρ X V Z=>Z 0 (Shape.inj jO.c3s (X.1,X.2.1,X.2.2.1,X.2.2.2.1,(0:Int),(0:Int),[],(q8 X).2.1,(q8 X).2.2.1,(q8 X).2)))
def jO.c4 (l:List YP)(c0:Int)(Z:Int×Int×(List YO)×Int×Int→Option ρ):Option ρ:=
 bnd (js l c0) fun y=>
 bnd (JA (c0,(0:Int),y)) fun y1=>
 Z (y1.1.1,y1.1.2.1,y1.1.2.2,y1.2.1,y1.2.2)
def jO.c4x0:Shape:=⟨[(0,tb0),(1,tb1),(2,tb2),(3,tb12),(4,tb17),(5,tb39),(6,tb8)],[(1,tb3),(2,tb34),(3,tb19),(5,tb19),(6,tb34),(7,tb19)]⟩
def jO.c4r:Ck:=Ck.of (T:=Int×Int×(List YO)×Int×Int) jO.c3s (fun ρ X Z=>jO.c4 X.2.1 X.2.2.1 Z) (fun ρ X V Z=>Z 0 (Shape.inj jO.c4x0 (X.1,X.2.1,X.2.2.1,X.2.2.2.1,(q4 X).1,(q4 X).2.1,(q4 X).2.2.1,(q4 X).2.2.2.1,(q8 X).1,(q8 X).2.1,(q8 X).2.2.1,V.1,V.2.1,V.2.2.1,V.2.2.2.1,V.2.2.2.2,())))
def jO.c5  (Z:Unit→Option ρ):Option ρ:=
 Z ()
def jO.c5r:Ck:=Ck.of (T:=Unit) jO.c4x0 (fun ρ X Z=>jO.c5  Z) (fun ρ X V Z=>Z 0 (Shape.inj jO.c4x0 (X.1,X.2.1,X.2.2.1,X.2.2.2.1,(q8 X).2.2.2.1,(q4 (q8 X)).1,(q4 (q8 X)).2.1,(q8 X).2.1,(q8 X).2.2.1,(q8 X).2)))
def jO (c:Int×(List (List UInt8))):Option ((Int×(Int×(List YO)))×(Int×Int)):=
 bnd (jy (c.1,c.2)) fun y=>
 br (y.2.1 !=(0:Int))
 (bnd (jO.c3 some) fun y1=>
 some (((0:Int),(0:Int),[]),y.2.1,y.2.2))
 (bnd (jO.c4 y.1 c.1 some) fun y2=>
 bnd (jO.c5 some) fun y3=>
 some ((y2.1,y2.2.1,y2.2.2.1),y.2.1,y.2.2))
def jO.ce:Go.Ql.Callee:=⟨[(.st (.pair (.int .i64) (.sl .str)))],[(.st (.pair (.int .i64) (.pair (.int .i64) (.sl (.st (.pair (.int .i64) (.pair (.int .i64) (.pair (.sl (.int .i64)) (.pair (.int .i64) (.pair (.int .i64) (.sl (.int .i64)))))))))))),(.st (.pair (.int .i64) (.int .i64)))],fun X=>jO X⟩
def jO.G:Env:=⟨31,tab,[(70,jy.ce),(71,js.ce),(69,JA.ce)],[0,1,2,3,4,5,6,15],[],[(5,[⟨[],[],[30],[]⟩,⟨[],[],[29],[2]⟩,⟨[0],[2],[30],[]⟩,⟨[1,2,0],[3],[],[]⟩]),
 (4,[⟨[],[],[21,22,23,24,6,7],[6,7]⟩,⟨[0],[],[21,22,23,24,6,7],[6,7]⟩,⟨[],[],[19,20,22,23,6,7],[6,7]⟩,⟨[],[],[19,20,21,6,7],[6,7]⟩,⟨[3],[],[19,20,21,6,7],[6,7]⟩,⟨[2,4,3],[],[19,20,6,7],[6,7]⟩,⟨[1,0,5,2,4,3],[],[6,7],[6,7]⟩,⟨[6,1,0,5,2,4,3],[],[6,7],[6,7]⟩,⟨[7,6,1,0,5,2,4,3],[],[6,7],[6,7]⟩,⟨[8,7,6,1,0,5,2,4,3],[],[28,6,7],[6,7]⟩,⟨[8,7,6,1,0,5,2,4,3],[],[27,6,7],[6,7]⟩,⟨[],[6],[19,20,21,22,23,24,25,26,18,27,28,7],[7]⟩,⟨[],[7],[19,20,21,22,23,24,25,26,18,27,28,6],[6]⟩,⟨[11,9,8,7,6,1,0,5,2,4,3,12],[6],[28],[]⟩,⟨[12,10,8,7,6,1,0,5,2,4,3,13,11,9],[7],[],[]⟩]),
 (3,[⟨[],[],[17],[]⟩,⟨[],[],[16],[2]⟩,⟨[0],[2],[17],[]⟩,⟨[1,2,0],[3],[],[]⟩])],[(5,jO.c5r),(4,jO.c4r),(3,jO.c3r)],[],Jd⟩
theorem jO.p0:PcA jO.G Try.f27 0:=
 jB (s:=jO.c3r) (by kernel_rfl) (by kernel_rfl) (jC (sh:=jO.c3s) (fun ρ X Z=>jd) (fun ρ X t k=>(by kernel_rfl)) (fun X=>by kernel_rfl))
theorem jO.p1:PcA jO.G Try.f27 1:=
 jB (s:=jO.c4r) (by kernel_rfl) (by kernel_rfl) (jC (sh:=jO.c3s) (fun ρ X Z=>(je fun _=>(je fun _=>jd))) (fun ρ X t k=>(by kernel_rfl)) (fun X=>by kernel_rfl))
theorem jO.p2:PcA jO.G Try.f27 2:=
 jB (s:=jO.c5r) (by kernel_rfl) (by kernel_rfl) (jC (sh:=jO.c4x0) (fun ρ X Z=>jd) (fun ρ X t k=>(by kernel_rfl)) (fun X=>by kernel_rfl))
theorem jO.ok:CalleeOk Try.prog 27 jO.ce:=fn_ok (G:=jO.G) Jn mixed Try.func27 ⟨(jX jy.ok (jX js.ok (jX JA.ok Je))),jY,jN⟩ (m:=3) (by kernel_rfl) ⟨⟨⟨trivial,jO.p0⟩,jO.p1⟩,jO.p2⟩ (by kernel_rfl) (fun _=>by kernel_rfl)
def ki (code:Int) (t1:Int):Option (Int×Int):=
 some (code,t1)
def ki.ce:Go.Ql.Callee:=⟨[(.int .i64),(.int .i64)],[(.st (.pair (.int .i64) (.int .i64)))],fun X=>ki X.1 X.2⟩
def ki.G:Env:=⟨8,tab,[],[0,1,4],[],[],[],[],Jd⟩
theorem ki.ok:CalleeOk Try.prog 44 ki.ce:=fn_ok (G:=ki.G) Jn mixed Try.func44 ⟨Je,jY,jN⟩ (m:=0) (by kernel_rfl) trivial (by kernel_rfl) (fun _=>by kernel_rfl)
abbrev tb45:SO:=.box [.val .bool,.val .str]
def jM.c1 (text:List UInt8)(n:Int)(Z:Bool→Option ρ):Option ρ:=
 br (decide (n<(1:Int)))
 (Z true)
 (br ((↑(List.length text):Int) !=IntKind.i64.wrap (n+(1:Int)))
 (Z true)
 (bnd (idx text (0:Int)) fun y=>
 br ((↑(UInt8.toNat y):Int) !=(43:Int))
 (bnd (idx text (0:Int)) fun y1=>
 Z ((↑(UInt8.toNat y1):Int) !=(45:Int)))
 (Z false)))
def jM.c1s:Shape:=⟨[(0,tb4),(1,tb5),(4,tb6),(5,tb7)],[(4,tb45)]⟩
def jM.c1x0:Shape:=⟨[(0,tb4),(1,tb5),(4,tb6),(5,tb7),(25,tb7)],[(4,tb45)]⟩
def jM.c1r:Ck:=Ck.of (T:=Bool) jM.c1s (fun ρ X Z=>jM.c1 X.1 X.2.1 Z) (fun ρ X V Z=>Z 0 (Shape.inj jM.c1x0 (X.1,X.2.1,X.2.2.1,V,X.2.2.2)))
def jM.c6 (text:List UInt8)(i:Int)(Z:Bool→Option ρ):Option ρ:=
 bnd (idx text i) fun y=>
 br ((↑(UInt8.toNat y):Int) !=(73:Int))
 (bnd (idx text i) fun y1=>
 br ((↑(UInt8.toNat y1):Int) !=(88:Int))
 (bnd (idx text i) fun y2=>
 br ((↑(UInt8.toNat y2):Int) !=(89:Int))
 (bnd (idx text i) fun y3=>
 Z ((↑(UInt8.toNat y3):Int) !=(90:Int)))
 (Z false))
 (Z false))
 (Z false)
def jM.c6s:Shape:=⟨[(0,tb4),(1,tb5),(4,tb6),(5,tb7),(6,tb5)],[(4,tb45)]⟩
def jM.c6x0:Shape:=⟨[(0,tb4),(1,tb5),(4,tb6),(5,tb7),(6,tb5),(53,tb7)],[(4,tb45)]⟩
def jM.c6r:Ck:=Ck.of (T:=Bool) jM.c6s (fun ρ X Z=>jM.c6 X.1 X.2.2.2.1 Z) (fun ρ X V Z=>Z 0 (Shape.inj jM.c6x0 (X.1,X.2.1,X.2.2.1,X.2.2.2.1,V,(q4 X))))
def jM.cd_ (text:List UInt8)(n:Int)(i:Int)(Z:Int⊕(Int⊕Int)→Option ρ):Option ρ:=
 br (decide (i≤n))
 (bnd (jM.c6 text i some) fun y=>
 br y
 (Z (.inr (.inl i)))
 (Z (.inl (IntKind.i64.wrap (i+(1:Int))))))
 (Z (.inr (.inr i)))
def jM.cd_r:Ck:=Ck.ofLoop (S:=Int) (T:=Int⊕Int) jM.c6s (fun X=>X.2.2.2.1) (fun ρ X Q Z=>jM.cd_ X.1 X.2.1 Q Z) (fun ρ X V Z=>sel V (fun V=>Z 1 (Shape.inj jM.c6s (X.1,X.2.1,false,V,false,[],()))) (fun V=>Z 2 (Shape.inj jM.c6s (X.1,X.2.1,X.2.2.1,V,(q4 X)))))
def jM.c8 (text:List UInt8)(Z:Bool→Option ρ):Option ρ:=
 bnd (idx text (0:Int)) fun y=>
 bnd (okIf (decide ((1:Int)≤(↑(List.length text):Int))&&decide ((↑(List.length text):Int)≤(↑(List.length text):Int)))) fun y1=>
 Z ((↑(UInt8.toNat y):Int)==(45:Int))
def jM.c8r:Ck:=Ck.of (T:=Bool) jM.c6s (fun ρ X Z=>jM.c8 X.1 Z) (fun ρ X V Z=>Z 0 (Shape.inj jM.c6s (X.1,X.2.1,true,X.2.2.2.1,V,(List.drop (1:Nat) (List.take (Int.toNat (↑(List.length X.1):Int)) X.1)),())))
def jM (text:List UInt8) (n:Int):Option ((Bool×(List UInt8))×Bool):=
 bnd (jM.c1 text n some) fun y=>
 br y
 (some ((false,[]),false))
 (bnd (iter (fun s↦jM.cd_ text n s some) (1:Int)) fun y1=>
 sel y1
 (fun u=>some ((false,[]),false))
 (fun v=>bnd (jM.c8 text some) fun y2=>
 some ((y2,List.drop (1:Nat) (List.take (Int.toNat (↑(List.length text):Int)) text)),true)))
def jM.ce:Go.Ql.Callee:=⟨[.str,(.int .i64)],[(.st (.pair .bool .str)),.bool],fun X=>jM X.1 X.2⟩
def jM.G:Env:=⟨61,tab,[],[0,1,4,5,6,25,29,53],[],[(8,[⟨[],[],[58,59],[]⟩,⟨[0],[],[58,59],[]⟩,⟨[1,0],[],[58,59],[]⟩,⟨[],[],[55,56,57],[]⟩,⟨[3],[],[55,56,57],[]⟩,⟨[2,1,0,4,3],[],[],[]⟩,⟨[5,2,1,0,4,3],[4],[],[]⟩,⟨[6,5,2,1,0,4,3],[],[],[]⟩])],[(8,jM.c8r),(100004,jM.cd_r),(6,jM.c6r),(1,jM.c1r)],[],Jd⟩
theorem jM.p0:PcA jM.G Try.f15 0:=
 jB (s:=jM.c1r) (by kernel_rfl) (by kernel_rfl) (jC (sh:=jM.c1s) (fun ρ X Z=>(jo jd (jo jd (je fun _=>(jo (je fun _=>jd) jd))))) (fun ρ X t k=>(by kernel_rfl)) (fun X=>by kernel_rfl))
theorem jM.p1:PcA jM.G Try.f15 1:=
 Jo (s:=jM.cd_r) (by kernel_rfl) (by kernel_rfl) (Jg (sh:=jM.c6s) (I:=fun X Q=>(X.1,X.2.1,X.2.2.1,Q,(q4 X))) (fun X=>rfl) (fun ρ X Q Z=>(jo (je fun _=>(jo jd jd)) jd)) (fun ρ X t k=>(JU (fun _=>(by kernel_rfl)) (fun _=>(by kernel_rfl)))) (fun X s=>by kernel_rfl))
theorem jM.p2:PcA jM.G Try.f15 2:=
 jB (s:=jM.c6r) (by kernel_rfl) (by kernel_rfl) (jC (sh:=jM.c6s) (fun ρ X Z=>(je fun _=>(jo (je fun _=>(jo (je fun _=>(jo (je fun _=>jd) jd)) jd)) jd))) (fun ρ X t k=>(by kernel_rfl)) (fun X=>by kernel_rfl))
theorem jM.p3:PcA jM.G Try.f15 3:=
 jB (s:=jM.c8r) (by kernel_rfl) (by kernel_rfl) (jC (sh:=jM.c6s) (fun ρ X Z=>(je fun _=>(je fun _=>jd))) (fun ρ X t k=>(by kernel_rfl)) (fun X=>by kernel_rfl))
theorem jM.ok:CalleeOk Try.prog 15 jM.ce:=fn_ok (G:=jM.G) Jn mixed Try.func15 ⟨Je,jY,jN⟩ (m:=4) (by kernel_rfl) ⟨⟨⟨⟨trivial,jM.p0⟩,jM.p1⟩,jM.p2⟩,jM.p3⟩ (by kernel_rfl) (fun _=>by kernel_rfl)
abbrev tb46:SD:=.one (.own 3 0)
abbrev tb47:SO:=.arr 0 false 9 .str
def ku.ca_ (gens:List (List UInt8))(i:Int)(out:List (List UInt8))(Z:(Int×(List (List UInt8)))⊕(Int×(List (List UInt8)))→Option ρ):Option ρ:=
 br (decide (i<(↑(List.length gens):Int)))
 (bnd (idx gens i) fun y=>
 bnd (okIf (decide ((1:Int)≤(↑(List.length y):Int))&&decide ((↑(List.length y):Int)≤(↑(List.length y):Int)))) fun y1=>
 bnd (okIf (decide ((List.length out+(1:Nat))*(16:Nat)≤(140737488355328:Nat))&&decide (List.length out+(1:Nat)≤(140737488355328:Nat)))) fun y2=>
 Z (.inl ((IntKind.i64.wrap (i+(1:Int))),(out++[List.drop (1:Nat) (List.take (Int.toNat (↑(List.length y):Int)) y)]))))
 (Z (.inr (i,out)))
def ku.ca_s:Shape:=⟨[(0,tb21),(2,tb21),(3,tb46),(4,tb5)],[(3,tb47)]⟩
def ku.ca_r:Ck:=Ck.ofLoop (S:=Int×(List (List UInt8))) (T:=Int×(List (List UInt8))) ku.ca_s (fun X=>(X.2.2.1,X.2.2.2.1)) (fun ρ X Q Z=>ku.ca_ X.1 Q.1 Q.2 Z) (fun ρ X V Z=>Z 2 (Shape.inj ku.ca_s (X.1,X.2.1,V.1,V.2,())))
def ku (gens:List (List UInt8)):Option (List (List UInt8)):=
 bnd (iter (fun s↦ku.ca_ gens s.1 s.2 some) ((0:Int),[])) fun y=>
 some y.2
def ku.ce:Go.Ql.Callee:=⟨[(.sl .str)],[(.sl .str)],fun X=>ku X⟩
def ku.G:Env:=⟨20,tab,[],[0,2,3,4,8],[3],[],[(100003,ku.ca_r)],[],Jd⟩
theorem ku.p0:PcA ku.G Try.f72 0:=
 Jo (s:=ku.ca_r) (by kernel_rfl) (by kernel_rfl) (Jg (sh:=ku.ca_s) (I:=fun X Q=>(X.1,X.2.1,Q.1,Q.2,())) (fun X=>rfl) (fun ρ X Q Z=>(jo (je fun _=>(je fun _=>(je fun _=>jd))) jd)) (fun ρ X t k=>(by kernel_rfl)) (fun X s=>by kernel_rfl))
theorem ku.ok:CalleeOk Try.prog 72 ku.ce:=fn_ok (G:=ku.G) Jn mixed Try.func72 ⟨Je,jY,jN⟩ (m:=1) (by kernel_rfl) ⟨trivial,ku.p0⟩ (by kernel_rfl) (fun _=>by kernel_rfl)
def Jk.c5 (a:List UInt8)(b:List UInt8)(i:Int)(Z:Bool→Option ρ):Option ρ:=
 bnd (idx a i) fun y=>
 br ((↑(UInt8.toNat y):Int) !=(73:Int))
 (bnd (idx b i) fun y1=>
 br ((↑(UInt8.toNat y1):Int) !=(73:Int))
 (bnd (idx a i) fun y2=>
 bnd (idx b i) fun y3=>
 Z ((↑(UInt8.toNat y2):Int) !=(↑(UInt8.toNat y3):Int)))
 (Z false))
 (Z false)
def Jk.c5s:Shape:=⟨[(0,tb4),(1,tb4),(4,tb7),(5,tb5),(6,tb5)],[]⟩
def Jk.c5x0:Shape:=⟨[(0,tb4),(1,tb4),(4,tb7),(5,tb5),(6,tb5),(31,tb7)],[]⟩
def Jk.c5r:Ck:=Ck.of (T:=Bool) Jk.c5s (fun ρ X Z=>Jk.c5 X.1 X.2.1 (q4 X).1 Z) (fun ρ X V Z=>Z 0 (Shape.inj Jk.c5x0 (X.1,X.2.1,X.2.2.1,X.2.2.2.1,(q4 X).1,V,())))
def Jk.cX_ (a:List UInt8)(b:List UInt8)(n:Int)(i:Int)(Z:Int→Option ρ):Option ρ:=
 bnd (Jk.c5 a b i some) fun y=>
 br y
 (Z (IntKind.i64.wrap (n+(1:Int))))
 (Z n)
def Jk.cX_r:Ck:=Ck.of (T:=Int) Jk.c5s (fun ρ X Z=>Jk.cX_ X.1 X.2.1 X.2.2.2.1 (q4 X).1 Z) (fun ρ X V Z=>Z 0 (Shape.inj Jk.c5s (X.1,X.2.1,X.2.2.1,V,(q4 X))))
def Jk.ca_ (a:List UInt8)(b:List UInt8)(n:Int)(i:Int)(Z:(Int×Int)⊕(Int×Int)→Option ρ):Option ρ:=
 br (decide (i<(↑(List.length a):Int)))
 (bnd (Jk.cX_ a b n i some) fun y=>
 Z (.inl (y,(IntKind.i64.wrap (i+(1:Int))))))
 (Z (.inr (n,i)))
def Jk.ca_r:Ck:=Ck.ofLoop (S:=Int×Int) (T:=Int×Int) Jk.c5s (fun X=>(X.2.2.2.1,(q4 X).1)) (fun ρ X Q Z=>Jk.ca_ X.1 X.2.1 Q.1 Q.2 Z) (fun ρ X V Z=>Z 2 (Shape.inj Jk.c5s (X.1,X.2.1,X.2.2.1,V.1,V.2,())))
def Jk (a:List UInt8) (b:List UInt8):Option Bool:=
 bnd (iter (fun s↦Jk.ca_ a b s.1 s.2 some) ((0:Int),(0:Int))) fun y=>
 some (Int.tmod y.1 (2:Int)==(1:Int))
def Jk.ce:Go.Ql.Callee:=⟨[.str,.str],[.bool],fun X=>Jk X.1 X.2⟩
def Jk.G:Env:=⟨37,tab,[],[0,1,4,5,6,10,31],[],[(5,[⟨[],[],[14],[]⟩,⟨[],[],[13],[]⟩,⟨[0,1],[],[],[]⟩,⟨[2,0,1],[],[],[]⟩,⟨[3,2,0,1],[],[],[]⟩,⟨[4,3,2,0,1],[],[19],[]⟩,⟨[4,3,2,0,1],[],[18],[]⟩,⟨[5,4,3,2,0,1,6],[],[],[]⟩,⟨[7,5,4,3,2,0,1,6],[],[],[]⟩,⟨[4,3,2,0,1,8,7,5,6],[],[],[]⟩,⟨[9,4,3,2,0,1,8,7,5,6],[],[],[]⟩,⟨[10,9,4,3,2,0,1,8,7,5,6],[],[25,27,28,29],[]⟩,⟨[10,9,4,3,2,0,1,8,7,5,6],[],[24,27,28,29],[]⟩,⟨[11,10,9,4,3,2,0,1,8,7,5,6,12],[],[27,28,29],[]⟩,⟨[10,9,4,3,2,0,1,8,7,5,6],[],[24,25,26,28],[]⟩,⟨[10,9,4,3,2,0,1,8,7,5,6],[],[24,25,26,27],[]⟩,⟨[14,10,9,4,3,2,0,1,8,7,5,6,15],[],[24,25,26],[]⟩,⟨[13,11,10,9,4,3,2,0,1,8,7,5,6,12,16,14,15],[],[],[]⟩,⟨[10,9,4,3,2,0,1,8,7,5,6,17,13,11,12,16,14,15],[],[],[]⟩])],[(100003,Jk.ca_r),(220486,Jk.cX_r),(5,Jk.c5r)],[],Jd⟩
theorem Jk.p0:PcA Jk.G Try.f73 0:=
 Jo (s:=Jk.ca_r) (by kernel_rfl) (by kernel_rfl) (Jg (sh:=Jk.c5s) (I:=fun X Q=>(X.1,X.2.1,X.2.2.1,Q.1,Q.2,())) (fun X=>rfl) (fun ρ X Q Z=>(jo (je fun _=>jd) jd)) (fun ρ X t k=>(by kernel_rfl)) (fun X s=>by kernel_rfl))
theorem Jk.p1:PcA Jk.G Try.f73 1:=
 kq (s:=Jk.cX_r) (by kernel_rfl) (by kernel_rfl) (jC (sh:=Jk.c5s) (fun ρ X Z=>(je fun _=>(jo jd jd))) (fun ρ X t k=>(by kernel_rfl)) (fun X=>by kernel_rfl))
theorem Jk.p2:PcA Jk.G Try.f73 2:=
 jB (s:=Jk.c5r) (by kernel_rfl) (by kernel_rfl) (jC (sh:=Jk.c5s) (fun ρ X Z=>(je fun _=>(jo (je fun _=>(jo (je fun _=>(je fun _=>jd)) jd)) jd))) (fun ρ X t k=>(by kernel_rfl)) (fun X=>by kernel_rfl))
theorem Jk.ok:CalleeOk Try.prog 73 Jk.ce:=fn_ok (G:=Jk.G) Jn mixed Try.func73 ⟨Je,jY,jN⟩ (m:=3) (by kernel_rfl) ⟨⟨⟨trivial,Jk.p0⟩,Jk.p1⟩,Jk.p2⟩ (by kernel_rfl) (fun _=>by kernel_rfl)
def jn.c8 (a:List UInt8)(b:List UInt8)(i:Int)(Z:Bool→Option ρ):Option ρ:=
 bnd (idx a i) fun y=>
 bnd (idx b i) fun y1=>
 Z ((↑(UInt8.toNat y):Int)==(↑(UInt8.toNat y1):Int))
def jn.c8s:Shape:=⟨[(0,tb4),(1,tb4),(4,tb4),(5,tb4),(6,tb5),(7,tb4)],[]⟩
def jn.c8x0:Shape:=⟨[(0,tb4),(1,tb4),(4,tb4),(5,tb4),(6,tb5),(7,tb4),(35,tb7)],[]⟩
def jn.c8r:Ck:=Ck.of (T:=Bool) jn.c8s (fun ρ X Z=>jn.c8 X.1 X.2.1 (q4 X).1 Z) (fun ρ X V Z=>Z 0 (Shape.inj jn.c8x0 (X.1,X.2.1,X.2.2.1,X.2.2.2.1,(q4 X).1,(q4 X).2.1,V,())))
def jn.c15 (a:List UInt8)(b:List UInt8)(i:Int)(t8:Int)(Z:Bool→Option ρ):Option ρ:=
 bnd (idx (Array.toList (ByteArray.data (ByteArray.mk #[88,89,90]))) t8) fun y=>
 bnd (idx a i) fun y1=>
 br ((↑(UInt8.toNat y):Int) !=(↑(UInt8.toNat y1):Int))
 (bnd (idx (Array.toList (ByteArray.data (ByteArray.mk #[88,89,90]))) t8) fun y2=>
 bnd (idx b i) fun y3=>
 Z ((↑(UInt8.toNat y2):Int) !=(↑(UInt8.toNat y3):Int)))
 (Z false)
def jn.c15s:Shape:=⟨[(0,tb4),(1,tb4),(4,tb4),(5,tb4),(6,tb5),(7,tb4),(8,tb5)],[]⟩
def jn.c15x0:Shape:=⟨[(0,tb4),(1,tb4),(4,tb4),(5,tb4),(6,tb5),(7,tb4),(8,tb5),(57,tb7)],[]⟩
def jn.c15r:Ck:=Ck.of (T:=Bool) jn.c15s (fun ρ X Z=>jn.c15 X.1 X.2.1 (q4 X).1 (q4 X).2.2.1 Z) (fun ρ X V Z=>Z 0 (Shape.inj jn.c15x0 (X.1,X.2.1,X.2.2.1,X.2.2.2.1,(q4 X).1,(q4 X).2.1,(q4 X).2.2.1,V,())))
def jn.cQ_ (a:List UInt8)(b:List UInt8)(i:Int)(c:List UInt8)(t8:Int)(Z:List UInt8→Option ρ):Option ρ:=
 bnd (jn.c15 a b i t8 some) fun y=>
 br y
 (bnd (okIf (decide ((0:Int)≤t8)&&decide (t8≤IntKind.i64.wrap (t8+(1:Int)))&&decide (IntKind.i64.wrap (t8+(1:Int))≤(↑(List.length (Array.toList (ByteArray.data (ByteArray.mk #[88,89,90])))):Int)))) fun y1=>
 Z (List.drop (Int.toNat t8) (List.take (Int.toNat (IntKind.i64.wrap (t8+(1:Int)))) (Array.toList (ByteArray.data (ByteArray.mk #[88,89,90]))))))
 (Z c)
def jn.cQ_r:Ck:=Ck.of (T:=List UInt8) jn.c15s (fun ρ X Z=>jn.cQ_ X.1 X.2.1 (q4 X).1 (q4 X).2.1 (q4 X).2.2.1 Z) (fun ρ X V Z=>Z 0 (Shape.inj jn.c15s (X.1,X.2.1,X.2.2.1,X.2.2.2.1,(q4 X).1,V,(q4 X).2.2)))
def jn.cf_ (a:List UInt8)(b:List UInt8)(i:Int)(c:List UInt8)(t8:Int)(Z:((List UInt8)×Int)⊕((List UInt8)×Int)→Option ρ):Option ρ:=
 br (decide (t8<(3:Int)))
 (bnd (jn.cQ_ a b i c t8 some) fun y=>
 Z (.inl (y,(IntKind.i64.wrap (t8+(1:Int))))))
 (Z (.inr (c,t8)))
def jn.cf_r:Ck:=Ck.ofLoop (S:=(List UInt8)×Int) (T:=(List UInt8)×Int) jn.c15s (fun X=>((q4 X).2.1,(q4 X).2.2.1)) (fun ρ X Q Z=>jn.cf_ X.1 X.2.1 (q4 X).1 Q.1 Q.2 Z) (fun ρ X V Z=>Z 4 (Shape.inj jn.c15s (X.1,X.2.1,X.2.2.1,X.2.2.2.1,(q4 X).1,V.1,V.2,())))
def jn.cT_ (a:List UInt8)(b:List UInt8)(i:Int)(c:List UInt8)(Z:List UInt8→Option ρ):Option ρ:=
 bnd (idx a i) fun y=>
 br ((↑(UInt8.toNat y):Int)==(73:Int))
 (bnd (okIf (decide ((0:Int)≤i)&&decide (i≤IntKind.i64.wrap (i+(1:Int)))&&decide (IntKind.i64.wrap (i+(1:Int))≤(↑(List.length b):Int)))) fun y1=>
 Z (List.drop (Int.toNat i) (List.take (Int.toNat (IntKind.i64.wrap (i+(1:Int)))) b)))
 (bnd (jn.c8 a b i some) fun y2=>
 br y2
 (Z (Array.toList (ByteArray.data (ByteArray.mk #[73]))))
 (bnd (idx b i) fun y3=>
 br ((↑(UInt8.toNat y3):Int) !=(73:Int))
 (bnd (iter (fun s↦jn.cf_ a b i s.1 s.2 some) (Array.toList (ByteArray.data (ByteArray.mk #[88])),(0:Int))) fun y4=>
 Z y4.1)
 (Z c)))
def jn.cT_r:Ck:=Ck.of (T:=List UInt8) jn.c8s (fun ρ X Z=>jn.cT_ X.1 X.2.1 (q4 X).1 (q4 X).2.1 Z) (fun ρ X V Z=>Z 0 (Shape.inj jn.c8s (X.1,X.2.1,X.2.2.1,X.2.2.2.1,(q4 X).1,V,())))
def jn.ca_ (a:List UInt8)(b:List UInt8)(out:List UInt8)(i:Int)(Z:((List UInt8)×Int)⊕((List UInt8)×Int)→Option ρ):Option ρ:=
 br (decide (i<(↑(List.length a):Int)))
 (bnd (okIf (decide ((0:Int)≤i)&&decide (i≤IntKind.i64.wrap (i+(1:Int)))&&decide (IntKind.i64.wrap (i+(1:Int))≤(↑(List.length a):Int)))) fun y=>
 bnd (jn.cT_ a b i (List.drop (Int.toNat i) (List.take (Int.toNat (IntKind.i64.wrap (i+(1:Int)))) a)) some) fun y1=>
 bnd (okIf (decide (List.length out+List.length y1≤(9223372036854775807:Nat)))) fun y2=>
 Z (.inl ((out++y1),(IntKind.i64.wrap (i+(1:Int))))))
 (Z (.inr (out,i)))
def jn.ca_s:Shape:=⟨[(0,tb4),(1,tb4),(4,tb4),(5,tb4),(6,tb5)],[]⟩
def jn.ca_r:Ck:=Ck.ofLoop (S:=(List UInt8)×Int) (T:=(List UInt8)×Int) jn.ca_s (fun X=>(X.2.2.2.1,(q4 X).1)) (fun ρ X Q Z=>jn.ca_ X.1 X.2.1 Q.1 Q.2 Z) (fun ρ X V Z=>Z 2 (Shape.inj jn.ca_s (X.1,X.2.1,X.2.2.1,V.1,V.2,())))
def jn (a:List UInt8) (b:List UInt8):Option (List UInt8):=
 bnd (iter (fun s↦jn.ca_ a b s.1 s.2 some) (Array.toList (ByteArray.data (ByteArray.mk #[])),(0:Int))) fun y=>
 some y.1
def jn.ce:Go.Ql.Callee:=⟨[.str,.str],[.str],fun X=>jn X.1 X.2⟩
def jn.G:Env:=⟨66,tab,[],[0,1,4,5,6,7,8,12,23,35,39,41,57],[],[(15,[⟨[],[],[46,47,48],[]⟩,⟨[0],[],[46,47,48],[]⟩,⟨[],[],[44,45,47],[]⟩,⟨[],[],[44,45,46],[]⟩,⟨[2,3],[],[44,45],[]⟩,⟨[1,0,4,2,3],[],[],[]⟩,⟨[5,1,0,4,2,3],[],[],[]⟩,⟨[6,5,1,0,4,2,3],[],[53,54,55],[]⟩,⟨[7,6,5,1,0,4,2,3],[],[53,54,55],[]⟩,⟨[6,5,1,0,4,2,3],[],[51,52,54],[]⟩,⟨[6,5,1,0,4,2,3],[],[51,52,53],[]⟩,⟨[9,6,5,1,0,4,2,3,10],[],[51,52],[]⟩,⟨[8,7,6,5,1,0,4,2,3,11,9,10],[],[],[]⟩,⟨[6,5,1,0,4,2,3,12,8,7,11,9,10],[],[],[]⟩]),
 (8,[⟨[],[],[30,32,33,34],[]⟩,⟨[],[],[29,32,33,34],[]⟩,⟨[0,1],[],[32,33,34],[]⟩,⟨[],[],[29,30,31,33],[]⟩,⟨[],[],[29,30,31,32],[]⟩,⟨[3,4],[],[29,30,31],[]⟩,⟨[2,0,1,5,3,4],[],[],[]⟩])],[(100003,jn.ca_r),(224608,jn.cT_r),(100013,jn.cf_r),(261446,jn.cQ_r),(15,jn.c15r),(8,jn.c8r)],[],Jd⟩
theorem jn.p0:PcA jn.G Try.f110 0:=
 Jo (s:=jn.ca_r) (by kernel_rfl) (by kernel_rfl) (Jg (sh:=jn.ca_s) (I:=fun X Q=>(X.1,X.2.1,X.2.2.1,Q.1,Q.2,())) (fun X=>rfl) (fun ρ X Q Z=>(jo (je fun _=>(je fun _=>(je fun _=>jd))) jd)) (fun ρ X t k=>(by kernel_rfl)) (fun X s=>by kernel_rfl))
theorem jn.p1:PcA jn.G Try.f110 1:=
 kq (s:=jn.cT_r) (by kernel_rfl) (by kernel_rfl) (jC (sh:=jn.c8s) (fun ρ X Z=>(je fun _=>(jo (je fun _=>jd) (je fun _=>(jo jd (je fun _=>(jo (je fun _=>jd) jd))))))) (fun ρ X t k=>(by kernel_rfl)) (fun X=>by kernel_rfl))
theorem jn.p2:PcA jn.G Try.f110 2:=
 jB (s:=jn.c8r) (by kernel_rfl) (by kernel_rfl) (jC (sh:=jn.c8s) (fun ρ X Z=>(je fun _=>(je fun _=>jd))) (fun ρ X t k=>(by kernel_rfl)) (fun X=>by kernel_rfl))
theorem jn.p3:PcA jn.G Try.f110 3:=
 Jo (s:=jn.cf_r) (by kernel_rfl) (by kernel_rfl) (Jg (sh:=jn.c15s) (I:=fun X Q=>(X.1,X.2.1,X.2.2.1,X.2.2.2.1,(q4 X).1,Q.1,Q.2,())) (fun X=>rfl) (fun ρ X Q Z=>(jo (je fun _=>jd) jd)) (fun ρ X t k=>(by kernel_rfl)) (fun X s=>by kernel_rfl))
theorem jn.p4:PcA jn.G Try.f110 4:=
 kq (s:=jn.cQ_r) (by kernel_rfl) (by kernel_rfl) (jC (sh:=jn.c15s) (fun ρ X Z=>(je fun _=>(jo (je fun _=>jd) jd))) (fun ρ X t k=>(by kernel_rfl)) (fun X=>by kernel_rfl))
theorem jn.p5:PcA jn.G Try.f110 5:=
 jB (s:=jn.c15r) (by kernel_rfl) (by kernel_rfl) (jC (sh:=jn.c15s) (fun ρ X Z=>(je fun _=>(je fun _=>(jo (je fun _=>(je fun _=>jd)) jd)))) (fun ρ X t k=>(by kernel_rfl)) (fun X=>by kernel_rfl))
theorem jn.ok:CalleeOk Try.prog 110 jn.ce:=fn_ok (G:=jn.G) Jn mixed Try.func110 ⟨Je,jY,jN⟩ (m:=6) (by kernel_rfl) ⟨⟨⟨⟨⟨⟨trivial,jn.p0⟩,jn.p1⟩,jn.p2⟩,jn.p3⟩,jn.p4⟩,jn.p5⟩ (by kernel_rfl) (fun _=>by kernel_rfl)
end
end W
end
