/- Lifted functions, part 1: each with its contract. -/
import Derived.Test.YtjlmpaffhddmdaaGreatDoorCa
import Derived.Test.YtjlmpaffhddmdaaGreatDoorProg
set_option linter.all false
section
set_option maxHeartbeats 4000000
set_option maxRecDepth 100000
namespace W
open Go Go.Ql Go.Proofs Go.IntKind
noncomputable section
variable {ρ:Type}
abbrev ob0:SD:=.one (.val .bool)
abbrev ob1:SD:=.one (.val (.sl (.int .u32)))
abbrev ob2:SD:=.one (.ref 4 0)
abbrev ob3:SD:=.one (.val (.int .i64))
abbrev ob4:SO:=.box [.val .bool,.val (.sl (.int .u32))]
abbrev q4 {a b c d e:Type} (x:a×b×c×d×e):e:=x.2.2.2.2
abbrev q8 {a b c d e f g h i:Type} (x:a×b×c×d×e×f×g×h×i):i:=x.2.2.2.2.2.2.2.2
abbrev YO:=Int×(Int×((List Int)×(Int×(Int×(List Int)))))
abbrev YD:=(Bool)×(List Int)
abbrev YP:=Int×(Int×(Bool))
abbrev YN:=(List YD)×Int
def whole_made.c2 (mag:List (Int))(n:Int)(Z:Bool→Option ρ):Option ρ:=
  br (decide (n>0))
   (bnd (idx mag (i64.wrap (n-1))) fun y=>
    Z (y==0))
   (Z false)
def whole_made.c2s:Shape:=⟨[(0,ob0),(1,ob1),(4,ob2),(5,ob3)],[(4,ob4)]⟩
def whole_made.c2x0:Shape:=⟨[(0,ob0),(1,ob1),(4,ob2),(5,ob3),(17,ob0)],[(4,ob4)]⟩
def whole_made.c2r:Ck:=Ck.of (T:=Bool) whole_made.c2s (fun ρ X Z=>whole_made.c2 X.2.1 X.2.2.1 Z) (fun ρ X V Z=>Z 0 (Shape.inj whole_made.c2x0 (X.1,X.2.1,X.2.2.1,V,X.2.2.2)))
def whole_made.ca_ (mag:List (Int))(n:Int)(Z:(Int)⊕(Int)→Option ρ):Option ρ:=
  bnd (whole_made.c2 mag n some) fun y=>
  br y
   (Z (.inl (i64.wrap (n-1))))
   (Z (.inr n))
def whole_made.ca_r:Ck:=Ck.ofLoop (S:=Int) (T:=Int) whole_made.c2s (fun X=>X.2.2.1) (fun ρ X Q Z=>whole_made.ca_ X.2.1 Q Z) (fun ρ X V Z=>Z 2 (Shape.inj whole_made.c2s (X.1,X.2.1,V,X.2.2.2)))
def whole_made (neg:Bool) (mag:List (Int)):Option (Bool×(List Int)):=
  bnd (iter (fun s↦whole_made.ca_ mag s some) ↑(mag.length)) fun y=>
  br (y==0)
   (some (false,[]))
   (bnd (okIf (decide ((0:Int)≤y)&&decide (y≤y)&&decide (y≤(mag.length:Int)))) fun y1=>
    some (neg,List.take (Int.toNat y) mag))
def whole_made.ce:Go.Ql.Callee:=⟨[.bool,(.sl (.int .u32))],[(.st (.pair .bool (.sl (.int .u32))))],fun X=>whole_made X.1 X.2⟩
def whole_made.G:Env:=⟨29,tab,[],[0,1,4,5,17,21],[],[],[(100002,whole_made.ca_r),(2,whole_made.c2r)],[],jE,[]⟩
theorem whole_made.p0:PcA whole_made.G Tryz.f59 0:=
  Ja (s:=whole_made.ca_r) (by kernel_rfl) (by kernel_rfl) (jU (sh:=whole_made.c2s) (I:=fun X Q=>(X.1,X.2.1,Q,X.2.2.2)) (fun X=>rfl) (fun ρ X Q Z=>(jb fun _=>(jl jc jc))) (fun ρ X t k=>(by kernel_rfl)) (fun X s=>by kernel_rfl))
theorem whole_made.p1:PcA whole_made.G Tryz.f59 1:=
  jv (s:=whole_made.c2r) (by kernel_rfl) (by kernel_rfl) (jp (sh:=whole_made.c2s) (fun ρ X Z=>(jl (jb fun _=>jc) jc)) (fun ρ X t k=>(by kernel_rfl)) (fun X=>by kernel_rfl))
theorem whole_made.ok:CalleeOk Tryz.prog 59 whole_made.ce:=fn_ok (G:=whole_made.G) jM mixed Tryz.func59 ⟨jF,jA,jo,jz⟩ (m:=2) (by kernel_rfl) ⟨⟨trivial,whole_made.p0⟩,whole_made.p1⟩ (by kernel_rfl) (fun _=>by kernel_rfl)
abbrev ob5:SD:=.one (.ref 2 0)
abbrev ob6:SD:=.one (.val (.int .u64))
def whole_Of.cg_ (n:Int)(u:Int)(Z:Int→Option ρ):Option ρ:=
  br (decide (n<0))
   (Z (u64.wrap ((0:Int)-u)))
   (Z u)
def whole_Of.cg_s:Shape:=⟨[(0,ob3),(2,ob5),(3,ob6)],[(2,ob4)]⟩
def whole_Of.cg_r:Ck:=Ck.of (T:=Int) whole_Of.cg_s (fun ρ X Z=>whole_Of.cg_ X.1 X.2.1 Z) (fun ρ X V Z=>Z 0 (Shape.inj whole_Of.cg_s (X.1,V,X.2.2)))
def whole_Of (n:Int):Option (Bool×(List Int)):=
  bnd (whole_Of.cg_ n (IntKind.wrap IntKind.u64 n) some) fun y=>
  bnd (whole_made (decide (n<0)) [IntKind.wrap IntKind.u32 y,u32.wrap (Int.fdiv y ((2:Int) ^32))]) fun y1=>
  some (y1.1,y1.2)
def whole_Of.ce:Go.Ql.Callee:=⟨[(.int .i64)],[(.st (.pair .bool (.sl (.int .u32))))],fun X=>whole_Of X⟩
def whole_Of.G:Env:=⟨19,tab,[(59,whole_made.ce)],[0,2,3,7],[],[],[(208197,whole_Of.cg_r)],[],jE,[]⟩
theorem whole_Of.p0:PcA whole_Of.G Tryz.f43 0:=
  Jo (s:=whole_Of.cg_r) (by kernel_rfl) (by kernel_rfl) (jp (sh:=whole_Of.cg_s) (fun ρ X Z=>(jl jc jc)) (fun ρ X t k=>(by kernel_rfl)) (fun X=>by kernel_rfl))
theorem whole_Of.ok:CalleeOk Tryz.prog 43 whole_Of.ce:=fn_ok (G:=whole_Of.G) jM mixed Tryz.func43 ⟨(jh whole_made.ok jF),jA,jo,jz⟩ (m:=1) (by kernel_rfl) ⟨trivial,whole_Of.p0⟩ (by kernel_rfl) (fun _=>by kernel_rfl)
def kY  : Option ((List (Bool×(List Int)))×(Int)):=
  bnd (whole_Of (1:Int)) fun y=>
  bnd (whole_Of (-1:Int)) fun y1=>
  some (List.set (List.set (List.replicate (8:Nat) (false,[])) (2:Nat) y) (6:Nat) y1,(1:Int))
def kY.ce:Go.Ql.Callee:=⟨[],[(.st (.pair (.ar 8 (.st (.pair .bool (.sl (.int .u32))))) (.int .i64)))],fun X=>kY⟩
def kY.G:Env:=⟨5,tab,[(43,whole_Of.ce)],[0],[0,4],[],[],[],jE,[]⟩
theorem kY.ok:CalleeOk Tryz.prog 37 kY.ce:=fn_ok (G:=kY.G) jM mixed Tryz.func37 ⟨(jh whole_Of.ok jF),jA,jo,jz⟩ (m:=0) (by kernel_rfl) trivial (by kernel_rfl) (fun _=>by kernel_rfl)
def whole_Int_Sign (a:Bool×(List Int)):Option (Int):=
  br ((↑(List.length a.2):Int)==0)
   (some (0:Int))
   (br a.1
     (some (-1:Int))
     (some (1:Int)))
def whole_Int_Sign.ce:Go.Ql.Callee:=⟨[(.st (.pair .bool (.sl (.int .u32))))],[(.int .i64)],fun X=>whole_Int_Sign X⟩
def whole_Int_Sign.G:Env:=⟨11,tab,[],[0,1,2,3,8],[],[],[],[],jE,[]⟩
theorem whole_Int_Sign.ok:CalleeOk Tryz.prog 38 whole_Int_Sign.ce:=fn_ok (G:=whole_Int_Sign.G) jM mixed Tryz.func38 ⟨jF,jA,jo,jz⟩ (m:=0) (by kernel_rfl) trivial (by kernel_rfl) (fun _=>by kernel_rfl)
abbrev ob7:SD:=.one (.own 0 0)
abbrev ob8:SO:=.arr 0 false 115 (.int .u32)
def Ji.pre:Shape:=⟨[(0,ob1)],[]⟩
def Ji.post:Shape:=⟨[(0,ob7)],[(0,ob8)]⟩
def Ji (s:List (Int)):Option ((List Int)×Unit):=
  br (List.isEmpty s)
   (both
     (some ([],()))
     (bnd (okIf (decide (((0:Nat)+s.length)*4≤140737488355328)&&decide ((0:Nat)+s.length≤140737488355328))) fun y=>
      some (s,())))
   (bnd (okIf (decide (((0:Nat)+s.length)*4≤140737488355328)&&decide ((0:Nat)+s.length≤140737488355328))) fun y1=>
    some (s,()))
def Ji.mc:MCallee:=⟨69,Ji.pre,Ji.post,fun X=>Ji X.1⟩
def Ji.G:Env:=⟨8,tab,[],[0,2,4],[2,5],[],[],[],jE,[]⟩
theorem Ji.ok:MOk Tryz.prog 69 Ji.mc:=Ug (mc:=Ji.mc) (G:=Ji.G) jM mixed Tryz.func69 ⟨jF,jA,jo,jz⟩ (m:=0) (by kernel_rfl) trivial (by kernel_rfl) (fun _=>by kernel_rfl)
abbrev ob9:SD:=.one (.own 2000000 0)
abbrev ob10:SO:=.arr 0 false 5 (.int .u8)
def jm.pre:Shape:=⟨[(0,ob9)],[(2000000,ob10)]⟩
def jm.post:Shape:=⟨[],[(2000000,ob10)]⟩
def jm.c3 (i:Int)(j:Int)(ua:List (Int))(Z:List (Int)→Option ρ):Option ρ:=
  bnd (inR (ua.length) j) fun y=>
  bnd (idx ua j) fun y1=>
  bnd (inR (ua.length) i) fun y2=>
  bnd (idx ua i) fun y3=>
  bnd (inR (ua.length) i) fun y4=>
  bnd (idx ua i) fun y5=>
  bnd (inR (List.length (List.set ua (Int.toNat i) y1)) j) fun y6=>
  bnd (idx (List.set ua (Int.toNat i) y1) j) fun y7=>
  Z (List.set (List.set ua (Int.toNat i) y1) (Int.toNat j) y3)
def jm.c3s:Shape:=⟨[(0,ob9),(2,ob3),(3,ob3)],[(2000000,ob10)]⟩
def jm.c3r:Ck:=Ck.of (T:=List (Int)) jm.c3s (fun ρ X Z=>jm.c3 X.1 X.2.1 X.2.2.1 Z) (fun ρ X V Z=>Z 0 (Shape.inj jm.c3s (X.1,X.2.1,V,())))
def jm.ce_ (i:Int)(j:Int)(ua:List (Int))(Z:((Int)×(Int)×(List Int))⊕((Int)×(Int)×(List Int))→Option ρ):Option ρ:=
  br (decide (i<j))
   (bnd (jm.c3 i j ua some) fun y=>
    Z (.inl ((i64.wrap (i+1)),(i64.wrap (j-1)),y)))
   (Z (.inr (i,j,ua)))
def jm.ce_r:Ck:=Ck.ofLoop (S:=(Int)×(Int)×(List Int)) (T:=(Int)×(Int)×(List Int)) jm.c3s (fun X=>(X.1,X.2.1,X.2.2.1)) (fun ρ X Q Z=>jm.ce_ Q.1 Q.2.1 Q.2.2 Z) (fun ρ X V Z=>Z 2 (Shape.inj jm.c3s (V.1,V.2.1,V.2.2,())))
def jm (ua:List (Int)):Option ((List Int)×Unit):=
  bnd (iter (fun s↦jm.ce_ s.1 s.2.1 s.2.2 some) ((0:Int),i64.wrap ((ua.length:Int)-1),ua)) fun y=>
  some (y.2.2,())
def jm.mc:MCallee:=⟨70,jm.pre,jm.post,fun X=>jm X.1⟩
def jm.G:Env:=⟨28,tab,[],[0,2,3,9],[2000000],[(3,[⟨[],[],[15,16,17,18,19,20,21,22,23,24,25],[]⟩,⟨[],[],[14,16,17,18,19,20,21,22,23,24,25],[]⟩,⟨[],[],[14,15,17,18,19,20,21,22,23,24,25,26],[2000000]⟩,⟨[],[],[14,15,16,18,19,20,21,22,23,24,25,26],[2000000]⟩,⟨[],[],[14,15,16,17,19,22,23,24,25],[]⟩,⟨[],[],[14,15,16,17,18,22,23,24,25],[]⟩,⟨[4,5],[],[14,15,16,17,22,23,24,25],[]⟩,⟨[6,4,5],[],[14,15,16,17,22,23,24,25],[]⟩,⟨[],[],[14,15,16,17,18,19,20,21,23],[]⟩,⟨[],[],[14,15,16,17,18,19,20,21,22],[]⟩,⟨[8,9],[],[14,15,16,17,18,19,20,21],[]⟩,⟨[10,8,9],[],[14,15,16,17,18,19,20,21],[]⟩,⟨[0,1,4,5,6,7,11,10,8,9],[],[16,17],[]⟩,⟨[12,0,1,4,5,6,7,11,10,8,9],[2000000],[16,17],[]⟩,⟨[2,3,0,1,4,5,6,7,8,9,10,11,12,13],[],[],[]⟩,⟨[14,2,3,0,1,4,5,6,7,8,9,10,11,12,13],[2000000],[],[]⟩])],[(100001,jm.ce_r),(3,jm.c3r)],[],jE,[]⟩
theorem jm.p0:PcA jm.G Tryz.f70 0:=
  Ja (s:=jm.ce_r) (by kernel_rfl) (by kernel_rfl) (jU (sh:=jm.c3s) (I:=fun X Q=>(Q.1,Q.2.1,Q.2.2,())) (fun X=>rfl) (fun ρ X Q Z=>(jl (jb fun _=>jc) jc)) (fun ρ X t k=>(by kernel_rfl)) (fun X s=>by kernel_rfl))
theorem jm.p1:PcA jm.G Tryz.f70 1:=
  jv (s:=jm.c3r) (by kernel_rfl) (by kernel_rfl) (jp (sh:=jm.c3s) (fun ρ X Z=>(jb fun _=>(jb fun _=>(jb fun _=>(jb fun _=>(jb fun _=>(jb fun _=>(jb fun _=>(jb fun _=>jc))))))))) (fun ρ X t k=>(by kernel_rfl)) (fun X=>by kernel_rfl))
theorem jm.ok:MOk Tryz.prog 70 jm.mc:=Ug (mc:=jm.mc) (G:=jm.G) jM mixed Tryz.func70 ⟨jF,jA,jo,jz⟩ (m:=2) (by kernel_rfl) ⟨⟨trivial,jm.p0⟩,jm.p1⟩ (by kernel_rfl) (fun _=>by kernel_rfl)
abbrev ob11:SD:=.one (.val (.st (.pair .bool (.sl (.int .u32)))))
abbrev ob12:SD:=.one (.ref 1 0)
abbrev ob13:SD:=.one (.val .str)
abbrev ob14:SD:=.one (.own 3 0)
abbrev ob15:SD:=.one (.own 14 0)
def whole_Int_Text.ci_ (part:Int)(i:Int)(t14:List (Int))(Z:((Int)×(Int)×(List Int))⊕((Int)×(Int)×(List Int))→Option ρ):Option ρ:=
  br (decide (i≥0))
   (bnd (inR (t14.length) i) fun y=>
    bnd (idx t14 i) fun y1=>
    bnd (inR (t14.length) i) fun y2=>
    bnd (idx t14 i) fun y3=>
    Z (.inl ((Int.tmod (ibits BinOp.or IntKind.u64 (u64.wrap (part*2 ^32)) (IntKind.wrap IntKind.u64 y1)) (1000000000:Int)),(i64.wrap (i-1)),(List.set t14 (Int.toNat i) (u32.wrap (u64.wrap (Int.tdiv (ibits BinOp.or IntKind.u64 (u64.wrap (part*2 ^32)) (IntKind.wrap IntKind.u64 y1)) (1000000000:Int))))))))
   (Z (.inr (part,i,t14)))
def whole_Int_Text.ci_s:Shape:=⟨[(0,ob11),(1,ob12),(2,ob13),(3,ob14),(4,ob15),(5,ob6),(6,ob3)],[(1,ob4),(3,ob10),(14,ob8)]⟩
def whole_Int_Text.ci_r:Ck:=Ck.ofLoop (S:=(Int)×(Int)×(List Int)) (T:=(Int)×(Int)×(List Int)) whole_Int_Text.ci_s (fun X=>(X.2.2.1,X.2.2.2.1,(q4 X).2.2.2.1)) (fun ρ X Q Z=>whole_Int_Text.ci_ Q.1 Q.2.1 Q.2.2 Z) (fun ρ X V Z=>Z 4 (Shape.inj whole_Int_Text.ci_s (X.1,X.2.1,V.1,V.2.1,(q4 X).1,(q4 X).2.1,(q4 X).2.2.1,V.2.2,())))
def whole_Int_Text.cS_ (t14:List (Int))(Z:List (Int)→Option ρ):Option ρ:=
  bnd (inR (t14.length) (i64.wrap ((t14.length:Int)-1))) fun y=>
  bnd (idx t14 (i64.wrap ((t14.length:Int)-1))) fun y1=>
  br (y1==0)
   (bnd (okIf (decide ((0:Int)≤i64.wrap ((t14.length:Int)-1))&&decide (i64.wrap ((t14.length:Int)-1)≤(t14.length:Int)))) fun y2=>
    Z (List.take (Int.toNat (i64.wrap ((t14.length:Int)-1))) t14))
   (Z t14)
def whole_Int_Text.cS_r:Ck:=Ck.of (T:=List (Int)) whole_Int_Text.ci_s (fun ρ X Z=>whole_Int_Text.cS_ (q4 X).2.2.2.1 Z) (fun ρ X V Z=>Z 0 (Shape.inj whole_Int_Text.ci_s (X.1,X.2.1,X.2.2.1,X.2.2.2.1,(q4 X).1,(q4 X).2.1,(q4 X).2.2.1,V,())))
def whole_Int_Text.c16 (part:Int)(t7:Int)(t14:List (Int))(Z:Bool→Option ρ):Option ρ:=
  br (decide (t7<9))
   (br (decide (part>0))
     (Z true)
     (Z (decide ((t14.length:Int)>0))))
   (Z false)
def whole_Int_Text.c16s:Shape:=⟨[(0,ob11),(1,ob12),(2,ob13),(3,ob14),(4,ob15),(5,ob6),(6,ob3),(7,ob3)],[(1,ob4),(3,ob10),(14,ob8)]⟩
def whole_Int_Text.c16x0:Shape:=⟨[(0,ob11),(1,ob12),(2,ob13),(3,ob14),(4,ob15),(5,ob6),(6,ob3),(7,ob3),(63,ob0)],[(1,ob4),(3,ob10),(14,ob8)]⟩
def whole_Int_Text.c16r:Ck:=Ck.of (T:=Bool) whole_Int_Text.c16s (fun ρ X Z=>whole_Int_Text.c16 X.2.2.1 (q4 X).1 (q8 X).1 Z) (fun ρ X V Z=>Z 0 (Shape.inj whole_Int_Text.c16x0 (X.1,X.2.1,X.2.2.1,X.2.2.2.1,(q4 X).1,V,(q4 X).2)))
def whole_Int_Text.cG_ (part:Int)(t7:Int)(out:List (Int))(t14:List (Int))(Z:((Int)×(Int)×(List Int))⊕((Int)×(Int)×(List Int))→Option ρ):Option ρ:=
  bnd (whole_Int_Text.c16 part t7 t14 some) fun y=>
  br y
   (bnd (okIf (decide ((out.length+1)*1≤140737488355328)&&decide (out.length+1≤140737488355328))) fun y1=>
    Z (.inl ((u64.wrap (Int.tdiv part (10:Int))),(i64.wrap (t7+1)),(out++[u8.wrap (u64.wrap ((48:Int)+Int.tmod part (10:Int)))]))))
   (Z (.inr (part,t7,out)))
def whole_Int_Text.cG_r:Ck:=Ck.ofLoop (S:=(Int)×(Int)×(List Int)) (T:=(Int)×(Int)×(List Int)) whole_Int_Text.c16s (fun X=>(X.2.2.1,(q4 X).1,(q4 X).2.2.2.1)) (fun ρ X Q Z=>whole_Int_Text.cG_ Q.1 Q.2.1 Q.2.2 (q8 X).1 Z) (fun ρ X V Z=>Z 6 (Shape.inj whole_Int_Text.c16s (X.1,X.2.1,V.1,X.2.2.2.1,V.2.1,(q4 X).2.1,(q4 X).2.2.1,V.2.2,(q8 X))))
def whole_Int_Text.cc_ (out:List (Int))(t14:List (Int))(Z:((List Int)×(List Int))⊕((List Int)×(List Int))→Option ρ):Option ρ:=
  br (decide ((t14.length:Int)>0))
   (bnd (iter (fun s↦whole_Int_Text.ci_ s.1 s.2.1 s.2.2 some) ((0:Int),i64.wrap ((t14.length:Int)-1),t14)) fun y=>
    bnd (whole_Int_Text.cS_ y.2.2 some) fun y1=>
    bnd (iter (fun s↦whole_Int_Text.cG_ s.1 s.2.1 s.2.2 y1 some) (y.1,(0:Int),out)) fun y2=>
    Z (.inl (y2.2.2,y1)))
   (Z (.inr (out,t14)))
def whole_Int_Text.cc_s:Shape:=⟨[(0,ob11),(1,ob12),(2,ob13),(3,ob14),(4,ob15)],[(1,ob4),(3,ob10),(14,ob8)]⟩
def whole_Int_Text.cc_r:Ck:=Ck.ofLoop (S:=(List Int)×(List Int)) (T:=(List Int)×(List Int)) whole_Int_Text.cc_s (fun X=>((q4 X).1,(q4 X).2.1)) (fun ρ X Q Z=>whole_Int_Text.cc_ Q.1 Q.2 Z) (fun ρ X V Z=>Z 2 (Shape.inj whole_Int_Text.cc_s (X.1,X.2.1,X.2.2.1,X.2.2.2.1,V.1,V.2,())))
def whole_Int_Text.cT_ (a0:Bool)(out:List (Int))(Z:List (Int)→Option ρ):Option ρ:=
  br a0
   (bnd (okIf (decide ((out.length+1)*1≤140737488355328)&&decide (out.length+1≤140737488355328))) fun y=>
    Z (out++[(45:Int)]))
   (Z out)
def whole_Int_Text.cT_r:Ck:=Ck.of (T:=List (Int)) whole_Int_Text.cc_s (fun ρ X Z=>whole_Int_Text.cT_ X.2.2.1 (q4 X).1 Z) (fun ρ X V Z=>Z 0 (Shape.inj whole_Int_Text.cc_s (X.1,X.2.1,X.2.2.1,X.2.2.2.1,V,(q4 X).2)))
def whole_Int_Text (a:Bool×(List Int)):Option (List UInt8):=
  br ((↑(List.length a.2):Int)==0)
   (some (Array.toList (ByteArray.data (ByteArray.mk #[48]))))
   (bnd (Ji a.2) fun y=>
    bnd (iter (fun s↦whole_Int_Text.cc_ s.1 s.2 some) ([],y.1)) fun y1=>
    bnd (whole_Int_Text.cT_ a.1 y1.1 some) fun y2=>
    bnd (jm y2) fun y3=>
    some (List.map (fun n↦UInt8.ofNat (Int.toNat n)) y3.1))
def whole_Int_Text.ce:Go.Ql.Callee:=⟨[(.st (.pair .bool (.sl (.int .u32))))],[.str],fun X=>whole_Int_Text X⟩
def whole_Int_Text.G:Env:=⟨84,tab,[],[0,1,2,3,4,5,6,7,11,17,22,47,63,76],[3,14],[],[(281925,whole_Int_Text.cT_r),(100005,whole_Int_Text.cc_r),(100016,whole_Int_Text.cG_r),(16,whole_Int_Text.c16r),(253253,whole_Int_Text.cS_r),(100008,whole_Int_Text.ci_r)],[(69,Ji.mc),(70,jm.mc)],jE,[]⟩
theorem whole_Int_Text.p0:PcA whole_Int_Text.G Tryz.f39 0:=
  Ja (s:=whole_Int_Text.cc_r) (by kernel_rfl) (by kernel_rfl) (jU (sh:=whole_Int_Text.cc_s) (I:=fun X Q=>(X.1,X.2.1,X.2.2.1,X.2.2.2.1,Q.1,Q.2,())) (fun X=>rfl) (fun ρ X Q Z=>(jl (jb fun _=>(jb fun _=>(jb fun _=>jc))) jc)) (fun ρ X t k=>(by kernel_rfl)) (fun X s=>by kernel_rfl))
theorem whole_Int_Text.p1:PcA whole_Int_Text.G Tryz.f39 1:=
  Ja (s:=whole_Int_Text.ci_r) (by kernel_rfl) (by kernel_rfl) (jU (sh:=whole_Int_Text.ci_s) (I:=fun X Q=>(X.1,X.2.1,Q.1,Q.2.1,(q4 X).1,(q4 X).2.1,(q4 X).2.2.1,Q.2.2,())) (fun X=>rfl) (fun ρ X Q Z=>(jl (jb fun _=>(jb fun _=>(jb fun _=>(jb fun _=>jc)))) jc)) (fun ρ X t k=>(by kernel_rfl)) (fun X s=>by kernel_rfl))
theorem whole_Int_Text.p2:PcA whole_Int_Text.G Tryz.f39 2:=
  Jo (s:=whole_Int_Text.cS_r) (by kernel_rfl) (by kernel_rfl) (jp (sh:=whole_Int_Text.ci_s) (fun ρ X Z=>(jb fun _=>(jb fun _=>(jl (jb fun _=>jc) jc)))) (fun ρ X t k=>(by kernel_rfl)) (fun X=>by kernel_rfl))
theorem whole_Int_Text.p3:PcA whole_Int_Text.G Tryz.f39 3:=
  Ja (s:=whole_Int_Text.cG_r) (by kernel_rfl) (by kernel_rfl) (jU (sh:=whole_Int_Text.c16s) (I:=fun X Q=>(X.1,X.2.1,Q.1,X.2.2.2.1,Q.2.1,(q4 X).2.1,(q4 X).2.2.1,Q.2.2,(q8 X))) (fun X=>rfl) (fun ρ X Q Z=>(jb fun _=>(jl (jb fun _=>jc) jc))) (fun ρ X t k=>(by kernel_rfl)) (fun X s=>by kernel_rfl))
theorem whole_Int_Text.p4:PcA whole_Int_Text.G Tryz.f39 4:=
  jv (s:=whole_Int_Text.c16r) (by kernel_rfl) (by kernel_rfl) (jp (sh:=whole_Int_Text.c16s) (fun ρ X Z=>(jl (jl jc jc) jc)) (fun ρ X t k=>(by kernel_rfl)) (fun X=>by kernel_rfl))
theorem whole_Int_Text.p5:PcA whole_Int_Text.G Tryz.f39 5:=
  Jo (s:=whole_Int_Text.cT_r) (by kernel_rfl) (by kernel_rfl) (jp (sh:=whole_Int_Text.cc_s) (fun ρ X Z=>(jl (jb fun _=>jc) jc)) (fun ρ X t k=>(by kernel_rfl)) (fun X=>by kernel_rfl))
theorem whole_Int_Text.ok:CalleeOk Tryz.prog 39 whole_Int_Text.ce:=fn_ok (G:=whole_Int_Text.G) jM mixed Tryz.func39 ⟨jF,(Yy Ji.ok (Yy jm.ok jA)),jo,jz⟩ (m:=6) (by kernel_rfl) ⟨⟨⟨⟨⟨⟨trivial,whole_Int_Text.p0⟩,whole_Int_Text.p1⟩,whole_Int_Text.p2⟩,whole_Int_Text.p3⟩,whole_Int_Text.p4⟩,whole_Int_Text.p5⟩ (by kernel_rfl) (fun _=>by kernel_rfl)
abbrev ob16:SD:=.one (.val (.st (.pair (.ar 8 (.st (.pair .bool (.sl (.int .u32))))) (.int .i64))))
abbrev ob17:SD:=.one (.fptr (.st (.pair (.ar 8 (.st (.pair .bool (.sl (.int .u32))))) (.int .i64))))
abbrev ob18:SD:=.one (.val (.ar 8 (.st (.pair .bool (.sl (.int .u32))))))
abbrev ob19:SD:=.one (.own 6 0)
abbrev ob20:SD:=.one (.val (.sl (.st (.pair .bool (.sl (.int .u32))))))
abbrev ob21:SO:=.arr 0 false 9 .str
def jj.cp_ (last:Int)(t11:List (Bool×(List Int)))(t12:Int)(Z:Int→Option ρ):Option ρ:=
  bnd (idx t11 t12) fun y=>
  bnd (whole_Int_Sign (y.1,y.2)) fun y1=>
  br (y1 !=0)
   (Z t12)
   (Z last)
def jj.cp_s:Shape:=⟨[(0,ob16),(1,ob17),(2,ob13),(3,ob3),(11,ob18),(12,ob3)],[]⟩
def jj.cp_r:Ck:=Ck.of (T:=Int) jj.cp_s (fun ρ X Z=>jj.cp_ X.2.2.2.1 (q4 X).1 (q4 X).2.1 Z) (fun ρ X V Z=>Z 0 (Shape.inj jj.cp_s (X.1,X.2.1,X.2.2.1,V,(q4 X))))
def jj.cd_ (last:Int)(t11:List (Bool×(List Int)))(t12:Int)(Z:((Int)×(Int))⊕((Int)×(Int))→Option ρ):Option ρ:=
  br (decide (t12<8))
   (bnd (jj.cp_ last t11 t12 some) fun y=>
    Z (.inl (y,(i64.wrap (t12+1)))))
   (Z (.inr (last,t12)))
def jj.cd_r:Ck:=Ck.ofLoop (S:=(Int)×(Int)) (T:=(Int)×(Int)) jj.cp_s (fun X=>(X.2.2.2.1,(q4 X).2.1)) (fun ρ X Q Z=>jj.cd_ Q.1 (q4 X).1 Q.2 Z) (fun ρ X V Z=>Z 2 (Shape.inj jj.cp_s (X.1,X.2.1,X.2.2.1,V.1,(q4 X).1,V.2,())))
def jj.ck_ (t24:List (Bool×(List Int)))(t25:Int)(t26:Int)(parts:List (List UInt8))(Z:((Int)×(List (List UInt8)))⊕((Int)×(List (List UInt8)))→Option ρ):Option ρ:=
  br (decide (t26<t25))
   (bnd (idx t24 t26) fun y=>
    bnd (whole_Int_Text (y.1,y.2)) fun y1=>
    bnd (okIf (decide ((parts.length+1)*16≤140737488355328)&&decide (parts.length+1≤140737488355328))) fun y2=>
    Z (.inl ((i64.wrap (t26+1)),(parts++[y1]))))
   (Z (.inr (t26,parts)))
def jj.ck_s:Shape:=⟨[(0,ob16),(1,ob17),(2,ob13),(3,ob3),(6,ob19),(11,ob18),(12,ob3),(24,ob20),(25,ob3),(26,ob3)],[(6,ob21)]⟩
def jj.ck_r:Ck:=Ck.ofLoop (S:=(Int)×(List (List UInt8))) (T:=(Int)×(List (List UInt8))) jj.ck_s (fun X=>((q8 X).1,(q8 X).2.1)) (fun ρ X Q Z=>jj.ck_ (q4 X).2.2.1 (q4 X).2.2.2.1 Q.1 Q.2 Z) (fun ρ X V Z=>Z 4 (Shape.inj jj.ck_s (X.1,X.2.1,X.2.2.1,X.2.2.2.1,(q4 X).1,(q4 X).2.1,(q4 X).2.2.1,(q4 X).2.2.2.1,V.1,V.2,())))
def jj.cu_ (a_1:(List (Bool×(List Int)))×(Int))(text:List UInt8)(Z:List UInt8→Option ρ):Option ρ:=
  br (decide (a_1.2>0))
   (bnd (strconv_Itoa a_1.2) fun y=>
    bnd (okIf (decide (List.length (Array.toList (ByteArray.data (ByteArray.mk #[47])))+y.length≤9223372036854775807))) fun y1=>
    bnd (okIf (decide (text.length+List.length (Array.toList (ByteArray.data (ByteArray.mk #[47]))++y)≤9223372036854775807))) fun y2=>
    Z (text++(Array.toList (ByteArray.data (ByteArray.mk #[47]))++y)))
   (Z text)
def jj.cu_s:Shape:=⟨[(0,ob16),(1,ob17),(2,ob13),(3,ob3),(6,ob19),(9,ob13),(11,ob18),(12,ob3),(24,ob20),(25,ob3),(26,ob3)],[(6,ob21)]⟩
def jj.cu_r:Ck:=Ck.of (T:=List UInt8) jj.cu_s (fun ρ X Z=>jj.cu_ X.2.1 (q4 X).1 Z) (fun ρ X V Z=>Z 0 (Shape.inj jj.cu_s (X.1,X.2.1,X.2.2.1,X.2.2.2.1,V,(q4 X).2)))
def jj (a:(List (Bool×(List Int)))×(Int)):Option (List UInt8):=
  bnd (iter (fun s↦jj.cd_ s.1 a.1 s.2 some) ((0:Int),(0:Int))) fun y=>
  bnd (okIf (decide ((0:Int)≤i64.wrap (y.1+1))&&decide (i64.wrap (y.1+1)≤(↑(8:Nat):Int)))) fun y1=>
  bnd (iter (fun s↦jj.ck_ (List.take (Int.toNat (i64.wrap (y.1+1))) a.1) (↑(List.length (List.take (Int.toNat (i64.wrap (y.1+1))) a.1)):Int) s.1 s.2 some) ((0:Int),[])) fun y2=>
  bnd (strings_Join y2.2 (Array.toList (ByteArray.data (ByteArray.mk #[44])))) fun y3=>
  bnd (jj.cu_ a y3 some) fun y4=>
  some y4
def jj.ce:Go.Ql.Callee:=⟨[(.st (.pair (.ar 8 (.st (.pair .bool (.sl (.int .u32))))) (.int .i64)))],[.str],fun X=>jj X⟩
def jj.G:Env:=⟨48,tab,[(38,whole_Int_Sign.ce),(39,whole_Int_Text.ce),(40,strings_Join.ce),(41,strconv_Itoa.ce)],[0,1,2,3,4,5,6,8,9,11,12,13,18,24,25,26,27,40],[6,8000001],[],[(261445,jj.cu_r),(100010,jj.ck_r),(100003,jj.cd_r),(216392,jj.cp_r)],[],jE,[]⟩
theorem jj.p0:PcA jj.G Tryz.f7 0:=
  Ja (s:=jj.cd_r) (by kernel_rfl) (by kernel_rfl) (jU (sh:=jj.cp_s) (I:=fun X Q=>(X.1,X.2.1,X.2.2.1,Q.1,(q4 X).1,Q.2,())) (fun X=>rfl) (fun ρ X Q Z=>(jl (jb fun _=>jc) jc)) (fun ρ X t k=>(by kernel_rfl)) (fun X s=>by kernel_rfl))
theorem jj.p1:PcA jj.G Tryz.f7 1:=
  Jo (s:=jj.cp_r) (by kernel_rfl) (by kernel_rfl) (jp (sh:=jj.cp_s) (fun ρ X Z=>(jb fun _=>(jb fun _=>(jl jc jc)))) (fun ρ X t k=>(by kernel_rfl)) (fun X=>by kernel_rfl))
theorem jj.p2:PcA jj.G Tryz.f7 2:=
  Ja (s:=jj.ck_r) (by kernel_rfl) (by kernel_rfl) (jU (sh:=jj.ck_s) (I:=fun X Q=>(X.1,X.2.1,X.2.2.1,X.2.2.2.1,(q4 X).1,(q4 X).2.1,(q4 X).2.2.1,(q4 X).2.2.2.1,Q.1,Q.2,())) (fun X=>rfl) (fun ρ X Q Z=>(jl (jb fun _=>(jb fun _=>(jb fun _=>jc))) jc)) (fun ρ X t k=>(by kernel_rfl)) (fun X s=>by kernel_rfl))
theorem jj.p3:PcA jj.G Tryz.f7 3:=
  Jo (s:=jj.cu_r) (by kernel_rfl) (by kernel_rfl) (jp (sh:=jj.cu_s) (fun ρ X Z=>(jl (jb fun _=>(jb fun _=>(jb fun _=>jc))) jc)) (fun ρ X t k=>(by kernel_rfl)) (fun X=>by kernel_rfl))
theorem jj.ok:CalleeOk Tryz.prog 7 jj.ce:=fn_ok (G:=jj.G) jM mixed Tryz.func7 ⟨(jh whole_Int_Sign.ok (jh whole_Int_Text.ok (jh strings_Join.ok (jh strconv_Itoa.ok jF)))),jA,jo,jz⟩ (m:=4) (by kernel_rfl) ⟨⟨⟨⟨trivial,jj.p0⟩,jj.p1⟩,jj.p2⟩,jj.p3⟩ (by kernel_rfl) (fun _=>by kernel_rfl)
def JM  : Option Bool:=
  bnd kY fun y=>
  bnd (jj y) fun y1=>
  some (y1==Array.toList (ByteArray.data (ByteArray.mk #[48,44,48,44,49,44,48,44,48,44,48,44,45,49,47,49])))
def JM.ce:Go.Ql.Callee:=⟨[],[.bool],fun X=>JM⟩
def JM.G:Env:=⟨4,tab,[(37,kY.ce),(7,jj.ce)],[0],[],[],[],[],jE,[]⟩
theorem JM.ok:CalleeOk Tryz.prog 6 JM.ce:=fn_ok (G:=JM.G) jM mixed Tryz.func6 ⟨(jh kY.ok (jh jj.ok jF)),jA,jo,jz⟩ (m:=0) (by kernel_rfl) trivial (by kernel_rfl) (fun _=>by kernel_rfl)
def jN.c2 (text:List UInt8)(sign:Bool)(Z:Bool→Option ρ):Option ρ:=
  br sign
   (br (decide ((text.length:Int)>0))
     (bnd (idx text (0:Int)) fun y=>
      Z ((↑(UInt8.toNat y):Int)==45))
     (Z false))
   (Z false)
def jN.c2s:Shape:=⟨[(0,ob13),(1,ob0),(2,ob0),(6,ob3),(7,ob0),(8,ob3)],[]⟩
def jN.c2x0:Shape:=⟨[(0,ob13),(1,ob0),(2,ob0),(6,ob3),(7,ob0),(8,ob3),(20,ob0)],[]⟩
def jN.c2r:Ck:=Ck.of (T:=Bool) jN.c2s (fun ρ X Z=>jN.c2 X.1 X.2.1 Z) (fun ρ X V Z=>Z 0 (Shape.inj jN.c2x0 (X.1,X.2.1,X.2.2.1,X.2.2.2.1,(q4 X).1,(q4 X).2.1,V,())))
def jN.cN_ (text:List UInt8)(sign:Bool)(nought:Bool)(i:Int)(Z:Bool×(Int)→Option ρ):Option ρ:=
  bnd (jN.c2 text sign some) fun y=>
  br y
   (Z (false,(1:Int)))
   (Z (nought,i))
def jN.cN_r:Ck:=Ck.of (T:=Bool×(Int)) jN.c2s (fun ρ X Z=>jN.cN_ X.1 X.2.1 X.2.2.1 (q4 X).2.1 Z) (fun ρ X V Z=>Z 0 (Shape.inj jN.c2s (X.1,X.2.1,V.1,X.2.2.2.1,(q4 X).1,V.2,())))
def jN.c5 (text:List UInt8)(i:Int)(Z:Bool→Option ρ):Option ρ:=
  br (decide (i<(text.length:Int)))
   (bnd (idx text i) fun y=>
    Z ((↑(UInt8.toNat y):Int)==48))
   (Z false)
def jN.c5x0:Shape:=⟨[(0,ob13),(1,ob0),(2,ob0),(6,ob3),(7,ob0),(8,ob3),(30,ob0)],[]⟩
def jN.c5r:Ck:=Ck.of (T:=Bool) jN.c2s (fun ρ X Z=>jN.c5 X.1 (q4 X).2.1 Z) (fun ρ X V Z=>Z 0 (Shape.inj jN.c5x0 (X.1,X.2.1,X.2.2.1,X.2.2.2.1,(q4 X).1,(q4 X).2.1,V,())))
def jN.c10 (text:List UInt8)(j:Int)(Z:Bool→Option ρ):Option ρ:=
  br (decide (j<(text.length:Int)))
   (bnd (idx text j) fun y=>
    br (decide ((↑(UInt8.toNat y):Int)≥48))
     (bnd (idx text j) fun y1=>
      Z (decide ((↑(UInt8.toNat y1):Int)≤57)))
     (Z false))
   (Z false)
def jN.c10s:Shape:=⟨[(0,ob13),(1,ob0),(2,ob0),(6,ob3),(7,ob0),(8,ob3),(9,ob3)],[]⟩
def jN.c10x0:Shape:=⟨[(0,ob13),(1,ob0),(2,ob0),(6,ob3),(7,ob0),(8,ob3),(9,ob3),(51,ob0)],[]⟩
def jN.c10r:Ck:=Ck.of (T:=Bool) jN.c10s (fun ρ X Z=>jN.c10 X.1 (q4 X).2.2.1 Z) (fun ρ X V Z=>Z 0 (Shape.inj jN.c10x0 (X.1,X.2.1,X.2.2.1,X.2.2.2.1,(q4 X).1,(q4 X).2.1,(q4 X).2.2.1,V,())))
def jN.ck_ (text:List UInt8)(j:Int)(Z:(Int)⊕(Int)→Option ρ):Option ρ:=
  bnd (jN.c10 text j some) fun y=>
  br y
   (Z (.inl (i64.wrap (j+1))))
   (Z (.inr j))
def jN.ck_r:Ck:=Ck.ofLoop (S:=Int) (T:=Int) jN.c10s (fun X=>(q4 X).2.2.1) (fun ρ X Q Z=>jN.ck_ X.1 Q Z) (fun ρ X V Z=>Z 2 (Shape.inj jN.c10s (X.1,X.2.1,X.2.2.1,X.2.2.2.1,(q4 X).1,(q4 X).2.1,V,())))
def jN (text:List UInt8) (sign:Bool) (nought:Bool):Option ((Int)×Bool):=
  bnd (jN.cN_ text sign nought (0:Int) some) fun y=>
  bnd (jN.c5 text y.2 some) fun y1=>
  br y1
   (br y.1
     (some (i64.wrap (y.2+1),true))
     (some (y.2,false)))
   (bnd (iter (fun s↦jN.ck_ text s some) y.2) fun y2=>
    some (y2,decide (y2>y.2)))
def jN.ce:Go.Ql.Callee:=⟨[.str,.bool,.bool],[(.int .i64),.bool],fun X=>jN X.1 X.2.1 X.2.2⟩
def jN.G:Env:=⟨58,tab,[],[0,1,2,6,7,8,9,20,30,31,51],[],[],[(100010,jN.ck_r),(10,jN.c10r),(5,jN.c5r),(208199,jN.cN_r),(2,jN.c2r)],[],jE,[]⟩
theorem jN.p0:PcA jN.G Tryz.f30 0:=
  Jo (s:=jN.cN_r) (by kernel_rfl) (by kernel_rfl) (jp (sh:=jN.c2s) (fun ρ X Z=>(jb fun _=>(jl jc jc))) (fun ρ X t k=>(by kernel_rfl)) (fun X=>by kernel_rfl))
theorem jN.p1:PcA jN.G Tryz.f30 1:=
  jv (s:=jN.c2r) (by kernel_rfl) (by kernel_rfl) (jp (sh:=jN.c2s) (fun ρ X Z=>(jl (jl (jb fun _=>jc) jc) jc)) (fun ρ X t k=>(by kernel_rfl)) (fun X=>by kernel_rfl))
theorem jN.p2:PcA jN.G Tryz.f30 2:=
  jv (s:=jN.c5r) (by kernel_rfl) (by kernel_rfl) (jp (sh:=jN.c2s) (fun ρ X Z=>(jl (jb fun _=>jc) jc)) (fun ρ X t k=>(by kernel_rfl)) (fun X=>by kernel_rfl))
theorem jN.p3:PcA jN.G Tryz.f30 3:=
  Ja (s:=jN.ck_r) (by kernel_rfl) (by kernel_rfl) (jU (sh:=jN.c10s) (I:=fun X Q=>(X.1,X.2.1,X.2.2.1,X.2.2.2.1,(q4 X).1,(q4 X).2.1,Q,())) (fun X=>rfl) (fun ρ X Q Z=>(jb fun _=>(jl jc jc))) (fun ρ X t k=>(by kernel_rfl)) (fun X s=>by kernel_rfl))
theorem jN.p4:PcA jN.G Tryz.f30 4:=
  jv (s:=jN.c10r) (by kernel_rfl) (by kernel_rfl) (jp (sh:=jN.c10s) (fun ρ X Z=>(jl (jb fun _=>(jl (jb fun _=>jc) jc)) jc)) (fun ρ X t k=>(by kernel_rfl)) (fun X=>by kernel_rfl))
theorem jN.ok:CalleeOk Tryz.prog 30 jN.ce:=fn_ok (G:=jN.G) jM mixed Tryz.func30 ⟨jF,jA,jo,jz⟩ (m:=5) (by kernel_rfl) ⟨⟨⟨⟨⟨trivial,jN.p0⟩,jN.p1⟩,jN.p2⟩,jN.p3⟩,jN.p4⟩ (by kernel_rfl) (fun _=>by kernel_rfl)
def Jv.c1 (text:List UInt8)(Z:Bool→Option ρ):Option ρ:=
  br (decide ((text.length:Int)>0))
   (bnd (idx text (0:Int)) fun y=>
    Z ((↑(UInt8.toNat y):Int)==45))
   (Z false)
def Jv.c1s:Shape:=⟨[(0,ob13),(2,ob3)],[]⟩
def Jv.c1x0:Shape:=⟨[(0,ob13),(2,ob3),(10,ob0)],[]⟩
def Jv.c1r:Ck:=Ck.of (T:=Bool) Jv.c1s (fun ρ X Z=>Jv.c1 X.1 Z) (fun ρ X V Z=>Z 0 (Shape.inj Jv.c1x0 (X.1,X.2.1,V,())))
def Jv (text:List UInt8):Option (Int):=
  bnd (Jv.c1 text some) fun y=>
  br y
   (some (i64.wrap ((text.length:Int)-1)))
   (some (text.length:Int))
def Jv.ce:Go.Ql.Callee:=⟨[.str],[(.int .i64)],fun X=>Jv X⟩
def Jv.G:Env:=⟨16,tab,[],[0,2,10],[],[],[(1,Jv.c1r)],[],jE,[]⟩
theorem Jv.p0:PcA Jv.G Tryz.f31 0:=
  jv (s:=Jv.c1r) (by kernel_rfl) (by kernel_rfl) (jp (sh:=Jv.c1s) (fun ρ X Z=>(jl (jb fun _=>jc) jc)) (fun ρ X t k=>(by kernel_rfl)) (fun X=>by kernel_rfl))
theorem Jv.ok:CalleeOk Tryz.prog 31 Jv.ce:=fn_ok (G:=Jv.G) jM mixed Tryz.func31 ⟨jF,jA,jo,jz⟩ (m:=1) (by kernel_rfl) ⟨trivial,Jv.p0⟩ (by kernel_rfl) (fun _=>by kernel_rfl)
abbrev ob22:SD:=.one (.val (.sl (.int .i64)))
abbrev ob23:SO:=.box [.val .bool,.val (.sl (.int .i64))]
def jS.c2 (d:List (Int))(n:Int)(Z:Bool→Option ρ):Option ρ:=
  br (decide (n>0))
   (bnd (idx d (i64.wrap (n-1))) fun y=>
    Z (y==0))
   (Z false)
def jS.c2s:Shape:=⟨[(0,ob0),(1,ob22),(4,ob2),(5,ob3)],[(4,ob23)]⟩
def jS.c2x0:Shape:=⟨[(0,ob0),(1,ob22),(4,ob2),(5,ob3),(17,ob0)],[(4,ob23)]⟩
def jS.c2r:Ck:=Ck.of (T:=Bool) jS.c2s (fun ρ X Z=>jS.c2 X.2.1 X.2.2.1 Z) (fun ρ X V Z=>Z 0 (Shape.inj jS.c2x0 (X.1,X.2.1,X.2.2.1,V,X.2.2.2)))
def jS.ca_ (d:List (Int))(n:Int)(Z:(Int)⊕(Int)→Option ρ):Option ρ:=
  bnd (jS.c2 d n some) fun y=>
  br y
   (Z (.inl (i64.wrap (n-1))))
   (Z (.inr n))
def jS.ca_r:Ck:=Ck.ofLoop (S:=Int) (T:=Int) jS.c2s (fun X=>X.2.2.1) (fun ρ X Q Z=>jS.ca_ X.2.1 Q Z) (fun ρ X V Z=>Z 2 (Shape.inj jS.c2s (X.1,X.2.1,V,X.2.2.2)))
def jS (neg:Bool) (d:List (Int)):Option (Bool×(List Int)):=
  bnd (iter (fun s↦jS.ca_ d s some) ↑(d.length)) fun y=>
  br (y==0)
   (some (false,[]))
   (bnd (okIf (decide ((0:Int)≤y)&&decide (y≤(d.length:Int)))) fun y1=>
    some (neg,List.take (Int.toNat y) d))
def jS.ce:Go.Ql.Callee:=⟨[.bool,(.sl (.int .i64))],[(.st (.pair .bool (.sl (.int .i64))))],fun X=>jS X.1 X.2⟩
def jS.G:Env:=⟨28,tab,[],[0,1,4,5,17,21],[],[],[(100002,jS.ca_r),(2,jS.c2r)],[],jE,[]⟩
theorem jS.p0:PcA jS.G Tryz.f64 0:=
  Ja (s:=jS.ca_r) (by kernel_rfl) (by kernel_rfl) (jU (sh:=jS.c2s) (I:=fun X Q=>(X.1,X.2.1,Q,X.2.2.2)) (fun X=>rfl) (fun ρ X Q Z=>(jb fun _=>(jl jc jc))) (fun ρ X t k=>(by kernel_rfl)) (fun X s=>by kernel_rfl))
theorem jS.p1:PcA jS.G Tryz.f64 1:=
  jv (s:=jS.c2r) (by kernel_rfl) (by kernel_rfl) (jp (sh:=jS.c2s) (fun ρ X Z=>(jl (jb fun _=>jc) jc)) (fun ρ X t k=>(by kernel_rfl)) (fun X=>by kernel_rfl))
theorem jS.ok:CalleeOk Tryz.prog 64 jS.ce:=fn_ok (G:=jS.G) jM mixed Tryz.func64 ⟨jF,jA,jo,jz⟩ (m:=2) (by kernel_rfl) ⟨⟨trivial,jS.p0⟩,jS.p1⟩ (by kernel_rfl) (fun _=>by kernel_rfl)
abbrev ob24:SD:=.one (.own 4 0)
abbrev ob25:SO:=.arr 0 false 3 (.int .i64)
def ju.c1 (text:List UInt8)(Z:Bool→Option ρ):Option ρ:=
  br (decide ((text.length:Int)>0))
   (bnd (idx text (0:Int)) fun y=>
    Z ((↑(UInt8.toNat y):Int)==45))
   (Z false)
def ju.c1s:Shape:=⟨[(0,ob13),(2,ob5)],[(2,ob23)]⟩
def ju.c1x0:Shape:=⟨[(0,ob13),(2,ob5),(3,ob0)],[(2,ob23)]⟩
def ju.c1r:Ck:=Ck.of (T:=Bool) ju.c1s (fun ρ X Z=>ju.c1 X.1 Z) (fun ρ X V Z=>Z 0 (Shape.inj ju.c1x0 (X.1,V,X.2)))
def ju.cg_ (text:List UInt8)(neg:Bool)(Z:List UInt8→Option ρ):Option ρ:=
  br neg
   (bnd (okIf (decide ((1:Int)≤(text.length:Int))&&decide ((text.length:Int)≤(text.length:Int)))) fun y=>
    Z (List.drop (1:Nat) (List.take (Int.toNat (text.length:Int)) text)))
   (Z text)
def ju.cg_r:Ck:=Ck.of (T:=List UInt8) ju.c1x0 (fun ρ X Z=>ju.cg_ X.1 X.2.1 Z) (fun ρ X V Z=>Z 0 (Shape.inj ju.c1x0 (V,X.2)))
def ju.cw_ (text:List UInt8)(n:Int)(j:Int)(Z:Int→Option ρ):Option ρ:=
  br (decide (j≥0))
   (bnd (idx text j) fun y=>
    Z (i64.wrap (i64.wrap (n*10)+i64.wrap (u8.wrap ((↑(UInt8.toNat y):Int)-48)))))
   (Z n)
def ju.cw_s:Shape:=⟨[(0,ob13),(2,ob5),(3,ob0),(4,ob24),(5,ob3),(6,ob3),(7,ob3)],[(2,ob23),(4,ob25)]⟩
def ju.cw_r:Ck:=Ck.of (T:=Int) ju.cw_s (fun ρ X Z=>ju.cw_ X.1 X.2.2.2.1 (q4 X).1 Z) (fun ρ X V Z=>Z 0 (Shape.inj ju.cw_s (X.1,X.2.1,X.2.2.1,V,(q4 X))))
def ju.ck_ (text:List UInt8)(i:Int)(n:Int)(j:Int)(Z:((Int)×(Int))⊕((Int)×(Int))→Option ρ):Option ρ:=
  br (decide (j<i))
   (bnd (ju.cw_ text n j some) fun y=>
    Z (.inl (y,(i64.wrap (j+1)))))
   (Z (.inr (n,j)))
def ju.ck_r:Ck:=Ck.ofLoop (S:=(Int)×(Int)) (T:=(Int)×(Int)) ju.cw_s (fun X=>(X.2.2.2.1,(q4 X).1)) (fun ρ X Q Z=>ju.ck_ X.1 X.2.2.1 Q.1 Q.2 Z) (fun ρ X V Z=>Z 4 (Shape.inj ju.cw_s (X.1,X.2.1,X.2.2.1,V.1,V.2,(q4 X).2)))
def ju.ch_ (text:List UInt8)(i:Int)(d:List (Int))(Z:((Int)×(List Int))⊕((Int)×(List Int))→Option ρ):Option ρ:=
  br (decide (i>0))
   (bnd (iter (fun s↦ju.ck_ text i s.1 s.2 some) ((0:Int),i64.wrap (i-4))) fun y=>
    bnd (okIf (decide ((d.length+1)*8≤140737488355328)&&decide (d.length+1≤140737488355328))) fun y1=>
    Z (.inl ((i64.wrap (i-4)),(d++[y.1]))))
   (Z (.inr (i,d)))
def ju.ch_s:Shape:=⟨[(0,ob13),(2,ob5),(3,ob0),(4,ob24),(5,ob3)],[(2,ob23),(4,ob25)]⟩
def ju.ch_r:Ck:=Ck.ofLoop (S:=(Int)×(List Int)) (T:=(Int)×(List Int)) ju.ch_s (fun X=>(X.2.2.1,(q4 X).2.1)) (fun ρ X Q Z=>ju.ch_ X.1 Q.1 Q.2 Z) (fun ρ X V Z=>Z 2 (Shape.inj ju.ch_s (X.1,X.2.1,V.1,X.2.2.2.1,(q4 X).1,V.2,())))
def ju (text:List UInt8):Option (Bool×(List Int)):=
  bnd (ju.c1 text some) fun y=>
  bnd (ju.cg_ text y some) fun y1=>
  bnd (iter (fun s↦ju.ch_ y1 s.1 s.2 some) ((y1.length:Int),[])) fun y2=>
  bnd (jS y y2.2) fun y3=>
  some (y3.1,y3.2)
def ju.ce:Go.Ql.Callee:=⟨[.str],[(.st (.pair .bool (.sl (.int .i64))))],fun X=>ju X⟩
def ju.G:Env:=⟨49,tab,[(64,jS.ce)],[0,2,3,4,5,6,7,16,22,29,33],[4],[],[(100006,ju.ch_r),(100010,ju.ck_r),(249158,ju.cw_r),(208197,ju.cg_r),(1,ju.c1r)],[],jE,[]⟩
theorem ju.p0:PcA ju.G Tryz.f32 0:=
  jv (s:=ju.c1r) (by kernel_rfl) (by kernel_rfl) (jp (sh:=ju.c1s) (fun ρ X Z=>(jl (jb fun _=>jc) jc)) (fun ρ X t k=>(by kernel_rfl)) (fun X=>by kernel_rfl))
theorem ju.p1:PcA ju.G Tryz.f32 1:=
  Jo (s:=ju.cg_r) (by kernel_rfl) (by kernel_rfl) (jp (sh:=ju.c1x0) (fun ρ X Z=>(jl (jb fun _=>jc) jc)) (fun ρ X t k=>(by kernel_rfl)) (fun X=>by kernel_rfl))
theorem ju.p2:PcA ju.G Tryz.f32 2:=
  Ja (s:=ju.ch_r) (by kernel_rfl) (by kernel_rfl) (jU (sh:=ju.ch_s) (I:=fun X Q=>(X.1,X.2.1,Q.1,X.2.2.2.1,(q4 X).1,Q.2,())) (fun X=>rfl) (fun ρ X Q Z=>(jl (jb fun _=>(jb fun _=>jc)) jc)) (fun ρ X t k=>(by kernel_rfl)) (fun X s=>by kernel_rfl))
theorem ju.p3:PcA ju.G Tryz.f32 3:=
  Ja (s:=ju.ck_r) (by kernel_rfl) (by kernel_rfl) (jU (sh:=ju.cw_s) (I:=fun X Q=>(X.1,X.2.1,X.2.2.1,Q.1,Q.2,(q4 X).2)) (fun X=>rfl) (fun ρ X Q Z=>(jl (jb fun _=>jc) jc)) (fun ρ X t k=>(by kernel_rfl)) (fun X s=>by kernel_rfl))
theorem ju.p4:PcA ju.G Tryz.f32 4:=
  Jo (s:=ju.cw_r) (by kernel_rfl) (by kernel_rfl) (jp (sh:=ju.cw_s) (fun ρ X Z=>(jl (jb fun _=>jc) jc)) (fun ρ X t k=>(by kernel_rfl)) (fun X=>by kernel_rfl))
theorem ju.ok:CalleeOk Tryz.prog 32 ju.ce:=fn_ok (G:=ju.G) jM mixed Tryz.func32 ⟨(jh jS.ok jF),jA,jo,jz⟩ (m:=5) (by kernel_rfl) ⟨⟨⟨⟨⟨trivial,ju.p0⟩,ju.p1⟩,ju.p2⟩,ju.p3⟩,ju.p4⟩ (by kernel_rfl) (fun _=>by kernel_rfl)
def Jm.cg_ (n:Int)(u:Int)(Z:Int→Option ρ):Option ρ:=
  br (decide (n<0))
   (Z (u64.wrap ((0:Int)-u)))
   (Z u)
def Jm.cg_s:Shape:=⟨[(0,ob3),(2,ob5),(3,ob6)],[(2,ob23)]⟩
def Jm.cg_r:Ck:=Ck.of (T:=Int) Jm.cg_s (fun ρ X Z=>Jm.cg_ X.1 X.2.1 Z) (fun ρ X V Z=>Z 0 (Shape.inj Jm.cg_s (X.1,V,X.2.2)))
def Jm.cc_ (u:Int)(d:List (Int))(Z:((Int)×(List Int))⊕((Int)×(List Int))→Option ρ):Option ρ:=
  br (decide (u>0))
   (bnd (okIf (decide ((d.length+1)*8≤140737488355328)&&decide (d.length+1≤140737488355328))) fun y=>
    Z (.inl ((u64.wrap (Int.tdiv u (10000:Int))),(d++[i64.wrap (Int.tmod u (10000:Int))]))))
   (Z (.inr (u,d)))
def Jm.cc_s:Shape:=⟨[(0,ob3),(2,ob5),(3,ob6),(4,ob24)],[(2,ob23),(4,ob25)]⟩
def Jm.cc_r:Ck:=Ck.ofLoop (S:=(Int)×(List Int)) (T:=(Int)×(List Int)) Jm.cc_s (fun X=>(X.2.1,(q4 X).1)) (fun ρ X Q Z=>Jm.cc_ Q.1 Q.2 Z) (fun ρ X V Z=>Z 2 (Shape.inj Jm.cc_s (X.1,V.1,X.2.2.1,X.2.2.2.1,V.2,())))
def Jm (n:Int):Option (Bool×(List Int)):=
  bnd (Jm.cg_ n (IntKind.wrap IntKind.u64 n) some) fun y=>
  bnd (iter (fun s↦Jm.cc_ s.1 s.2 some) (y,[])) fun y1=>
  bnd (jS (decide (n<0)) y1.2) fun y2=>
  some (y2.1,y2.2)
def Jm.ce:Go.Ql.Callee:=⟨[(.int .i64)],[(.st (.pair .bool (.sl (.int .i64))))],fun X=>Jm X⟩
def Jm.G:Env:=⟨25,tab,[(64,jS.ce)],[0,2,3,4,8,12],[4],[],[(100005,Jm.cc_r),(208197,Jm.cg_r)],[],jE,[]⟩
theorem Jm.p0:PcA Jm.G Tryz.f34 0:=
  Jo (s:=Jm.cg_r) (by kernel_rfl) (by kernel_rfl) (jp (sh:=Jm.cg_s) (fun ρ X Z=>(jl jc jc)) (fun ρ X t k=>(by kernel_rfl)) (fun X=>by kernel_rfl))
theorem Jm.p1:PcA Jm.G Tryz.f34 1:=
  Ja (s:=Jm.cc_r) (by kernel_rfl) (by kernel_rfl) (jU (sh:=Jm.cc_s) (I:=fun X Q=>(X.1,Q.1,X.2.2.1,X.2.2.2.1,Q.2,())) (fun X=>rfl) (fun ρ X Q Z=>(jl (jb fun _=>jc) jc)) (fun ρ X t k=>(by kernel_rfl)) (fun X s=>by kernel_rfl))
theorem Jm.ok:CalleeOk Tryz.prog 34 Jm.ce:=fn_ok (G:=Jm.G) jM mixed Tryz.func34 ⟨(jh jS.ok jF),jA,jo,jz⟩ (m:=2) (by kernel_rfl) ⟨⟨trivial,Jm.p0⟩,Jm.p1⟩ (by kernel_rfl) (fun _=>by kernel_rfl)
def kl (a:Bool×(List Int)):Option (Bool×(List Int)):=
  bnd (jS (!a.1) a.2) fun y=>
  some (y.1,y.2)
def kl.ce:Go.Ql.Callee:=⟨[(.st (.pair .bool (.sl (.int .i64))))],[(.st (.pair .bool (.sl (.int .i64))))],fun X=>kl X⟩
def kl.G:Env:=⟨9,tab,[(64,jS.ce)],[0,1,2],[],[],[],[],jE,[]⟩
theorem kl.ok:CalleeOk Tryz.prog 53 kl.ce:=fn_ok (G:=kl.G) jM mixed Tryz.func53 ⟨(jh jS.ok jF),jA,jo,jz⟩ (m:=0) (by kernel_rfl) trivial (by kernel_rfl) (fun _=>by kernel_rfl)
abbrev ob26:SD:=.one (.own 5 0)
def jV.c4 (a:List (Int))(b:List (Int))(c:Int)(i:Int)(Z:Bool→Option ρ):Option ρ:=
  br (decide (i<(a.length:Int)))
   (Z true)
   (br (decide (i<(b.length:Int)))
     (Z true)
     (Z (decide (c>0))))
def jV.c4s:Shape:=⟨[(0,ob22),(1,ob22),(4,ob22),(5,ob26),(6,ob3),(7,ob3)],[(5,ob25)]⟩
def jV.c4x0:Shape:=⟨[(0,ob22),(1,ob22),(4,ob22),(5,ob26),(6,ob3),(7,ob3),(21,ob0)],[(5,ob25)]⟩
def jV.c4r:Ck:=Ck.of (T:=Bool) jV.c4s (fun ρ X Z=>jV.c4 X.1 X.2.1 X.2.2.2.1 (q4 X).1 Z) (fun ρ X V Z=>Z 0 (Shape.inj jV.c4x0 (X.1,X.2.1,X.2.2.1,X.2.2.2.1,(q4 X).1,V,(q4 X).2)))
def jV.co_ (a:List (Int))(c:Int)(i:Int)(Z:Int→Option ρ):Option ρ:=
  br (decide (i<(a.length:Int)))
   (bnd (idx a i) fun y=>
    Z (i64.wrap (c+y)))
   (Z c)
def jV.co_r:Ck:=Ck.of (T:=Int) jV.c4s (fun ρ X Z=>jV.co_ X.1 X.2.2.2.1 (q4 X).1 Z) (fun ρ X V Z=>Z 0 (Shape.inj jV.c4s (X.1,X.2.1,X.2.2.1,V,(q4 X))))
def jV.cj_ (b:List (Int))(c:Int)(i:Int)(Z:Int→Option ρ):Option ρ:=
  br (decide (i<(b.length:Int)))
   (bnd (idx b i) fun y=>
    Z (i64.wrap (c+y)))
   (Z c)
def jV.cj_r:Ck:=Ck.of (T:=Int) jV.c4s (fun ρ X Z=>jV.cj_ X.2.1 X.2.2.2.1 (q4 X).1 Z) (fun ρ X V Z=>Z 0 (Shape.inj jV.c4s (X.1,X.2.1,X.2.2.1,V,(q4 X))))
def jV.cb_ (a:List (Int))(b:List (Int))(c:Int)(i:Int)(out:List (Int))(Z:((Int)×(Int)×(List Int))⊕((Int)×(Int)×(List Int))→Option ρ):Option ρ:=
  bnd (jV.c4 a b c i some) fun y=>
  br y
   (bnd (jV.co_ a c i some) fun y1=>
    bnd (jV.cj_ b y1 i some) fun y2=>
    bnd (okIf (decide ((out.length+1)*8≤140737488355328)&&decide (out.length+1≤140737488355328))) fun y3=>
    Z (.inl ((i64.wrap (Int.tdiv y2 (10000:Int))),(i64.wrap (i+1)),(out++[Int.tmod y2 (10000:Int)]))))
   (Z (.inr (c,i,out)))
def jV.cb_r:Ck:=Ck.ofLoop (S:=(Int)×(Int)×(List Int)) (T:=(Int)×(Int)×(List Int)) jV.c4s (fun X=>(X.2.2.2.1,(q4 X).1,(q4 X).2.1)) (fun ρ X Q Z=>jV.cb_ X.1 X.2.1 Q.1 Q.2.1 Q.2.2 Z) (fun ρ X V Z=>Z 2 (Shape.inj jV.c4s (X.1,X.2.1,X.2.2.1,V.1,V.2.1,V.2.2,())))
def jV (a:List (Int)) (b:List (Int)):Option (List Int):=
  bnd (iter (fun s↦jV.cb_ a b s.1 s.2.1 s.2.2 some) ((0:Int),(0:Int),[])) fun y=>
  some y.2.2
def jV.ce:Go.Ql.Callee:=⟨[(.sl (.int .i64)),(.sl (.int .i64))],[(.sl (.int .i64))],fun X=>jV X.1 X.2⟩
def jV.G:Env:=⟨52,tab,[],[0,1,4,5,6,7,21,27,37],[5],[],[(100004,jV.cb_r),(232773,jV.cj_r),(224581,jV.co_r),(4,jV.c4r)],[],jE,[]⟩
theorem jV.p0:PcA jV.G Tryz.f111 0:=
  Ja (s:=jV.cb_r) (by kernel_rfl) (by kernel_rfl) (jU (sh:=jV.c4s) (I:=fun X Q=>(X.1,X.2.1,X.2.2.1,Q.1,Q.2.1,Q.2.2,())) (fun X=>rfl) (fun ρ X Q Z=>(jb fun _=>(jl (jb fun _=>(jb fun _=>(jb fun _=>jc))) jc))) (fun ρ X t k=>(by kernel_rfl)) (fun X s=>by kernel_rfl))
theorem jV.p1:PcA jV.G Tryz.f111 1:=
  jv (s:=jV.c4r) (by kernel_rfl) (by kernel_rfl) (jp (sh:=jV.c4s) (fun ρ X Z=>(jl jc (jl jc jc))) (fun ρ X t k=>(by kernel_rfl)) (fun X=>by kernel_rfl))
theorem jV.p2:PcA jV.G Tryz.f111 2:=
  Jo (s:=jV.co_r) (by kernel_rfl) (by kernel_rfl) (jp (sh:=jV.c4s) (fun ρ X Z=>(jl (jb fun _=>jc) jc)) (fun ρ X t k=>(by kernel_rfl)) (fun X=>by kernel_rfl))
theorem jV.p3:PcA jV.G Tryz.f111 3:=
  Jo (s:=jV.cj_r) (by kernel_rfl) (by kernel_rfl) (jp (sh:=jV.c4s) (fun ρ X Z=>(jl (jb fun _=>jc) jc)) (fun ρ X t k=>(by kernel_rfl)) (fun X=>by kernel_rfl))
theorem jV.ok:CalleeOk Tryz.prog 111 jV.ce:=fn_ok (G:=jV.G) jM mixed Tryz.func111 ⟨jF,jA,jo,jz⟩ (m:=4) (by kernel_rfl) ⟨⟨⟨⟨trivial,jV.p0⟩,jV.p1⟩,jV.p2⟩,jV.p3⟩ (by kernel_rfl) (fun _=>by kernel_rfl)
def Jb.c8 (a:List (Int))(b:List (Int))(i:Int)(Z:Bool→Option ρ):Option ρ:=
  bnd (idx a i) fun y=>
  bnd (idx b i) fun y1=>
  Z (decide (y<y1))
def Jb.c8s:Shape:=⟨[(0,ob22),(1,ob22),(4,ob3),(5,ob3)],[]⟩
def Jb.c8x0:Shape:=⟨[(0,ob22),(1,ob22),(4,ob3),(5,ob3),(31,ob0)],[]⟩
def Jb.c8r:Ck:=Ck.of (T:=Bool) Jb.c8s (fun ρ X Z=>Jb.c8 X.1 X.2.1 X.2.2.2.1 Z) (fun ρ X V Z=>Z 0 (Shape.inj Jb.c8x0 (X.1,X.2.1,X.2.2.1,X.2.2.2.1,V,())))
def Jb.c10 (a:List (Int))(b:List (Int))(i:Int)(Z:Bool→Option ρ):Option ρ:=
  bnd (idx a i) fun y=>
  bnd (idx b i) fun y1=>
  Z (decide (y>y1))
def Jb.c10x0:Shape:=⟨[(0,ob22),(1,ob22),(4,ob3),(5,ob3),(40,ob0)],[]⟩
def Jb.c10r:Ck:=Ck.of (T:=Bool) Jb.c8s (fun ρ X Z=>Jb.c10 X.1 X.2.1 X.2.2.2.1 Z) (fun ρ X V Z=>Z 0 (Shape.inj Jb.c10x0 (X.1,X.2.1,X.2.2.1,X.2.2.2.1,V,())))
def Jb.ch_ (a:List (Int))(b:List (Int))(i:Int)(Z:(Int)⊕(((Int)×(Int))⊕(Int))→Option ρ):Option ρ:=
  br (decide (i≥0))
   (bnd (Jb.c8 a b i some) fun y=>
    br y
     (Z (.inr (.inl ((-1:Int),i))))
     (bnd (Jb.c10 a b i some) fun y1=>
      br y1
       (Z (.inr (.inl ((1:Int),i))))
       (Z (.inl (i64.wrap (i-1))))))
   (Z (.inr (.inr i)))
def Jb.ch_r:Ck:=Ck.ofLoop (S:=Int) (T:=((Int)×(Int))⊕(Int)) Jb.c8s (fun X=>X.2.2.2.1) (fun ρ X Q Z=>Jb.ch_ X.1 X.2.1 Q Z) (fun ρ X V Z=>sel V (fun V=>Z 1 (Shape.inj Jb.c8s (X.1,X.2.1,V.1,V.2,()))) (fun V=>Z 2 (Shape.inj Jb.c8s (X.1,X.2.1,X.2.2.1,V,()))))
def Jb (a:List (Int)) (b:List (Int)):Option (Int):=
  br ((a.length:Int) !=(b.length:Int))
   (br (decide ((a.length:Int)<(b.length:Int)))
     (some (-1:Int))
     (some (1:Int)))
   (bnd (iter (fun s↦Jb.ch_ a b s some) (i64.wrap ((a.length:Int)-1))) fun y=>
    sel y
     (fun u=>some u.1)
     (fun v=>some (0:Int)))
def Jb.ce:Go.Ql.Callee:=⟨[(.sl (.int .i64)),(.sl (.int .i64))],[(.int .i64)],fun X=>Jb X.1 X.2⟩
def Jb.G:Env:=⟨41,tab,[],[0,1,4,5,10,15,20,31,40],[],[(10,[⟨[],[],[33,36,37,38,39],[]⟩,⟨[],[],[32,36,37,38,39],[]⟩,⟨[0,1],[],[36,37,38,39],[]⟩,⟨[2,0,1],[],[36,37,38,39],[]⟩,⟨[],[],[32,33,34,35,37],[]⟩,⟨[],[],[32,33,34,35,36],[]⟩,⟨[4,5],[],[32,33,34,35],[]⟩,⟨[6,4,5],[],[32,33,34,35],[]⟩,⟨[3,2,0,1,7,6,4,5],[],[],[]⟩]),
  (8,[⟨[],[],[24,27,28,29,30],[]⟩,⟨[],[],[23,27,28,29,30],[]⟩,⟨[0,1],[],[27,28,29,30],[]⟩,⟨[2,0,1],[],[27,28,29,30],[]⟩,⟨[],[],[23,24,25,26,28],[]⟩,⟨[],[],[23,24,25,26,27],[]⟩,⟨[4,5],[],[23,24,25,26],[]⟩,⟨[6,4,5],[],[23,24,25,26],[]⟩,⟨[3,2,0,1,7,6,4,5],[],[],[]⟩])],[(100006,Jb.ch_r),(10,Jb.c10r),(8,Jb.c8r)],[],jE,[]⟩
theorem Jb.p0:PcA Jb.G Tryz.f112 0:=
  Ja (s:=Jb.ch_r) (by kernel_rfl) (by kernel_rfl) (jU (sh:=Jb.c8s) (I:=fun X Q=>(X.1,X.2.1,X.2.2.1,Q,())) (fun X=>rfl) (fun ρ X Q Z=>(jl (jb fun _=>(jl jc (jb fun _=>(jl jc jc)))) jc)) (fun ρ X t k=>(kj (fun _=>(by kernel_rfl)) (fun _=>(by kernel_rfl)))) (fun X s=>by kernel_rfl))
theorem Jb.p1:PcA Jb.G Tryz.f112 1:=
  jv (s:=Jb.c8r) (by kernel_rfl) (by kernel_rfl) (jp (sh:=Jb.c8s) (fun ρ X Z=>(jb fun _=>(jb fun _=>jc))) (fun ρ X t k=>(by kernel_rfl)) (fun X=>by kernel_rfl))
theorem Jb.p2:PcA Jb.G Tryz.f112 2:=
  jv (s:=Jb.c10r) (by kernel_rfl) (by kernel_rfl) (jp (sh:=Jb.c8s) (fun ρ X Z=>(jb fun _=>(jb fun _=>jc))) (fun ρ X t k=>(by kernel_rfl)) (fun X=>by kernel_rfl))
theorem Jb.ok:CalleeOk Tryz.prog 112 Jb.ce:=fn_ok (G:=Jb.G) jM mixed Tryz.func112 ⟨jF,jA,jo,jz⟩ (m:=3) (by kernel_rfl) ⟨⟨⟨trivial,Jb.p0⟩,Jb.p1⟩,Jb.p2⟩ (by kernel_rfl) (fun _=>by kernel_rfl)
def Jj.cm_ (b:List (Int))(i:Int)(x:Int)(Z:Int→Option ρ):Option ρ:=
  br (decide (i<(b.length:Int)))
   (bnd (idx b i) fun y=>
    Z (i64.wrap (x-y)))
   (Z x)
def Jj.cm_s:Shape:=⟨[(0,ob22),(1,ob22),(4,ob22),(5,ob26),(6,ob3),(7,ob3),(8,ob3)],[(5,ob25)]⟩
def Jj.cm_r:Ck:=Ck.of (T:=Int) Jj.cm_s (fun ρ X Z=>Jj.cm_ X.2.1 (q4 X).1 (q4 X).2.1 Z) (fun ρ X V Z=>Z 0 (Shape.inj Jj.cm_s (X.1,X.2.1,X.2.2.1,X.2.2.2.1,(q4 X).1,V,(q4 X).2.2)))
def Jj.cQ_ (c:Int)(x:Int)(Z:(Int)×(Int)→Option ρ):Option ρ:=
  br (decide (x<0))
   (Z ((1:Int),(i64.wrap (x+10000))))
   (Z (c,x))
def Jj.cQ_r:Ck:=Ck.of (T:=(Int)×(Int)) Jj.cm_s (fun ρ X Z=>Jj.cQ_ X.2.2.2.1 (q4 X).2.1 Z) (fun ρ X V Z=>Z 0 (Shape.inj Jj.cm_s (X.1,X.2.1,X.2.2.1,V.1,(q4 X).1,V.2,(q4 X).2.2)))
def Jj.cb_ (a:List (Int))(b:List (Int))(c:Int)(i:Int)(out:List (Int))(Z:((Int)×(Int)×(List Int))⊕((Int)×(Int)×(List Int))→Option ρ):Option ρ:=
  br (decide (i<(a.length:Int)))
   (bnd (idx a i) fun y=>
    bnd (Jj.cm_ b i (i64.wrap (y-c)) some) fun y1=>
    bnd (Jj.cQ_ (0:Int) y1 some) fun y2=>
    bnd (okIf (decide ((out.length+1)*8≤140737488355328)&&decide (out.length+1≤140737488355328))) fun y3=>
    Z (.inl (y2.1,(i64.wrap (i+1)),(out++[y2.2]))))
   (Z (.inr (c,i,out)))
def Jj.cb_s:Shape:=⟨[(0,ob22),(1,ob22),(4,ob22),(5,ob26),(6,ob3),(7,ob3)],[(5,ob25)]⟩
def Jj.cb_r:Ck:=Ck.ofLoop (S:=(Int)×(Int)×(List Int)) (T:=(Int)×(Int)×(List Int)) Jj.cb_s (fun X=>(X.2.2.2.1,(q4 X).1,(q4 X).2.1)) (fun ρ X Q Z=>Jj.cb_ X.1 X.2.1 Q.1 Q.2.1 Q.2.2 Z) (fun ρ X V Z=>Z 2 (Shape.inj Jj.cb_s (X.1,X.2.1,X.2.2.1,V.1,V.2.1,V.2.2,())))
def Jj (a:List (Int)) (b:List (Int)):Option (List Int):=
  bnd (iter (fun s↦Jj.cb_ a b s.1 s.2.1 s.2.2 some) ((0:Int),(0:Int),[])) fun y=>
  some y.2.2
def Jj.ce:Go.Ql.Callee:=⟨[(.sl (.int .i64)),(.sl (.int .i64))],[(.sl (.int .i64))],fun X=>Jj X.1 X.2⟩
def Jj.G:Env:=⟨40,tab,[],[0,1,4,5,6,7,8,12,24,32],[5],[],[(100004,Jj.cb_r),(240967,Jj.cQ_r),(228677,Jj.cm_r)],[],jE,[]⟩
theorem Jj.p0:PcA Jj.G Tryz.f113 0:=
  Ja (s:=Jj.cb_r) (by kernel_rfl) (by kernel_rfl) (jU (sh:=Jj.cb_s) (I:=fun X Q=>(X.1,X.2.1,X.2.2.1,Q.1,Q.2.1,Q.2.2,())) (fun X=>rfl) (fun ρ X Q Z=>(jl (jb fun _=>(jb fun _=>(jb fun _=>(jb fun _=>jc)))) jc)) (fun ρ X t k=>(by kernel_rfl)) (fun X s=>by kernel_rfl))
theorem Jj.p1:PcA Jj.G Tryz.f113 1:=
  Jo (s:=Jj.cm_r) (by kernel_rfl) (by kernel_rfl) (jp (sh:=Jj.cm_s) (fun ρ X Z=>(jl (jb fun _=>jc) jc)) (fun ρ X t k=>(by kernel_rfl)) (fun X=>by kernel_rfl))
theorem Jj.p2:PcA Jj.G Tryz.f113 2:=
  Jo (s:=Jj.cQ_r) (by kernel_rfl) (by kernel_rfl) (jp (sh:=Jj.cm_s) (fun ρ X Z=>(jl jc jc)) (fun ρ X t k=>(by kernel_rfl)) (fun X=>by kernel_rfl))
theorem Jj.ok:CalleeOk Tryz.prog 113 Jj.ce:=fn_ok (G:=Jj.G) jM mixed Tryz.func113 ⟨jF,jA,jo,jz⟩ (m:=3) (by kernel_rfl) ⟨⟨⟨trivial,Jj.p0⟩,Jj.p1⟩,Jj.p2⟩ (by kernel_rfl) (fun _=>by kernel_rfl)
abbrev ob27:SD:=.one (.val (.st (.pair .bool (.sl (.int .i64)))))
abbrev ob28:SD:=.one (.ref 3 0)
def Jf.c6 (a0:Bool)(a1:List (Int))(b1:List (Int))(Z:Bool×(List Int)→Option ρ):Option ρ:=
  bnd (jV a1 b1) fun y=>
  bnd (jS a0 y) fun y1=>
  Z (y1.1,y1.2)
def Jf.c6s:Shape:=⟨[(0,ob27),(1,ob27),(2,ob5),(3,ob28),(4,ob2)],[(2,ob23),(3,ob23),(4,ob23)]⟩
def Jf.c6r:Ck:=Ck.of (T:=Bool×(List Int)) Jf.c6s (fun ρ X Z=>Jf.c6 X.2.2.1 X.2.2.2.1 (q4 X).2.1 Z) (fun ρ X V Z=>Z 0 (Shape.inj Jf.c6s (X.1,X.2.1,X.2.2.1,X.2.2.2.1,(q4 X).1,(q4 X).2.1,V.1,V.2,())))
def Jf.c8 (a0:Bool)(a1:List (Int))(b1:List (Int))(Z:Bool×(List Int)→Option ρ):Option ρ:=
  bnd (Jj a1 b1) fun y=>
  bnd (jS a0 y) fun y1=>
  Z (y1.1,y1.2)
def Jf.c8r:Ck:=Ck.of (T:=Bool×(List Int)) Jf.c6s (fun ρ X Z=>Jf.c8 X.2.2.1 X.2.2.2.1 (q4 X).2.1 Z) (fun ρ X V Z=>Z 0 (Shape.inj Jf.c6s (X.1,X.2.1,X.2.2.1,X.2.2.2.1,(q4 X).1,(q4 X).2.1,V.1,V.2,())))
def Jf.c9 (a1:List (Int))(b0:Bool)(b1:List (Int))(Z:Bool×(List Int)→Option ρ):Option ρ:=
  bnd (Jj b1 a1) fun y=>
  bnd (jS b0 y) fun y1=>
  Z (y1.1,y1.2)
def Jf.c9r:Ck:=Ck.of (T:=Bool×(List Int)) Jf.c6s (fun ρ X Z=>Jf.c9 X.2.2.2.1 (q4 X).1 (q4 X).2.1 Z) (fun ρ X V Z=>Z 0 (Shape.inj Jf.c6s (X.1,X.2.1,X.2.2.1,X.2.2.2.1,(q4 X).1,(q4 X).2.1,V.1,V.2,())))
def Jf (a:Bool×(List Int)) (b:Bool×(List Int)):Option (Bool×(List Int)):=
  br ((↑(List.length a.2):Int)==0)
   (some (b.1,b.2))
   (br ((↑(List.length b.2):Int)==0)
     (some (a.1,a.2))
     (br (a.1==b.1)
       (bnd (Jf.c6 a.1 a.2 b.2 some) fun y=>
        some (y.1,y.2))
       (bnd (Jb a.2 b.2) fun y1=>
        br (decide (y1≥0))
         (bnd (Jf.c8 a.1 a.2 b.2 some) fun y2=>
          some (y2.1,y2.2))
         (bnd (Jf.c9 a.2 b.1 b.2 some) fun y3=>
          some (y3.1,y3.2)))))
def Jf.ce:Go.Ql.Callee:=⟨[(.st (.pair .bool (.sl (.int .i64)))),(.st (.pair .bool (.sl (.int .i64))))],[(.st (.pair .bool (.sl (.int .i64))))],fun X=>Jf X.1 X.2⟩
def Jf.G:Env:=⟨50,tab,[(111,jV.ce),(64,jS.ce),(112,Jb.ce),(113,Jj.ce)],[0,1,2,3,4,8,13,19,33],[],[(9,[⟨[],[],[44,45,46,47,48],[]⟩,⟨[0],[],[44,45,46,47,48],[]⟩,⟨[],[],[42,43,46,47],[]⟩,⟨[2],[],[42,43,46,47],[]⟩,⟨[],[],[42,43,44,45],[]⟩,⟨[4],[],[42,43,44,45],[]⟩,⟨[3,2,5,4],[],[42,43],[]⟩,⟨[1,0,6,3,2,5,4],[],[],[]⟩,⟨[7,1,0,6,3,2,5,4],[4],[],[]⟩]),
  (8,[⟨[],[],[36,37,38,39,40],[]⟩,⟨[0],[],[36,37,38,39,40],[]⟩,⟨[],[],[34,35,38,39],[]⟩,⟨[2],[],[34,35,38,39],[]⟩,⟨[],[],[34,35,36,37],[]⟩,⟨[4],[],[34,35,36,37],[]⟩,⟨[3,2,5,4],[],[34,35],[]⟩,⟨[1,0,6,3,2,5,4],[],[],[]⟩,⟨[7,1,0,6,3,2,5,4],[4],[],[]⟩]),
  (6,[⟨[],[],[22,23,24,25,26],[]⟩,⟨[0],[],[22,23,24,25,26],[]⟩,⟨[],[],[20,21,24,25],[]⟩,⟨[2],[],[20,21,24,25],[]⟩,⟨[],[],[20,21,22,23],[]⟩,⟨[4],[],[20,21,22,23],[]⟩,⟨[3,2,5,4],[],[20,21],[]⟩,⟨[1,0,6,3,2,5,4],[],[],[]⟩,⟨[7,1,0,6,3,2,5,4],[4],[],[]⟩])],[(9,Jf.c9r),(8,Jf.c8r),(6,Jf.c6r)],[],jE,[]⟩
theorem Jf.p0:PcA Jf.G Tryz.f92 0:=
  jv (s:=Jf.c6r) (by kernel_rfl) (by kernel_rfl) (jp (sh:=Jf.c6s) (fun ρ X Z=>(jb fun _=>(jb fun _=>jc))) (fun ρ X t k=>(by kernel_rfl)) (fun X=>by kernel_rfl))
theorem Jf.p1:PcA Jf.G Tryz.f92 1:=
  jv (s:=Jf.c8r) (by kernel_rfl) (by kernel_rfl) (jp (sh:=Jf.c6s) (fun ρ X Z=>(jb fun _=>(jb fun _=>jc))) (fun ρ X t k=>(by kernel_rfl)) (fun X=>by kernel_rfl))
theorem Jf.p2:PcA Jf.G Tryz.f92 2:=
  jv (s:=Jf.c9r) (by kernel_rfl) (by kernel_rfl) (jp (sh:=Jf.c6s) (fun ρ X Z=>(jb fun _=>(jb fun _=>jc))) (fun ρ X t k=>(by kernel_rfl)) (fun X=>by kernel_rfl))
theorem Jf.ok:CalleeOk Tryz.prog 92 Jf.ce:=fn_ok (G:=Jf.G) jM mixed Tryz.func92 ⟨(jh jV.ok (jh jS.ok (jh Jb.ok (jh Jj.ok jF)))),jA,jo,jz⟩ (m:=3) (by kernel_rfl) ⟨⟨⟨trivial,Jf.p0⟩,Jf.p1⟩,Jf.p2⟩ (by kernel_rfl) (fun _=>by kernel_rfl)
def JQ.c1 (a0:Bool)(a1:List (Int))(b0:Bool)(b1:List (Int))(Z:Bool×(List Int)→Option ρ):Option ρ:=
  bnd (kl (b0,b1)) fun y=>
  bnd (Jf (a0,a1) y) fun y1=>
  Z (y1.1,y1.2)
def JQ.c1s:Shape:=⟨[(0,ob27),(1,ob27),(2,ob5),(3,ob28),(4,ob2)],[(2,ob23),(3,ob23),(4,ob23)]⟩
def JQ.c1r:Ck:=Ck.of (T:=Bool×(List Int)) JQ.c1s (fun ρ X Z=>JQ.c1 X.2.2.1 X.2.2.2.1 (q4 X).1 (q4 X).2.1 Z) (fun ρ X V Z=>Z 0 (Shape.inj JQ.c1s (X.1,X.2.1,X.2.2.1,X.2.2.2.1,(q4 X).1,(q4 X).2.1,V.1,V.2,())))
def JQ (a:Bool×(List Int)) (b:Bool×(List Int)):Option (Bool×(List Int)):=
  bnd (JQ.c1 a.1 a.2 b.1 b.2 some) fun y=>
  some (y.1,y.2)
def JQ.ce:Go.Ql.Callee:=⟨[(.st (.pair .bool (.sl (.int .i64)))),(.st (.pair .bool (.sl (.int .i64))))],[(.st (.pair .bool (.sl (.int .i64))))],fun X=>JQ X.1 X.2⟩
def JQ.G:Env:=⟨9,tab,[(53,kl.ce),(92,Jf.ce)],[0,1,2,3,4],[],[(1,[⟨[],[],[6,7],[]⟩,⟨[],[],[5],[]⟩,⟨[1],[],[5],[]⟩,⟨[0,2,1],[],[],[]⟩,⟨[3,0,2,1],[4],[],[]⟩])],[(1,JQ.c1r)],[],jE,[]⟩
theorem JQ.p0:PcA JQ.G Tryz.f66 0:=
  jv (s:=JQ.c1r) (by kernel_rfl) (by kernel_rfl) (jp (sh:=JQ.c1s) (fun ρ X Z=>(jb fun _=>(jb fun _=>jc))) (fun ρ X t k=>(by kernel_rfl)) (fun X=>by kernel_rfl))
theorem JQ.ok:CalleeOk Tryz.prog 66 JQ.ce:=fn_ok (G:=JQ.G) jM mixed Tryz.func66 ⟨(jh kl.ok (jh Jf.ok jF)),jA,jo,jz⟩ (m:=1) (by kernel_rfl) ⟨trivial,JQ.p0⟩ (by kernel_rfl) (fun _=>by kernel_rfl)
def kR (a:Bool×(List Int)):Option (Int):=
  br ((↑(List.length a.2):Int)==0)
   (some (0:Int))
   (br a.1
     (some (-1:Int))
     (some (1:Int)))
def kR.ce:Go.Ql.Callee:=⟨[(.st (.pair .bool (.sl (.int .i64))))],[(.int .i64)],fun X=>kR X⟩
def kR.G:Env:=⟨9,tab,[],[0,1,2,6,8],[],[],[],[],jE,[]⟩
theorem kR.ok:CalleeOk Tryz.prog 65 kR.ce:=fn_ok (G:=kR.G) jM mixed Tryz.func65 ⟨jF,jA,jo,jz⟩ (m:=0) (by kernel_rfl) trivial (by kernel_rfl) (fun _=>by kernel_rfl)
def kw (a:Bool×(List Int)) (b:Bool×(List Int)):Option (Int):=
  bnd (JQ (a.1,a.2) (b.1,b.2)) fun y=>
  bnd (kR y) fun y1=>
  some y1
def kw.ce:Go.Ql.Callee:=⟨[(.st (.pair .bool (.sl (.int .i64)))),(.st (.pair .bool (.sl (.int .i64))))],[(.int .i64)],fun X=>kw X.1 X.2⟩
def kw.G:Env:=⟨9,tab,[(66,JQ.ce),(65,kR.ce)],[0,1,2,3,4],[],[],[],[],jE,[]⟩
theorem kw.ok:CalleeOk Tryz.prog 33 kw.ce:=fn_ok (G:=kw.G) jM mixed Tryz.func33 ⟨(jh JQ.ok (jh kR.ok jF)),jA,jo,jz⟩ (m:=0) (by kernel_rfl) trivial (by kernel_rfl) (fun _=>by kernel_rfl)
def jQ.c1 (a0:Bool)(a1:List (Int))(Z:Bool→Option ρ):Option ρ:=
  bnd (Jm (-9223372036854775808:Int)) fun y=>
  bnd (kw (a0,a1) y) fun y1=>
  br (decide (y1<0))
   (Z true)
   (bnd (Jm (9223372036854775807:Int)) fun y2=>
    bnd (kw (a0,a1) y2) fun y3=>
    Z (decide (y3>0)))
def jQ.c1s:Shape:=⟨[(0,ob27),(1,ob12),(2,ob3),(3,ob0)],[(1,ob23)]⟩
def jQ.c1x0:Shape:=⟨[(0,ob27),(1,ob12),(2,ob3),(3,ob0),(15,ob0)],[(1,ob23)]⟩
def jQ.c1r:Ck:=Ck.of (T:=Bool) jQ.c1s (fun ρ X Z=>jQ.c1 X.2.2.2.1 (q4 X).1 Z) (fun ρ X V Z=>Z 0 (Shape.inj jQ.c1x0 (X.1,X.2.1,X.2.2.1,V,X.2.2.2)))
def jQ.cc_ (n:Int)(i:Int)(a1:List (Int))(Z:((Int)×(Int))⊕((Int)×(Int))→Option ρ):Option ρ:=
  br (decide (i≥0))
   (bnd (idx a1 i) fun y=>
    Z (.inl ((i64.wrap (i64.wrap (n*10000)-y)),(i64.wrap (i-1)))))
   (Z (.inr (n,i)))
def jQ.cc_s:Shape:=⟨[(0,ob27),(1,ob12),(2,ob3),(3,ob0),(4,ob3),(5,ob3)],[(1,ob23)]⟩
def jQ.cc_r:Ck:=Ck.ofLoop (S:=(Int)×(Int)) (T:=(Int)×(Int)) jQ.cc_s (fun X=>(X.2.2.2.1,(q4 X).1)) (fun ρ X Q Z=>jQ.cc_ Q.1 Q.2 (q4 X).2.2.1 Z) (fun ρ X V Z=>Z 2 (Shape.inj jQ.cc_s (X.1,X.2.1,X.2.2.1,V.1,V.2,(q4 X).2)))
def jQ.cj_ (n:Int)(a0:Bool)(Z:Int→Option ρ):Option ρ:=
  br (!a0)
   (Z (i64.wrap ((0:Int)-n)))
   (Z n)
def jQ.cj_r:Ck:=Ck.of (T:=Int) jQ.cc_s (fun ρ X Z=>jQ.cj_ X.2.2.2.1 (q4 X).2.1 Z) (fun ρ X V Z=>Z 0 (Shape.inj jQ.cc_s (X.1,X.2.1,X.2.2.1,V,(q4 X))))
def jQ (a:Bool×(List Int)):Option ((Int)×Bool):=
  bnd (jQ.c1 a.1 a.2 some) fun y=>
  br y
   (some ((0:Int),false))
   (bnd (iter (fun s↦jQ.cc_ s.1 s.2 a.2 some) ((0:Int),i64.wrap ((↑(List.length a.2):Int)-1))) fun y1=>
    bnd (jQ.cj_ y1.1 a.1 some) fun y2=>
    some (y2,true))
def jQ.ce:Go.Ql.Callee:=⟨[(.st (.pair .bool (.sl (.int .i64))))],[(.int .i64),.bool],fun X=>jQ X⟩
def jQ.G:Env:=⟨38,tab,[(34,Jm.ce),(33,kw.ce)],[0,1,2,3,4,5,15,21,34],[],[(1,[⟨[],[],[7],[]⟩,⟨[],[],[6],[]⟩,⟨[0,1],[],[],[]⟩,⟨[2,0,1],[],[],[]⟩,⟨[3,2,0,1],[],[],[]⟩,⟨[4,3,2,0,1],[],[12],[]⟩,⟨[4,3,2,0,1],[],[11],[]⟩,⟨[5,4,3,2,0,1,6],[],[],[]⟩,⟨[7,5,4,3,2,0,1,6],[],[],[]⟩,⟨[4,3,2,0,1,8,7,5,6],[],[],[]⟩])],[(232773,jQ.cj_r),(100005,jQ.cc_r),(1,jQ.c1r)],[],jE,[]⟩
theorem jQ.p0:PcA jQ.G Tryz.f35 0:=
  jv (s:=jQ.c1r) (by kernel_rfl) (by kernel_rfl) (jp (sh:=jQ.c1s) (fun ρ X Z=>(jb fun _=>(jb fun _=>(jl jc (jb fun _=>(jb fun _=>jc)))))) (fun ρ X t k=>(by kernel_rfl)) (fun X=>by kernel_rfl))
theorem jQ.p1:PcA jQ.G Tryz.f35 1:=
  Ja (s:=jQ.cc_r) (by kernel_rfl) (by kernel_rfl) (jU (sh:=jQ.cc_s) (I:=fun X Q=>(X.1,X.2.1,X.2.2.1,Q.1,Q.2,(q4 X).2)) (fun X=>rfl) (fun ρ X Q Z=>(jl (jb fun _=>jc) jc)) (fun ρ X t k=>(by kernel_rfl)) (fun X s=>by kernel_rfl))
theorem jQ.p2:PcA jQ.G Tryz.f35 2:=
  Jo (s:=jQ.cj_r) (by kernel_rfl) (by kernel_rfl) (jp (sh:=jQ.cc_s) (fun ρ X Z=>(jl jc jc)) (fun ρ X t k=>(by kernel_rfl)) (fun X=>by kernel_rfl))
theorem jQ.ok:CalleeOk Tryz.prog 35 jQ.ce:=fn_ok (G:=jQ.G) jM mixed Tryz.func35 ⟨(jh Jm.ok (jh kw.ok jF)),jA,jo,jz⟩ (m:=3) (by kernel_rfl) ⟨⟨⟨trivial,jQ.p0⟩,jQ.p1⟩,jQ.p2⟩ (by kernel_rfl) (fun _=>by kernel_rfl)
abbrev ob29:SD:=.one (.val (.st (.pair (.ar 8 (.st (.pair .bool (.sl (.int .i64))))) (.int .i64))))
abbrev ob30:SD:=.one (.fptr (.st (.pair (.ar 8 (.st (.pair .bool (.sl (.int .i64))))) (.int .i64))))
def Jk.ca_ (a_1:(List (Bool×(List Int)))×(Int))(i:Int)(Z:(Int)⊕((Int)⊕(Int))→Option ρ):Option ρ:=
  br (decide (i<8))
   (bnd (idx a_1.1 i) fun y=>
    br (decide ((↑(List.length y.2):Int)>0))
     (Z (.inr (.inl i)))
     (Z (.inl (i64.wrap (i+1)))))
   (Z (.inr (.inr i)))
def Jk.ca_s:Shape:=⟨[(0,ob29),(1,ob30),(2,ob0),(3,ob3)],[]⟩
def Jk.ca_r:Ck:=Ck.ofLoop (S:=Int) (T:=(Int)⊕(Int)) Jk.ca_s (fun X=>X.2.2.2.1) (fun ρ X Q Z=>Jk.ca_ X.2.1 Q Z) (fun ρ X V Z=>sel V (fun V=>Z 1 (Shape.inj Jk.ca_s (X.1,X.2.1,false,V,()))) (fun V=>Z 2 (Shape.inj Jk.ca_s (X.1,X.2.1,X.2.2.1,V,()))))
def Jk (a:(List (Bool×(List Int)))×(Int)):Option Bool:=
  bnd (iter (fun s↦Jk.ca_ a s some) (0:Int)) fun y=>
  sel y
   (fun u=>some false)
   (fun v=>some true)
def Jk.ce:Go.Ql.Callee:=⟨[(.st (.pair (.ar 8 (.st (.pair .bool (.sl (.int .i64))))) (.int .i64)))],[.bool],fun X=>Jk X⟩
def Jk.G:Env:=⟨15,tab,[],[0,1,2,3,5,14],[8000001],[],[(100002,Jk.ca_r)],[],jE,[]⟩
theorem Jk.p0:PcA Jk.G Tryz.f14 0:=
  Ja (s:=Jk.ca_r) (by kernel_rfl) (by kernel_rfl) (jU (sh:=Jk.ca_s) (I:=fun X Q=>(X.1,X.2.1,X.2.2.1,Q,())) (fun X=>rfl) (fun ρ X Q Z=>(jl (jb fun _=>(jl jc jc)) jc)) (fun ρ X t k=>(kj (fun _=>(by kernel_rfl)) (fun _=>(by kernel_rfl)))) (fun X s=>by kernel_rfl))
theorem Jk.ok:CalleeOk Tryz.prog 14 Jk.ce:=fn_ok (G:=Jk.G) jM mixed Tryz.func14 ⟨jF,jA,jo,jz⟩ (m:=1) (by kernel_rfl) ⟨trivial,Jk.p0⟩ (by kernel_rfl) (fun _=>by kernel_rfl)
def ka.c1 (a1:List (Int))(Z:Bool→Option ρ):Option ρ:=
  br (decide ((a1.length:Int)>0))
   (bnd (idx a1 (0:Int)) fun y=>
    Z (Int.tmod y (2:Int)==1))
   (Z false)
def ka.c1s:Shape:=⟨[(0,ob27),(1,ob12),(2,ob0)],[(1,ob23)]⟩
def ka.c1r:Ck:=Ck.of (T:=Bool) ka.c1s (fun ρ X Z=>ka.c1 X.2.2.2.1 Z) (fun ρ X V Z=>Z 0 (Shape.inj ka.c1s (X.1,V,X.2.2)))
def ka (a:Bool×(List Int)):Option Bool:=
  bnd (ka.c1 a.2 some) fun y=>
  some y
def ka.ce:Go.Ql.Callee:=⟨[(.st (.pair .bool (.sl (.int .i64))))],[.bool],fun X=>ka X⟩
def ka.G:Env:=⟨15,tab,[],[0,1,2],[],[],[(1,ka.c1r)],[],jE,[]⟩
theorem ka.p0:PcA ka.G Tryz.f67 0:=
  jv (s:=ka.c1r) (by kernel_rfl) (by kernel_rfl) (jp (sh:=ka.c1s) (fun ρ X Z=>(jl (jb fun _=>jc) jc)) (fun ρ X t k=>(by kernel_rfl)) (fun X=>by kernel_rfl))
theorem ka.ok:CalleeOk Tryz.prog 67 ka.ce:=fn_ok (G:=ka.G) jM mixed Tryz.func67 ⟨jF,jA,jo,jz⟩ (m:=1) (by kernel_rfl) ⟨trivial,ka.p0⟩ (by kernel_rfl) (fun _=>by kernel_rfl)
abbrev ob31:SD:=.one (.own 10 0)
def JL.cb_ (c:Int)(i:Int)(a1:List (Int))(t10:List (Int))(Z:((Int)×(Int)×(List Int))⊕((Int)×(Int)×(List Int))→Option ρ):Option ρ:=
  br (decide (i≥0))
   (bnd (idx a1 i) fun y=>
    bnd (inR (t10.length) i) fun y1=>
    bnd (idx t10 i) fun y2=>
    Z (.inl ((Int.tmod (i64.wrap (i64.wrap (c*10000)+y)) (2:Int)),(i64.wrap (i-1)),(List.set t10 (Int.toNat i) (i64.wrap (Int.tdiv (i64.wrap (i64.wrap (c*10000)+y)) (2:Int)))))))
   (Z (.inr (c,i,t10)))
def JL.cb_s:Shape:=⟨[(0,ob27),(1,ob12),(2,ob5),(3,ob0),(4,ob31),(5,ob3),(6,ob3)],[(1,ob23),(2,ob23),(10,ob25)]⟩
def JL.cb_r:Ck:=Ck.ofLoop (S:=(Int)×(Int)×(List Int)) (T:=(Int)×(Int)×(List Int)) JL.cb_s (fun X=>(X.2.2.1,X.2.2.2.1,(q8 X).1)) (fun ρ X Q Z=>JL.cb_ Q.1 Q.2.1 (q4 X).2.1 Q.2.2 Z) (fun ρ X V Z=>Z 2 (Shape.inj JL.cb_s (X.1,X.2.1,V.1,V.2.1,(q4 X).1,(q4 X).2.1,(q4 X).2.2.1,(q4 X).2.2.2.1,V.2.2,())))
def JL (a:Bool×(List Int)):Option ((Bool×(List Int))×Bool):=
  bnd (okIf (decide ((0:Int)≤(↑(List.length a.2):Int))&&decide ((↑(List.length a.2):Int)≤(↑(List.length a.2):Int))&&decide ((↑(List.length a.2):Int)*(↑(8:Nat):Int)≤140737488355328)&&decide ((↑(List.length a.2):Int)≤140737488355328))) fun y=>
  bnd (iter (fun s↦JL.cb_ s.1 s.2.1 a.2 s.2.2 some) ((0:Int),i64.wrap ((↑(List.length a.2):Int)-1),List.replicate (Int.toNat (↑(List.length a.2):Int)) (0:Int))) fun y1=>
  bnd (jS a.1 y1.2.2) fun y2=>
  some ((y2.1,y2.2),decide (y1.1>0))
def JL.ce:Go.Ql.Callee:=⟨[(.st (.pair .bool (.sl (.int .i64))))],[(.st (.pair .bool (.sl (.int .i64)))),.bool],fun X=>JL X⟩
def JL.G:Env:=⟨40,tab,[(64,jS.ce)],[0,1,2,3,4,5,6,16],[10],[],[(100004,JL.cb_r)],[],jE,[]⟩
theorem JL.p0:PcA JL.G Tryz.f68 0:=
  Ja (s:=JL.cb_r) (by kernel_rfl) (by kernel_rfl) (jU (sh:=JL.cb_s) (I:=fun X Q=>(X.1,X.2.1,Q.1,Q.2.1,(q4 X).1,(q4 X).2.1,(q4 X).2.2.1,(q4 X).2.2.2.1,Q.2.2,())) (fun X=>rfl) (fun ρ X Q Z=>(jl (jb fun _=>(jb fun _=>(jb fun _=>jc))) jc)) (fun ρ X t k=>(by kernel_rfl)) (fun X s=>by kernel_rfl))
theorem JL.ok:CalleeOk Tryz.prog 68 JL.ce:=fn_ok (G:=JL.G) jM mixed Tryz.func68 ⟨(jh jS.ok jF),jA,jo,jz⟩ (m:=1) (by kernel_rfl) ⟨trivial,JL.p0⟩ (by kernel_rfl) (fun _=>by kernel_rfl)
abbrev ob32:SD:=.one (.aptr 1 0)
abbrev ob33:SD:=.one (.aptr 2 0)
abbrev ob34:SO:=.arr 0 false 37 (.st (.pair (.ar 8 (.st (.pair .bool (.sl (.int .i64))))) (.int .i64)))
def jI.cd_ (i:Int)(a_1:List ((List (Bool×(List Int)))×(Int)))(t2:List ((List (Bool×(List Int)))×(Int)))(Z:(Int)⊕(((Int)×(List ((List (Bool×(List Int)))×(Int))))⊕(Int))→Option ρ):Option ρ:=
  br (decide (i<8))
   (bnd (inR (a_1.length) (0:Int)) fun y=>
    bnd (okIf (decide ((0:Ty.den (Ty.int IntKind.i64))≤i)&&decide (i<(↑(8:Nat):Int)))) fun y1=>
    bnd (idx a_1 (0:Int)) fun y2=>
    bnd (idx y2.1 i) fun y3=>
    bnd (ka y3) fun y4=>
    br y4
     (bnd (idx a_1 (0:Int)) fun y5=>
      bnd (idx t2 (0:Int)) fun y6=>
      Z (.inr (.inl (i,(List.set t2 (0:Nat) y5)))))
     (Z (.inl (i64.wrap (i+1)))))
   (Z (.inr (.inr i)))
def jI.cd_s:Shape:=⟨[(0,ob29),(1,ob32),(2,ob33),(3,ob3)],[(1,ob34),(2,ob34)]⟩
def jI.cd_r:Ck:=Ck.ofLoop (S:=Int) (T:=((Int)×(List ((List (Bool×(List Int)))×(Int))))⊕(Int)) jI.cd_s (fun X=>X.2.1) (fun ρ X Q Z=>jI.cd_ Q X.2.2.1 X.2.2.2.1 Z) (fun ρ X V Z=>sel V (fun V=>Z 1 (Shape.inj jI.cd_s (X.1,V.1,X.2.2.1,V.2,()))) (fun V=>Z 4 (Shape.inj jI.cd_s (X.1,V,X.2.2))))
def jI.ci_ (i_1:Int)(a_1:List ((List (Bool×(List Int)))×(Int)))(Z:((Int)×(List ((List (Bool×(List Int)))×(Int))))⊕((Int)×(List ((List (Bool×(List Int)))×(Int))))→Option ρ):Option ρ:=
  br (decide (i_1<8))
   (bnd (inR (a_1.length) (0:Int)) fun y=>
    bnd (okIf (decide ((0:Ty.den (Ty.int IntKind.i64))≤i_1)&&decide (i_1<(↑(8:Nat):Int)))) fun y1=>
    bnd (idx a_1 (0:Int)) fun y2=>
    bnd (idx y2.1 i_1) fun y3=>
    bnd (JL y3) fun y4=>
    bnd (inR (a_1.length) (0:Int)) fun y5=>
    bnd (okIf (decide ((0:Ty.den (Ty.int IntKind.i64))≤i_1)&&decide (i_1<(↑(8:Nat):Int)))) fun y6=>
    bnd (idx a_1 (0:Int)) fun y7=>
    bnd (idx y7.1 i_1) fun y8=>
    Z (.inl ((i64.wrap (i_1+1)),(List.set a_1 (0:Nat) (List.set y7.1 (Int.toNat i_1) y4.1,y7.2)))))
   (Z (.inr (i_1,a_1)))
def jI.ci_s:Shape:=⟨[(0,ob29),(1,ob32),(2,ob33),(3,ob3),(4,ob3)],[(1,ob34),(2,ob34)]⟩
def jI.ci_r:Ck:=Ck.ofLoop (S:=(Int)×(List ((List (Bool×(List Int)))×(Int)))) (T:=(Int)×(List ((List (Bool×(List Int)))×(Int)))) jI.ci_s (fun X=>(X.2.2.1,X.2.2.2.1)) (fun ρ X Q Z=>jI.ci_ Q.1 Q.2 Z) (fun ρ X V Z=>Z 6 (Shape.inj jI.ci_s (X.1,X.2.1,V.1,V.2,(q4 X))))
def jI.ce_ (a_1:List ((List (Bool×(List Int)))×(Int)))(t2:List ((List (Bool×(List Int)))×(Int)))(Z:(List ((List (Bool×(List Int)))×(Int)))⊕(((List ((List (Bool×(List Int)))×(Int)))×(List ((List (Bool×(List Int)))×(Int))))⊕(List ((List (Bool×(List Int)))×(Int))))→Option ρ):Option ρ:=
  bnd (inR (a_1.length) (0:Int)) fun y=>
  bnd (idx a_1 (0:Int)) fun y1=>
  br (decide (y1.2>0))
   (bnd (iter (fun s↦jI.cd_ s a_1 t2 some) (0:Int)) fun y2=>
    sel y2
     (fun u=>Z (.inr (.inl (a_1,u.2))))
     (fun v=>bnd (iter (fun s↦jI.ci_ s.1 s.2 some) ((0:Int),a_1)) fun y3=>
      bnd (idx y3.2 (0:Int)) fun y4=>
      bnd (Jk y4) fun y5=>
      br y5
       (bnd (idx t2 (0:Int)) fun y6=>
        Z (.inr (.inl (y3.2,(List.set t2 (0:Nat) (List.replicate (8:Nat) (false,[]),(0:Int)))))))
       (bnd (inR (List.length y3.2) (0:Int)) fun y7=>
        bnd (idx y3.2 (0:Int)) fun y8=>
        bnd (inR (List.length y3.2) (0:Int)) fun y9=>
        bnd (idx y3.2 (0:Int)) fun y10=>
        Z (.inl (List.set y3.2 (0:Nat) (y10.1,i64.wrap (y8.2-1)))))))
   (Z (.inr (.inr a_1)))
def jI.ce_s:Shape:=⟨[(0,ob29),(1,ob32),(2,ob33)],[(1,ob34),(2,ob34)]⟩
def jI.ce_r:Ck:=Ck.ofLoop (S:=List ((List (Bool×(List Int)))×(Int))) (T:=((List ((List (Bool×(List Int)))×(Int)))×(List ((List (Bool×(List Int)))×(Int))))⊕(List ((List (Bool×(List Int)))×(Int)))) jI.ce_s (fun X=>X.2.1) (fun ρ X Q Z=>jI.ce_ Q X.2.2.1 Z) (fun ρ X V Z=>sel V (fun V=>Z 1 (Shape.inj jI.ce_s (X.1,V.1,V.2,()))) (fun V=>Z 2 (Shape.inj jI.ce_s (X.1,V,X.2.2))))
def jI (a:(List (Bool×(List Int)))×(Int)):Option ((List (Bool×(List Int)))×(Int)):=
  bnd (iter (fun s↦jI.ce_ s [(List.replicate (8:Nat) (false,[]),(0:Int))] some) [a]) fun y=>
  sel y
   (fun u=>bnd (idx u.2 (0:Int)) fun y1=>
    some y1)
   (fun v=>bnd (idx v (0:Int)) fun y2=>
    some y2)
def jI.ce:Go.Ql.Callee:=⟨[(.st (.pair (.ar 8 (.st (.pair .bool (.sl (.int .i64))))) (.int .i64)))],[(.st (.pair (.ar 8 (.st (.pair .bool (.sl (.int .i64))))) (.int .i64)))],fun X=>jI X⟩
def jI.G:Env:=⟨41,tab,[(67,ka.ce),(68,JL.ce),(14,Jk.ce)],[0,1,2,3,4,7,9,16,19,34],[1,2,35],[],[(100001,jI.ce_r),(100008,jI.ci_r),(100003,jI.cd_r)],[],jE,[]⟩
theorem jI.p0:PcA jI.G Tryz.f36 0:=
  Ja (s:=jI.ce_r) (by kernel_rfl) (by kernel_rfl) (jU (sh:=jI.ce_s) (I:=fun X Q=>(X.1,Q,X.2.2)) (fun X=>rfl) (fun ρ X Q Z=>(jb fun _=>(jb fun _=>(jl (jb fun _=>(kj (fun _=>jc) (fun _=>(jb fun _=>(jb fun _=>(jb fun _=>(jl (jb fun _=>jc) (jb fun _=>(jb fun _=>(jb fun _=>(jb fun _=>jc))))))))))) jc)))) (fun ρ X t k=>(kj (fun _=>(by kernel_rfl)) (fun _=>(by kernel_rfl)))) (fun X s=>by kernel_rfl))
theorem jI.p1:PcA jI.G Tryz.f36 1:=
  Ja (s:=jI.cd_r) (by kernel_rfl) (by kernel_rfl) (jU (sh:=jI.cd_s) (I:=fun X Q=>(X.1,Q,X.2.2)) (fun X=>rfl) (fun ρ X Q Z=>(jl (jb fun _=>(jb fun _=>(jb fun _=>(jb fun _=>(jb fun _=>(jl (jb fun _=>(jb fun _=>jc)) jc)))))) jc)) (fun ρ X t k=>(kj (fun _=>(by kernel_rfl)) (fun _=>(by kernel_rfl)))) (fun X s=>by kernel_rfl))
theorem jI.p2:PcA jI.G Tryz.f36 2:=
  Ja (s:=jI.ci_r) (by kernel_rfl) (by kernel_rfl) (jU (sh:=jI.ci_s) (I:=fun X Q=>(X.1,X.2.1,Q.1,Q.2,(q4 X))) (fun X=>rfl) (fun ρ X Q Z=>(jl (jb fun _=>(jb fun _=>(jb fun _=>(jb fun _=>(jb fun _=>(jb fun _=>(jb fun _=>(jb fun _=>(jb fun _=>jc))))))))) jc)) (fun ρ X t k=>(by kernel_rfl)) (fun X s=>by kernel_rfl))
theorem jI.ok:CalleeOk Tryz.prog 36 jI.ce:=fn_ok (G:=jI.G) jM mixed Tryz.func36 ⟨(jh ka.ok (jh JL.ok (jh Jk.ok jF))),jA,jo,jz⟩ (m:=3) (by kernel_rfl) ⟨⟨⟨trivial,jI.p0⟩,jI.p1⟩,jI.p2⟩ (by kernel_rfl) (fun _=>by kernel_rfl)
abbrev ob35:SD:=.one (.val (.sl (.int .u8)))
def jB.cl_ (text:List UInt8)(a0:Bool)(Z:List UInt8→Option ρ):Option ρ:=
  br a0
   (Z (Array.toList (ByteArray.data (ByteArray.mk #[45]))))
   (Z text)
def jB.cl_s:Shape:=⟨[(0,ob27),(1,ob12),(2,ob13),(3,ob13)],[(1,ob23)]⟩
def jB.cl_r:Ck:=Ck.of (T:=List UInt8) jB.cl_s (fun ρ X Z=>jB.cl_ X.2.2.1 X.2.2.2.1 Z) (fun ρ X V Z=>Z 0 (Shape.inj jB.cl_s (X.1,X.2.1,V,X.2.2.2)))
def jB.c9 (i:Int)(a1:List (Int))(Z:List (Int)→Option ρ):Option ρ:=
  bnd (idx a1 i) fun y=>
  bnd (idx a1 i) fun y1=>
  bnd (idx a1 i) fun y2=>
  bnd (idx a1 i) fun y3=>
  Z ([u8.wrap (i64.wrap ((48:Int)+i64.wrap (Int.tdiv y (1000:Int)))),u8.wrap (i64.wrap ((48:Int)+Int.tmod (i64.wrap (Int.tdiv y1 (100:Int))) (10:Int))),u8.wrap (i64.wrap ((48:Int)+Int.tmod (i64.wrap (Int.tdiv y2 (10:Int))) (10:Int))),u8.wrap (i64.wrap ((48:Int)+Int.tmod y3 (10:Int)))])
def jB.c9s:Shape:=⟨[(0,ob27),(1,ob12),(2,ob13),(3,ob13),(4,ob3)],[(1,ob23)]⟩
def jB.c9x0:Shape:=⟨[(0,ob27),(1,ob12),(2,ob13),(3,ob13),(4,ob3),(5,ob35)],[(1,ob23)]⟩
def jB.c9r:Ck:=Ck.of (T:=List (Int)) jB.c9s (fun ρ X Z=>jB.c9 X.2.2.2.1 (q4 X).2.1 Z) (fun ρ X V Z=>Z 0 (Shape.inj jB.c9x0 (X.1,X.2.1,X.2.2.1,X.2.2.2.1,V,(q4 X))))
def jB.c11 (i:Int)(four:List (Int))(t6:Int)(a1:List (Int))(Z:Bool→Option ρ):Option ρ:=
  br (i==i64.wrap ((a1.length:Int)-1))
   (br (decide (t6<3))
     (bnd (idx four t6) fun y=>
      Z (y==48))
     (Z false))
   (Z false)
def jB.c11s:Shape:=⟨[(0,ob27),(1,ob12),(2,ob13),(3,ob13),(4,ob3),(5,ob35),(6,ob3)],[(1,ob23)]⟩
def jB.c11x0:Shape:=⟨[(0,ob27),(1,ob12),(2,ob13),(3,ob13),(4,ob3),(5,ob35),(6,ob3),(72,ob0)],[(1,ob23)]⟩
def jB.c11r:Ck:=Ck.of (T:=Bool) jB.c11s (fun ρ X Z=>jB.c11 X.2.2.2.1 (q4 X).1 (q4 X).2.1 (q4 X).2.2.2.1 Z) (fun ρ X V Z=>Z 0 (Shape.inj jB.c11x0 (X.1,X.2.1,X.2.2.1,X.2.2.2.1,(q4 X).1,(q4 X).2.1,V,(q4 X).2.2)))
def jB.ct_ (i:Int)(four:List (Int))(t6:Int)(a1:List (Int))(Z:(Int)⊕(Int)→Option ρ):Option ρ:=
  bnd (jB.c11 i four t6 a1 some) fun y=>
  br y
   (Z (.inl (i64.wrap (t6+1))))
   (Z (.inr t6))
def jB.ct_r:Ck:=Ck.ofLoop (S:=Int) (T:=Int) jB.c11s (fun X=>(q4 X).2.1) (fun ρ X Q Z=>jB.ct_ X.2.2.2.1 (q4 X).1 Q (q4 X).2.2.2.1 Z) (fun ρ X V Z=>Z 4 (Shape.inj jB.c11s (X.1,X.2.1,X.2.2.1,X.2.2.2.1,(q4 X).1,V,(q4 X).2.2)))
def jB.cf_ (text:List UInt8)(i:Int)(a1:List (Int))(Z:((List UInt8)×(Int))⊕((List UInt8)×(Int))→Option ρ):Option ρ:=
  br (decide (i≥0))
   (bnd (jB.c9 i a1 some) fun y=>
    bnd (iter (fun s↦jB.ct_ i y s a1 some) (0:Int)) fun y1=>
    bnd (okIf (decide ((0:Int)≤y1)&&decide (y1≤(y.length:Int))&&decide ((y.length:Int)≤(y.length:Int)))) fun y2=>
    bnd (okIf (decide (text.length+List.length (List.map (fun n↦UInt8.ofNat (Int.toNat n)) (List.drop (Int.toNat y1) (List.take (Int.toNat (y.length:Int)) y)))≤9223372036854775807))) fun y3=>
    Z (.inl ((text++List.map (fun n↦UInt8.ofNat (Int.toNat n)) (List.drop (Int.toNat y1) (List.take (Int.toNat (y.length:Int)) y))),(i64.wrap (i-1)))))
   (Z (.inr (text,i)))
def jB.cf_r:Ck:=Ck.ofLoop (S:=(List UInt8)×(Int)) (T:=(List UInt8)×(Int)) jB.c9s (fun X=>(X.2.2.1,X.2.2.2.1)) (fun ρ X Q Z=>jB.cf_ Q.1 Q.2 (q4 X).2.1 Z) (fun ρ X V Z=>Z 2 (Shape.inj jB.c9s (X.1,X.2.1,V.1,V.2,(q4 X))))
def jB (a:Bool×(List Int)):Option (List UInt8):=
  br ((↑(List.length a.2):Int)==0)
   (some (Array.toList (ByteArray.data (ByteArray.mk #[48]))))
   (bnd (jB.cl_ (Array.toList (ByteArray.data (ByteArray.mk #[]))) a.1 some) fun y=>
    bnd (iter (fun s↦jB.cf_ s.1 s.2 a.2 some) (y,i64.wrap ((↑(List.length a.2):Int)-1))) fun y1=>
    some y1.1)
def jB.ce:Go.Ql.Callee:=⟨[(.st (.pair .bool (.sl (.int .i64))))],[.str],fun X=>jB X⟩
def jB.G:Env:=⟨82,tab,[],[0,1,2,3,4,5,6,10,12,18,72],[],[(9,[⟨[],[],[23,29,30,31,32,33,34,35,36,37,38,39,40,41,42,43,44,45,46,47,48,49,50,51,52,53,54],[]⟩,⟨[0],[],[23,29,30,31,32,33,34,35,36,37,38,39,40,41,42,43,44,45,46,47,48,49,50,51,52,53,54],[]⟩,⟨[],[],[21,22,29,30,31,32,33,34,35,36,37,38,39,40,41,42,43,44,45,46,47,48,49,50,51,52,53,54],[]⟩,⟨[1,0,2],[],[29,30,31,32,33,34,35,36,37,38,39,40,41,42,43,44,45,46,47,48,49,50,51,52,53,54],[]⟩,⟨[3,1,0,2],[],[29,30,31,32,33,34,35,36,37,38,39,40,41,42,43,44,45,46,47,48,49,50,51,52,53,54],[]⟩,⟨[4,3,1,0,2],[],[29,30,31,32,33,34,35,36,37,38,39,40,41,42,43,44,45,46,47,48,49,50,51,52,53,54],[]⟩,⟨[5,4,3,1,0,2],[],[29,30,31,32,33,34,35,36,37,38,39,40,41,42,43,44,45,46,47,48,49,50,51,52,53,54],[]⟩,⟨[6,5,4,3,1,0,2],[],[29,30,31,32,33,34,35,36,37,38,39,40,41,42,43,44,45,46,47,48,49,50,51,52,53,54],[]⟩,⟨[],[],[21,22,23,24,25,26,27,28,31,38,39,40,41,42,43,44,45,46,47,48,49,50,51,52,53,54],[]⟩,⟨[8],[],[21,22,23,24,25,26,27,28,31,38,39,40,41,42,43,44,45,46,47,48,49,50,51,52,53,54],[]⟩,⟨[],[],[21,22,23,24,25,26,27,28,29,30,38,39,40,41,42,43,44,45,46,47,48,49,50,51,52,53,54],[]⟩,⟨[9,8,10],[],[21,22,23,24,25,26,27,28,38,39,40,41,42,43,44,45,46,47,48,49,50,51,52,53,54],[]⟩,⟨[11,9,8,10],[],[21,22,23,24,25,26,27,28,38,39,40,41,42,43,44,45,46,47,48,49,50,51,52,53,54],[]⟩,⟨[12,11,9,8,10],[],[21,22,23,24,25,26,27,28,38,39,40,41,42,43,44,45,46,47,48,49,50,51,52,53,54],[]⟩,⟨[13,12,11,9,8,10],[],[21,22,23,24,25,26,27,28,38,39,40,41,42,43,44,45,46,47,48,49,50,51,52,53,54],[]⟩,⟨[14,13,12,11,9,8,10],[],[21,22,23,24,25,26,27,28,38,39,40,41,42,43,44,45,46,47,48,49,50,51,52,53,54],[]⟩,⟨[15,14,13,12,11,9,8,10],[],[21,22,23,24,25,26,27,28,38,39,40,41,42,43,44,45,46,47,48,49,50,51,52,53,54],[]⟩,⟨[],[],[21,22,23,24,25,26,27,28,29,30,31,32,33,34,35,36,37,40,47,48,49,50,51,52,53,54],[]⟩,⟨[17],[],[21,22,23,24,25,26,27,28,29,30,31,32,33,34,35,36,37,40,47,48,49,50,51,52,53,54],[]⟩,⟨[],[],[21,22,23,24,25,26,27,28,29,30,31,32,33,34,35,36,37,38,39,47,48,49,50,51,52,53,54],[]⟩,⟨[18,17,19],[],[21,22,23,24,25,26,27,28,29,30,31,32,33,34,35,36,37,47,48,49,50,51,52,53,54],[]⟩,⟨[20,18,17,19],[],[21,22,23,24,25,26,27,28,29,30,31,32,33,34,35,36,37,47,48,49,50,51,52,53,54],[]⟩,⟨[21,20,18,17,19],[],[21,22,23,24,25,26,27,28,29,30,31,32,33,34,35,36,37,47,48,49,50,51,52,53,54],[]⟩,⟨[22,21,20,18,17,19],[],[21,22,23,24,25,26,27,28,29,30,31,32,33,34,35,36,37,47,48,49,50,51,52,53,54],[]⟩,⟨[23,22,21,20,18,17,19],[],[21,22,23,24,25,26,27,28,29,30,31,32,33,34,35,36,37,47,48,49,50,51,52,53,54],[]⟩,⟨[24,23,22,21,20,18,17,19],[],[21,22,23,24,25,26,27,28,29,30,31,32,33,34,35,36,37,47,48,49,50,51,52,53,54],[]⟩,⟨[],[],[21,22,23,24,25,26,27,28,29,30,31,32,33,34,35,36,37,38,39,40,41,42,43,44,45,46,49],[]⟩,⟨[26],[],[21,22,23,24,25,26,27,28,29,30,31,32,33,34,35,36,37,38,39,40,41,42,43,44,45,46,49],[]⟩,⟨[],[],[21,22,23,24,25,26,27,28,29,30,31,32,33,34,35,36,37,38,39,40,41,42,43,44,45,46,47,48],[]⟩,⟨[27,26,28],[],[21,22,23,24,25,26,27,28,29,30,31,32,33,34,35,36,37,38,39,40,41,42,43,44,45,46],[]⟩,⟨[29,27,26,28],[],[21,22,23,24,25,26,27,28,29,30,31,32,33,34,35,36,37,38,39,40,41,42,43,44,45,46],[]⟩,⟨[30,29,27,26,28],[],[21,22,23,24,25,26,27,28,29,30,31,32,33,34,35,36,37,38,39,40,41,42,43,44,45,46],[]⟩,⟨[31,30,29,27,26,28],[],[21,22,23,24,25,26,27,28,29,30,31,32,33,34,35,36,37,38,39,40,41,42,43,44,45,46],[]⟩,⟨[32,31,30,29,27,26,28],[],[21,22,23,24,25,26,27,28,29,30,31,32,33,34,35,36,37,38,39,40,41,42,43,44,45,46],[]⟩,⟨[7,6,5,4,3,1,0,2,16,15,14,13,12,11,9,8,10,25,24,23,22,21,20,18,17,19,33,32,31,30,29,27,26,28],[55],[],[]⟩,⟨[34,7,6,5,4,3,1,0,2,16,15,14,13,12,11,9,8,10,25,24,23,22,21,20,18,17,19,33,32,31,30,29,27,26,28],[],[],[]⟩])],[(100007,jB.cf_r),(100011,jB.ct_r),(11,jB.c11r),(9,jB.c9r),(216389,jB.cl_r)],[],jE,[]⟩
theorem jB.p0:PcA jB.G Tryz.f42 0:=
  Jo (s:=jB.cl_r) (by kernel_rfl) (by kernel_rfl) (jp (sh:=jB.cl_s) (fun ρ X Z=>(jl jc jc)) (fun ρ X t k=>(by kernel_rfl)) (fun X=>by kernel_rfl))
theorem jB.p1:PcA jB.G Tryz.f42 1:=
  Ja (s:=jB.cf_r) (by kernel_rfl) (by kernel_rfl) (jU (sh:=jB.c9s) (I:=fun X Q=>(X.1,X.2.1,Q.1,Q.2,(q4 X))) (fun X=>rfl) (fun ρ X Q Z=>(jl (jb fun _=>(jb fun _=>(jb fun _=>(jb fun _=>jc)))) jc)) (fun ρ X t k=>(by kernel_rfl)) (fun X s=>by kernel_rfl))
theorem jB.p2:PcA jB.G Tryz.f42 2:=
  jv (s:=jB.c9r) (by kernel_rfl) (by kernel_rfl) (jp (sh:=jB.c9s) (fun ρ X Z=>(jb fun _=>(jb fun _=>(jb fun _=>(jb fun _=>jc))))) (fun ρ X t k=>(by kernel_rfl)) (fun X=>by kernel_rfl))
theorem jB.p3:PcA jB.G Tryz.f42 3:=
  Ja (s:=jB.ct_r) (by kernel_rfl) (by kernel_rfl) (jU (sh:=jB.c11s) (I:=fun X Q=>(X.1,X.2.1,X.2.2.1,X.2.2.2.1,(q4 X).1,Q,(q4 X).2.2)) (fun X=>rfl) (fun ρ X Q Z=>(jb fun _=>(jl jc jc))) (fun ρ X t k=>(by kernel_rfl)) (fun X s=>by kernel_rfl))
theorem jB.p4:PcA jB.G Tryz.f42 4:=
  jv (s:=jB.c11r) (by kernel_rfl) (by kernel_rfl) (jp (sh:=jB.c11s) (fun ρ X Z=>(jl (jl (jb fun _=>jc) jc) jc)) (fun ρ X t k=>(by kernel_rfl)) (fun X=>by kernel_rfl))
theorem jB.ok:CalleeOk Tryz.prog 42 jB.ce:=fn_ok (G:=jB.G) jM mixed Tryz.func42 ⟨jF,jA,jo,jz⟩ (m:=5) (by kernel_rfl) ⟨⟨⟨⟨⟨trivial,jB.p0⟩,jB.p1⟩,jB.p2⟩,jB.p3⟩,jB.p4⟩ (by kernel_rfl) (fun _=>by kernel_rfl)
def jH.cC_ (a_1:(List (Bool×(List Int)))×(Int))(last:Int)(i:Int)(Z:Int→Option ρ):Option ρ:=
  bnd (idx a_1.1 i) fun y=>
  br (decide ((↑(List.length y.2):Int)>0))
   (Z i)
   (Z last)
def jH.cC_s:Shape:=⟨[(0,ob29),(1,ob30),(2,ob13),(3,ob3),(4,ob3)],[]⟩
def jH.cC_r:Ck:=Ck.of (T:=Int) jH.cC_s (fun ρ X Z=>jH.cC_ X.2.1 X.2.2.2.1 (q4 X).1 Z) (fun ρ X V Z=>Z 0 (Shape.inj jH.cC_s (X.1,X.2.1,X.2.2.1,V,(q4 X))))
def jH.cd_ (a_1:(List (Bool×(List Int)))×(Int))(last:Int)(i:Int)(Z:((Int)×(Int))⊕((Int)×(Int))→Option ρ):Option ρ:=
  br (decide (i<8))
   (bnd (jH.cC_ a_1 last i some) fun y=>
    Z (.inl (y,(i64.wrap (i+1)))))
   (Z (.inr (last,i)))
def jH.cd_r:Ck:=Ck.ofLoop (S:=(Int)×(Int)) (T:=(Int)×(Int)) jH.cC_s (fun X=>(X.2.2.2.1,(q4 X).1)) (fun ρ X Q Z=>jH.cd_ X.2.1 Q.1 Q.2 Z) (fun ρ X V Z=>Z 2 (Shape.inj jH.cC_s (X.1,X.2.1,X.2.2.1,V.1,V.2,())))
def jH.cr_ (a_1:(List (Bool×(List Int)))×(Int))(last:Int)(text:List UInt8)(i_1:Int)(Z:((List UInt8)×(Int))⊕((List UInt8)×(Int))→Option ρ):Option ρ:=
  br (decide (i_1≤last))
   (bnd (idx a_1.1 i_1) fun y=>
    bnd (jB y) fun y1=>
    bnd (okIf (decide (List.length (Array.toList (ByteArray.data (ByteArray.mk #[44])))+y1.length≤9223372036854775807))) fun y2=>
    bnd (okIf (decide (text.length+List.length (Array.toList (ByteArray.data (ByteArray.mk #[44]))++y1)≤9223372036854775807))) fun y3=>
    Z (.inl ((text++(Array.toList (ByteArray.data (ByteArray.mk #[44]))++y1)),(i64.wrap (i_1+1)))))
   (Z (.inr (text,i_1)))
def jH.cr_s:Shape:=⟨[(0,ob29),(1,ob30),(2,ob13),(3,ob3),(4,ob3),(5,ob13),(6,ob3)],[]⟩
def jH.cr_r:Ck:=Ck.ofLoop (S:=(List UInt8)×(Int)) (T:=(List UInt8)×(Int)) jH.cr_s (fun X=>((q4 X).2.1,(q4 X).2.2.1)) (fun ρ X Q Z=>jH.cr_ X.2.1 X.2.2.2.1 Q.1 Q.2 Z) (fun ρ X V Z=>Z 4 (Shape.inj jH.cr_s (X.1,X.2.1,X.2.2.1,X.2.2.2.1,(q4 X).1,V.1,V.2,())))
def jH.cV_ (a_1:(List (Bool×(List Int)))×(Int))(text:List UInt8)(Z:List UInt8→Option ρ):Option ρ:=
  br (decide (a_1.2>0))
   (bnd (Jm a_1.2) fun y=>
    bnd (jB y) fun y1=>
    bnd (okIf (decide (List.length (Array.toList (ByteArray.data (ByteArray.mk #[47])))+y1.length≤9223372036854775807))) fun y2=>
    bnd (okIf (decide (text.length+List.length (Array.toList (ByteArray.data (ByteArray.mk #[47]))++y1)≤9223372036854775807))) fun y3=>
    Z (text++(Array.toList (ByteArray.data (ByteArray.mk #[47]))++y1)))
   (Z text)
def jH.cV_r:Ck:=Ck.of (T:=List UInt8) jH.cr_s (fun ρ X Z=>jH.cV_ X.2.1 (q4 X).2.1 Z) (fun ρ X V Z=>Z 0 (Shape.inj jH.cr_s (X.1,X.2.1,X.2.2.1,X.2.2.2.1,(q4 X).1,V,(q4 X).2.2)))
def jH (a:(List (Bool×(List Int)))×(Int)):Option (List UInt8):=
  bnd (iter (fun s↦jH.cd_ a s.1 s.2 some) ((0:Int),(0:Int))) fun y=>
  bnd (idx a.1 (0:Int)) fun y1=>
  bnd (jB y1) fun y2=>
  bnd (iter (fun s↦jH.cr_ a y.1 s.1 s.2 some) (y2,(1:Int))) fun y3=>
  bnd (jH.cV_ a y3.1 some) fun y4=>
  some y4
def jH.ce:Go.Ql.Callee:=⟨[(.st (.pair (.ar 8 (.st (.pair .bool (.sl (.int .i64))))) (.int .i64)))],[.str],fun X=>jH X⟩
def jH.G:Env:=⟨47,tab,[(42,jB.ce),(34,Jm.ce)],[0,1,2,3,4,5,6,8,17,25,38],[8000001],[],[(249157,jH.cV_r),(100009,jH.cr_r),(100003,jH.cd_r),(220486,jH.cC_r)],[],jE,[]⟩
theorem jH.p0:PcA jH.G Tryz.f8 0:=
  Ja (s:=jH.cd_r) (by kernel_rfl) (by kernel_rfl) (jU (sh:=jH.cC_s) (I:=fun X Q=>(X.1,X.2.1,X.2.2.1,Q.1,Q.2,())) (fun X=>rfl) (fun ρ X Q Z=>(jl (jb fun _=>jc) jc)) (fun ρ X t k=>(by kernel_rfl)) (fun X s=>by kernel_rfl))
theorem jH.p1:PcA jH.G Tryz.f8 1:=
  Jo (s:=jH.cC_r) (by kernel_rfl) (by kernel_rfl) (jp (sh:=jH.cC_s) (fun ρ X Z=>(jb fun _=>(jl jc jc))) (fun ρ X t k=>(by kernel_rfl)) (fun X=>by kernel_rfl))
theorem jH.p2:PcA jH.G Tryz.f8 2:=
  Ja (s:=jH.cr_r) (by kernel_rfl) (by kernel_rfl) (jU (sh:=jH.cr_s) (I:=fun X Q=>(X.1,X.2.1,X.2.2.1,X.2.2.2.1,(q4 X).1,Q.1,Q.2,())) (fun X=>rfl) (fun ρ X Q Z=>(jl (jb fun _=>(jb fun _=>(jb fun _=>(jb fun _=>jc)))) jc)) (fun ρ X t k=>(by kernel_rfl)) (fun X s=>by kernel_rfl))
theorem jH.p3:PcA jH.G Tryz.f8 3:=
  Jo (s:=jH.cV_r) (by kernel_rfl) (by kernel_rfl) (jp (sh:=jH.cr_s) (fun ρ X Z=>(jl (jb fun _=>(jb fun _=>(jb fun _=>(jb fun _=>jc)))) jc)) (fun ρ X t k=>(by kernel_rfl)) (fun X=>by kernel_rfl))
theorem jH.ok:CalleeOk Tryz.prog 8 jH.ce:=fn_ok (G:=jH.G) jM mixed Tryz.func8 ⟨(jh jB.ok (jh Jm.ok jF)),jA,jo,jz⟩ (m:=4) (by kernel_rfl) ⟨⟨⟨⟨trivial,jH.p0⟩,jH.p1⟩,jH.p2⟩,jH.p3⟩ (by kernel_rfl) (fun _=>by kernel_rfl)
abbrev ob36:SD:=.one (.aptr 4 0)
abbrev ob37:SO:=.box [.val (.int .i64),.val (.int .i64)]
abbrev ob38:SD:=.one (.ref 12 0)
def ji.cn_ (text:List UInt8)(t5:Int)(long:Bool)(i:Int)(n:Int)(a:List ((List (Bool×(List Int)))×(Int)))(Z:Bool×(List ((List (Bool×(List Int)))×(Int)))→Option ρ):Option ρ:=
  bnd (okIf (decide ((0:Int)≤t5)&&decide (t5≤i64.wrap (t5+n))&&decide (i64.wrap (t5+n)≤(text.length:Int)))) fun y=>
  bnd (Jv (List.drop (Int.toNat t5) (List.take (Int.toNat (i64.wrap (t5+n))) text))) fun y1=>
  br (decide (y1>1000))
   (Z (true,a))
   (bnd (okIf (decide ((0:Int)≤t5)&&decide (t5≤i64.wrap (t5+n))&&decide (i64.wrap (t5+n)≤(text.length:Int)))) fun y2=>
    bnd (ju (List.drop (Int.toNat t5) (List.take (Int.toNat (i64.wrap (t5+n))) text))) fun y3=>
    bnd (inR (a.length) (0:Int)) fun y4=>
    bnd (okIf (decide ((0:Ty.den (Ty.int IntKind.i64))≤i)&&decide (i<(↑(8:Nat):Int)))) fun y5=>
    bnd (idx a (0:Int)) fun y6=>
    bnd (idx y6.1 i) fun y7=>
    Z (long,(List.set a (0:Nat) (List.set y6.1 (Int.toNat i) y3,y6.2))))
def ji.cn_s:Shape:=⟨[(0,ob13),(2,ob33),(3,ob28),(4,ob36),(5,ob3),(6,ob0),(7,ob3),(8,ob3),(9,ob0)],[(2,ob34),(3,ob37),(4,ob34)]⟩
def ji.cn_r:Ck:=Ck.of (T:=Bool×(List ((List (Bool×(List Int)))×(Int)))) ji.cn_s (fun ρ X Z=>ji.cn_ X.1 X.2.1 X.2.2.1 X.2.2.2.1 (q4 X).1 (q8 X).2.1 Z) (fun ρ X V Z=>Z 0 (Shape.inj ji.cn_s (X.1,X.2.1,V.1,X.2.2.2.1,(q4 X).1,(q4 X).2.1,(q4 X).2.2.1,(q4 X).2.2.2.1,(q8 X).1,V.2,())))
def ji.c14 (text:List UInt8)(t5:Int)(i:Int)(Z:Bool→Option ρ):Option ρ:=
  br (i==7)
   (Z true)
   (br (t5==(text.length:Int))
     (Z true)
     (bnd (idx text t5) fun y=>
      Z ((↑(UInt8.toNat y):Int) !=44)))
def ji.c14x0:Shape:=⟨[(0,ob13),(2,ob33),(3,ob28),(4,ob36),(5,ob3),(6,ob0),(7,ob3),(8,ob3),(9,ob0),(66,ob0)],[(2,ob34),(3,ob37),(4,ob34)]⟩
def ji.c14r:Ck:=Ck.of (T:=Bool) ji.cn_s (fun ρ X Z=>ji.c14 X.1 X.2.1 X.2.2.2.1 Z) (fun ρ X V Z=>Z 0 (Shape.inj ji.c14x0 (X.1,X.2.1,X.2.2.1,X.2.2.2.1,(q4 X).1,(q4 X).2.1,V,(q4 X).2.2)))
def ji.cc_ (text:List UInt8)(t5:Int)(long:Bool)(i:Int)(t2:List ((List (Bool×(List Int)))×(Int)))(a:List ((List (Bool×(List Int)))×(Int)))(Z:((Int)×Bool×(Int)×(List ((List (Bool×(List Int)))×(Int))))⊕(((Int)×Bool×(Int)×(Int)×(List ((List (Bool×(List Int)))×(Int))))⊕((Int)×Bool×(Int)×(List ((List (Bool×(List Int)))×(Int)))))→Option ρ):Option ρ:=
  br (decide (i<8))
   (bnd (okIf (decide ((0:Int)≤t5)&&decide (t5≤(text.length:Int))&&decide ((text.length:Int)≤(text.length:Int)))) fun y=>
    bnd (jN (List.drop (Int.toNat t5) (List.take (Int.toNat (text.length:Int)) text)) true true) fun y1=>
    br (!y1.2)
     (bnd (idx t2 (0:Int)) fun y2=>
      Z (.inr (.inl (t5,long,i,(i64.wrap (t5+y1.1)),a))))
     (bnd (ji.cn_ text t5 long i y1.1 a some) fun y3=>
      bnd (ji.c14 text (i64.wrap (t5+y1.1)) i some) fun y4=>
      br y4
       (Z (.inr (.inr ((i64.wrap (t5+y1.1)),y3.1,i,y3.2))))
       (Z (.inl ((i64.wrap (i64.wrap (t5+y1.1)+1)),y3.1,(i64.wrap (i+1)),y3.2)))))
   (Z (.inr (.inr (t5,long,i,a))))
def ji.cc_s:Shape:=⟨[(0,ob13),(2,ob33),(3,ob28),(4,ob36),(5,ob3),(6,ob0),(7,ob3)],[(2,ob34),(3,ob37),(4,ob34)]⟩
def ji.cc_r:Ck:=Ck.ofLoop (S:=(Int)×Bool×(Int)×(List ((List (Bool×(List Int)))×(Int)))) (T:=((Int)×Bool×(Int)×(Int)×(List ((List (Bool×(List Int)))×(Int))))⊕((Int)×Bool×(Int)×(List ((List (Bool×(List Int)))×(Int))))) ji.cc_s (fun X=>(X.2.1,X.2.2.1,X.2.2.2.1,(q4 X).2.2.2.1)) (fun ρ X Q Z=>ji.cc_ X.1 Q.1 Q.2.1 Q.2.2.1 (q4 X).1 Q.2.2.2 Z) (fun ρ X V Z=>sel V (fun V=>Z 1 (Shape.inj ji.cc_s (X.1,V.1,V.2.1,V.2.2.1,(List.set (q4 X).1 (0:Nat) (List.replicate (8:Nat) (false,[]),(0:Int))),(1:Int),V.2.2.2.1,V.2.2.2.2,()))) (fun V=>Z 2 (Shape.inj ji.cc_s (X.1,V.1,V.2.1,V.2.2.1,(q4 X).1,(q4 X).2.1,(q4 X).2.2.1,V.2.2.2,()))))
def ji.c16 (text:List UInt8)(t5:Int)(Z:Bool→Option ρ):Option ρ:=
  br (decide (t5<(text.length:Int)))
   (bnd (idx text t5) fun y=>
    Z ((↑(UInt8.toNat y):Int)==47))
   (Z false)
def ji.c16x0:Shape:=⟨[(0,ob13),(2,ob33),(3,ob28),(4,ob36),(5,ob3),(6,ob0),(7,ob3),(78,ob0)],[(2,ob34),(3,ob37),(4,ob34)]⟩
def ji.c16r:Ck:=Ck.of (T:=Bool) ji.cc_s (fun ρ X Z=>ji.c16 X.1 X.2.1 Z) (fun ρ X V Z=>Z 0 (Shape.inj ji.c16x0 (X.1,X.2.1,X.2.2.1,X.2.2.2.1,V,(q4 X))))
def ji.c21 (n:Int)(e0:Bool)(e1:List (Int))(Z:Bool→Option ρ):Option ρ:=
  br (decide (n>5))
   (Z true)
   (bnd (Jm (10000:Int)) fun y=>
    bnd (kw (e0,e1) y) fun y1=>
    Z (decide (y1>0)))
def ji.c21s:Shape:=⟨[(0,ob13),(2,ob33),(3,ob28),(4,ob36),(5,ob3),(6,ob0),(7,ob3),(10,ob3),(11,ob0),(12,ob38)],[(2,ob34),(3,ob37),(4,ob34),(12,ob23)]⟩
def ji.c21x0:Shape:=⟨[(0,ob13),(2,ob33),(3,ob28),(4,ob36),(5,ob3),(6,ob0),(7,ob3),(10,ob3),(11,ob0),(12,ob38),(111,ob0)],[(2,ob34),(3,ob37),(4,ob34),(12,ob23)]⟩
def ji.c21r:Ck:=Ck.of (T:=Bool) ji.c21s (fun ρ X Z=>ji.c21 (q4 X).1 (q8 X).2.2.1 (q8 X).2.2.2.1 Z) (fun ρ X V Z=>Z 0 (Shape.inj ji.c21x0 (X.1,X.2.1,X.2.2.1,X.2.2.2.1,(q4 X).1,(q4 X).2.1,V,(q4 X).2.2)))
def ji.cW_ (long:Bool)(n:Int)(a:List ((List (Bool×(List Int)))×(Int)))(e0:Bool)(e1:List (Int))(Z:Bool×(List ((List (Bool×(List Int)))×(Int)))→Option ρ):Option ρ:=
  bnd (ji.c21 n e0 e1 some) fun y=>
  br y
   (Z (true,a))
   (bnd (jQ (e0,e1)) fun y1=>
    bnd (inR (a.length) (0:Int)) fun y2=>
    bnd (idx a (0:Int)) fun y3=>
    Z (long,(List.set a (0:Nat) (y3.1,y1.1))))
def ji.cW_r:Ck:=Ck.of (T:=Bool×(List ((List (Bool×(List Int)))×(Int)))) ji.c21s (fun ρ X Z=>ji.cW_ X.2.2.1 (q4 X).1 (q8 X).2.1 (q8 X).2.2.1 (q8 X).2.2.2.1 Z) (fun ρ X V Z=>Z 0 (Shape.inj ji.c21s (X.1,X.2.1,V.1,X.2.2.2.1,(q4 X).1,(q4 X).2.1,(q4 X).2.2.1,(q4 X).2.2.2.1,(q8 X).1,V.2,(q8 X).2.2)))
def ji.cA_ (text:List UInt8)(t5:Int)(long:Bool)(t2:List ((List (Bool×(List Int)))×(Int)))(a:List ((List (Bool×(List Int)))×(Int)))(Z:(Int)⊕((Int)×Bool×(List ((List (Bool×(List Int)))×(Int))))→Option ρ):Option ρ:=
  bnd (ji.c16 text t5 some) fun y=>
  br y
   (bnd (okIf (decide ((0:Int)≤i64.wrap (t5+1))&&decide (i64.wrap (t5+1)≤(text.length:Int))&&decide ((text.length:Int)≤(text.length:Int)))) fun y1=>
    bnd (jN (List.drop (Int.toNat (i64.wrap (t5+1))) (List.take (Int.toNat (text.length:Int)) text)) false false) fun y2=>
    br (!y2.2)
     (bnd (idx t2 (0:Int)) fun y3=>
      Z (.inl (i64.wrap (i64.wrap (t5+1)+y2.1))))
     (bnd (okIf (decide ((0:Int)≤i64.wrap (t5+1))&&decide (i64.wrap (t5+1)≤i64.wrap (i64.wrap (t5+1)+y2.1))&&decide (i64.wrap (i64.wrap (t5+1)+y2.1)≤(text.length:Int)))) fun y4=>
      bnd (ju (List.drop (Int.toNat (i64.wrap (t5+1))) (List.take (Int.toNat (i64.wrap (i64.wrap (t5+1)+y2.1))) text))) fun y5=>
      bnd (ji.cW_ long y2.1 a y5.1 y5.2 some) fun y6=>
      Z (.inr ((i64.wrap (t5+i64.wrap ((1:Int)+y2.1))),y6.1,y6.2))))
   (Z (.inr (t5,long,a)))
def ji.cA_r:Ck:=Ck.of (T:=(Int)⊕((Int)×Bool×(List ((List (Bool×(List Int)))×(Int))))) ji.cc_s (fun ρ X Z=>ji.cA_ X.1 X.2.1 X.2.2.1 (q4 X).1 (q4 X).2.2.2.1 Z) (fun ρ X V Z=>sel V (fun V=>Z 1 (Shape.inj ji.cc_s (X.1,X.2.1,X.2.2.1,X.2.2.2.1,(List.set (q4 X).1 (0:Nat) (List.replicate (8:Nat) (false,[]),(0:Int))),(1:Int),V,(q4 X).2.2.2))) (fun V=>Z 0 (Shape.inj ji.cc_s (X.1,V.1,V.2.1,X.2.2.2.1,(q4 X).1,(q4 X).2.1,(q4 X).2.2.1,V.2.2,()))))
def ji.cL_ (a:List ((List (Bool×(List Int)))×(Int)))(Z:List ((List (Bool×(List Int)))×(Int))→Option ρ):Option ρ:=
  bnd (idx a (0:Int)) fun y=>
  bnd (Jk y) fun y1=>
  br (!y1)
   (bnd (idx a (0:Int)) fun y2=>
    bnd (jI y2) fun y3=>
    bnd (idx a (0:Int)) fun y4=>
    Z (List.set a (0:Nat) y3))
   (bnd (idx a (0:Int)) fun y5=>
    Z (List.set a (0:Nat) (List.replicate (8:Nat) (false,[]),(0:Int))))
def ji.cL_r:Ck:=Ck.of (T:=List ((List (Bool×(List Int)))×(Int))) ji.cc_s (fun ρ X Z=>ji.cL_ (q4 X).2.2.2.1 Z) (fun ρ X V Z=>Z 0 (Shape.inj ji.cc_s (X.1,X.2.1,X.2.2.1,X.2.2.2.1,(q4 X).1,(q4 X).2.1,(q4 X).2.2.1,V,())))
def ji (text:List UInt8):Option (((List (Bool×(List Int)))×(Int))×((Int)×(Int))):=
  bnd (iter (fun s↦ji.cc_ text s.1 s.2.1 s.2.2.1 [(List.replicate (8:Nat) (false,[]),(0:Int))] s.2.2.2 some) ((0:Int),false,(0:Int),[(List.replicate (8:Nat) (false,[]),(0:Int))])) fun y=>
  sel y
   (fun u=>some ((List.replicate (8:Nat) (false,[]),(0:Int)),(1:Int),u.2.2.2.1))
   (fun v=>bnd (ji.cA_ text v.1 v.2.1 [(List.replicate (8:Nat) (false,[]),(0:Int))] v.2.2.2 some) fun y1=>
    sel y1
     (fun u_1=>some ((List.replicate (8:Nat) (false,[]),(0:Int)),(1:Int),u_1))
     (fun v_1=>br (decide (v_1.1<(text.length:Int)))
       (some ((List.replicate (8:Nat) (false,[]),(0:Int)),(1:Int),v_1.1))
       (br v_1.2.1
         (some ((List.replicate (8:Nat) (false,[]),(0:Int)),(2:Int),(0:Int)))
         (bnd (ji.cL_ v_1.2.2 some) fun y2=>
          bnd (idx y2 (0:Int)) fun y3=>
          bnd (jH y3) fun y4=>
          br (!y4==text)
           (some ((List.replicate (8:Nat) (false,[]),(0:Int)),(3:Int),(0:Int)))
           (bnd (idx y2 (0:Int)) fun y5=>
            some (y5,(0:Int),(0:Int)))))))
def ji.ce:Go.Ql.Callee:=⟨[.str],[(.st (.pair (.ar 8 (.st (.pair .bool (.sl (.int .i64))))) (.int .i64))),(.st (.pair (.int .i64) (.int .i64)))],fun X=>ji X⟩
def ji.G:Env:=⟨146,tab,[(30,jN.ce),(31,Jv.ce),(32,ju.ce),(34,Jm.ce),(33,kw.ce),(35,jQ.ce),(14,Jk.ce),(36,jI.ce),(8,jH.ce)],[0,2,3,4,5,6,7,8,9,10,11,12,15,26,39,66,78,88,111,125,129,134,141],[2,4,13,27,89,126,130,137,142],[(21,[⟨[],[],[],[]⟩,⟨[0],[],[],[]⟩,⟨[1,0],[],[],[]⟩,⟨[2,1,0],[],[108],[]⟩,⟨[2,1,0],[],[107],[]⟩,⟨[3,2,1,0,4],[],[],[]⟩,⟨[5,3,2,1,0,4],[],[],[]⟩,⟨[2,1,0,6,5,3,4],[],[],[]⟩])],[(318789,ji.cL_r),(265559,ji.cA_r),(286021,ji.cW_r),(21,ji.c21r),(16,ji.c16r),(100005,ji.cc_r),(14,ji.c14r),(240965,ji.cn_r)],[],jE,[]⟩
theorem ji.p0:PcA ji.G Tryz.f5 0:=
  Ja (s:=ji.cc_r) (by kernel_rfl) (by kernel_rfl) (jU (sh:=ji.cc_s) (I:=fun X Q=>(X.1,Q.1,Q.2.1,Q.2.2.1,(q4 X).1,(q4 X).2.1,(q4 X).2.2.1,Q.2.2.2,())) (fun X=>rfl) (fun ρ X Q Z=>(jl (jb fun _=>(jb fun _=>(jl (jb fun _=>jc) (jb fun _=>(jb fun _=>(jl jc jc)))))) jc)) (fun ρ X t k=>(kj (fun _=>(by kernel_rfl)) (fun _=>(by kernel_rfl)))) (fun X s=>by kernel_rfl))
theorem ji.p1:PcA ji.G Tryz.f5 1:=
  Jo (s:=ji.cn_r) (by kernel_rfl) (by kernel_rfl) (jp (sh:=ji.cn_s) (fun ρ X Z=>(jb fun _=>(jb fun _=>(jl jc (jb fun _=>(jb fun _=>(jb fun _=>(jb fun _=>(jb fun _=>(jb fun _=>jc)))))))))) (fun ρ X t k=>(by kernel_rfl)) (fun X=>by kernel_rfl))
theorem ji.p2:PcA ji.G Tryz.f5 2:=
  jv (s:=ji.c14r) (by kernel_rfl) (by kernel_rfl) (jp (sh:=ji.cn_s) (fun ρ X Z=>(jl jc (jl jc (jb fun _=>jc)))) (fun ρ X t k=>(by kernel_rfl)) (fun X=>by kernel_rfl))
theorem ji.p3:PcA ji.G Tryz.f5 3:=
  Jo (s:=ji.cA_r) (by kernel_rfl) (by kernel_rfl) (jp (sh:=ji.cc_s) (fun ρ X Z=>(jb fun _=>(jl (jb fun _=>(jb fun _=>(jl (jb fun _=>jc) (jb fun _=>(jb fun _=>(jb fun _=>jc)))))) jc))) (fun ρ X t k=>(kj (fun _=>(by kernel_rfl)) (fun _=>(by kernel_rfl)))) (fun X=>by kernel_rfl))
theorem ji.p4:PcA ji.G Tryz.f5 4:=
  jv (s:=ji.c16r) (by kernel_rfl) (by kernel_rfl) (jp (sh:=ji.cc_s) (fun ρ X Z=>(jl (jb fun _=>jc) jc)) (fun ρ X t k=>(by kernel_rfl)) (fun X=>by kernel_rfl))
theorem ji.p5:PcA ji.G Tryz.f5 5:=
  Jo (s:=ji.cW_r) (by kernel_rfl) (by kernel_rfl) (jp (sh:=ji.c21s) (fun ρ X Z=>(jb fun _=>(jl jc (jb fun _=>(jb fun _=>(jb fun _=>jc)))))) (fun ρ X t k=>(by kernel_rfl)) (fun X=>by kernel_rfl))
theorem ji.p6:PcA ji.G Tryz.f5 6:=
  jv (s:=ji.c21r) (by kernel_rfl) (by kernel_rfl) (jp (sh:=ji.c21s) (fun ρ X Z=>(jl jc (jb fun _=>(jb fun _=>jc)))) (fun ρ X t k=>(by kernel_rfl)) (fun X=>by kernel_rfl))
theorem ji.p7:PcA ji.G Tryz.f5 7:=
  Jo (s:=ji.cL_r) (by kernel_rfl) (by kernel_rfl) (jp (sh:=ji.cc_s) (fun ρ X Z=>(jb fun _=>(jb fun _=>(jl (jb fun _=>(jb fun _=>(jb fun _=>jc))) (jb fun _=>jc))))) (fun ρ X t k=>(by kernel_rfl)) (fun X=>by kernel_rfl))
theorem ji.ok:CalleeOk Tryz.prog 5 ji.ce:=fn_ok (G:=ji.G) jM mixed Tryz.func5 ⟨(jh jN.ok (jh Jv.ok (jh ju.ok (jh Jm.ok (jh kw.ok (jh jQ.ok (jh Jk.ok (jh jI.ok (jh jH.ok jF))))))))),jA,jo,jz⟩ (m:=8) (by kernel_rfl) ⟨⟨⟨⟨⟨⟨⟨⟨trivial,ji.p0⟩,ji.p1⟩,ji.p2⟩,ji.p3⟩,ji.p4⟩,ji.p5⟩,ji.p6⟩,ji.p7⟩ (by kernel_rfl) (fun _=>by kernel_rfl)
abbrev ob39:SD:=.one (.own 15 0)
def whole_left.pre:Shape:=⟨[(0,ob1),(1,ob3)],[]⟩
def whole_left.post:Shape:=⟨[(0,ob7)],[(0,ob8)]⟩
def whole_left.cd_ (n:Int)(t16:List (Int))(t17:Int)(t18:Int)(t15:List (Int))(Z:((Int)×(List Int))⊕((Int)×(List Int))→Option ρ):Option ρ:=
  br (decide (t18<t17))
   (bnd (idx t16 t18) fun y=>
    bnd (okIf (decide ((0:Int)≤Int.tmod n (32:Int)))) fun y1=>
    bnd (inR (t15.length) (i64.wrap (t18+i64.wrap (Int.tdiv n (32:Int))))) fun y2=>
    bnd (idx t15 (i64.wrap (t18+i64.wrap (Int.tdiv n (32:Int))))) fun y3=>
    bnd (inR (t15.length) (i64.wrap (t18+i64.wrap (Int.tdiv n (32:Int))))) fun y4=>
    bnd (idx t15 (i64.wrap (t18+i64.wrap (Int.tdiv n (32:Int))))) fun y5=>
    bnd (inR (List.length (List.set t15 (Int.toNat (i64.wrap (t18+i64.wrap (Int.tdiv n (32:Int))))) (ibits BinOp.or IntKind.u32 y3 (u32.wrap (u64.wrap (IntKind.wrap IntKind.u64 y*2^Min.min (Int.toNat (Int.tmod n (32:Int))) (64:Nat))))))) (i64.wrap (i64.wrap (t18+i64.wrap (Int.tdiv n (32:Int)))+1))) fun y6=>
    bnd (idx (List.set t15 (Int.toNat (i64.wrap (t18+i64.wrap (Int.tdiv n (32:Int))))) (ibits BinOp.or IntKind.u32 y3 (u32.wrap (u64.wrap (IntKind.wrap IntKind.u64 y*2^Min.min (Int.toNat (Int.tmod n (32:Int))) (64:Nat)))))) (i64.wrap (i64.wrap (t18+i64.wrap (Int.tdiv n (32:Int)))+1))) fun y7=>
    bnd (inR (List.length (List.set t15 (Int.toNat (i64.wrap (t18+i64.wrap (Int.tdiv n (32:Int))))) (ibits BinOp.or IntKind.u32 y3 (u32.wrap (u64.wrap (IntKind.wrap IntKind.u64 y*2^Min.min (Int.toNat (Int.tmod n (32:Int))) (64:Nat))))))) (i64.wrap (i64.wrap (t18+i64.wrap (Int.tdiv n (32:Int)))+1))) fun y8=>
    bnd (idx (List.set t15 (Int.toNat (i64.wrap (t18+i64.wrap (Int.tdiv n (32:Int))))) (ibits BinOp.or IntKind.u32 y3 (u32.wrap (u64.wrap (IntKind.wrap IntKind.u64 y*2^Min.min (Int.toNat (Int.tmod n (32:Int))) (64:Nat)))))) (i64.wrap (i64.wrap (t18+i64.wrap (Int.tdiv n (32:Int)))+1))) fun y9=>
    Z (.inl ((i64.wrap (t18+1)),(List.set (List.set t15 (Int.toNat (i64.wrap (t18+i64.wrap (Int.tdiv n (32:Int))))) (ibits BinOp.or IntKind.u32 y3 (u32.wrap (u64.wrap (IntKind.wrap IntKind.u64 y*2^Min.min (Int.toNat (Int.tmod n (32:Int))) (64:Nat)))))) (Int.toNat (i64.wrap (i64.wrap (t18+i64.wrap (Int.tdiv n (32:Int)))+1))) (ibits BinOp.or IntKind.u32 y7 (u32.wrap (Int.fdiv (u64.wrap (IntKind.wrap IntKind.u64 y*2^Min.min (Int.toNat (Int.tmod n (32:Int))) (64:Nat))) ((2:Int) ^32))))))))
   (Z (.inr (t18,t15)))
def whole_left.cd_s:Shape:=⟨[(0,ob1),(1,ob3),(4,ob24),(5,ob39),(16,ob1),(17,ob3),(18,ob3)],[(4,ob8),(15,ob8)]⟩
def whole_left.cd_r:Ck:=Ck.ofLoop (S:=(Int)×(List Int)) (T:=(Int)×(List Int)) whole_left.cd_s (fun X=>((q4 X).1,(q4 X).2.2.1)) (fun ρ X Q Z=>whole_left.cd_ X.2.1 X.2.2.1 X.2.2.2.1 Q.1 Q.2 Z) (fun ρ X V Z=>Z 2 (Shape.inj whole_left.cd_s (X.1,X.2.1,X.2.2.1,X.2.2.2.1,V.1,(q4 X).2.1,V.2,())))
def whole_left (a:List (Int)) (n:Int):Option ((List Int)×Unit):=
  bnd (okIf (decide ((0:Int)≤i64.wrap (i64.wrap ((a.length:Int)+i64.wrap (Int.tdiv n (32:Int)))+1))&&decide (i64.wrap (i64.wrap ((a.length:Int)+i64.wrap (Int.tdiv n (32:Int)))+1)≤i64.wrap (i64.wrap ((a.length:Int)+i64.wrap (Int.tdiv n (32:Int)))+1))&&decide (i64.wrap (i64.wrap ((a.length:Int)+i64.wrap (Int.tdiv n (32:Int)))+1)*(↑(4:Nat):Int)≤140737488355328)&&decide (i64.wrap (i64.wrap ((a.length:Int)+i64.wrap (Int.tdiv n (32:Int)))+1)≤140737488355328))) fun y=>
  bnd (iter (fun s↦whole_left.cd_ n a (a.length:Int) s.1 s.2 some) ((0:Int),List.replicate (Int.toNat (i64.wrap (i64.wrap ((a.length:Int)+i64.wrap (Int.tdiv n (32:Int)))+1))) (0:Int))) fun y1=>
  some (y1.2,())
def whole_left.mc:MCallee:=⟨96,whole_left.pre,whole_left.post,fun X=>whole_left X.1 X.2.1⟩
def whole_left.G:Env:=⟨54,tab,[],[0,1,4,5,6,7,8,16,17,18,19],[4,15],[],[(100003,whole_left.cd_r)],[],jE,[]⟩
theorem whole_left.p0:PcA whole_left.G Tryz.f96 0:=
  Ja (s:=whole_left.cd_r) (by kernel_rfl) (by kernel_rfl) (jU (sh:=whole_left.cd_s) (I:=fun X Q=>(X.1,X.2.1,X.2.2.1,X.2.2.2.1,Q.1,(q4 X).2.1,Q.2,())) (fun X=>rfl) (fun ρ X Q Z=>(jl (jb fun _=>(jb fun _=>(jb fun _=>(jb fun _=>(jb fun _=>(jb fun _=>(jb fun _=>(jb fun _=>(jb fun _=>(jb fun _=>jc)))))))))) jc)) (fun ρ X t k=>(by kernel_rfl)) (fun X s=>by kernel_rfl))
theorem whole_left.ok:MOk Tryz.prog 96 whole_left.mc:=Ug (mc:=whole_left.mc) (G:=whole_left.G) jM mixed Tryz.func96 ⟨jF,jA,jo,jz⟩ (m:=1) (by kernel_rfl) ⟨trivial,whole_left.p0⟩ (by kernel_rfl) (fun _=>by kernel_rfl)
abbrev ob40:SD:=.one (.val (.int .u32))
abbrev ob41:SD:=.one (.own 54 0)
def whole_right.c3 (a:List (Int))(n:Int)(Z:Bool→Option ρ):Option ρ:=
  bnd (idx a (i64.wrap (Int.tdiv n (32:Int)))) fun y=>
  bnd (okIf (decide ((0:Int)≤i64.wrap ((32:Int)-Int.tmod n (32:Int))))) fun y1=>
  br (u32.wrap (y*2^Min.min (Int.toNat (i64.wrap ((32:Int)-Int.tmod n (32:Int)))) (32:Nat)) !=0)
   (Z (decide (Int.tmod n (32:Int)>0)))
   (Z false)
def whole_right.c3s:Shape:=⟨[(0,ob1),(1,ob3),(4,ob1),(5,ob0)],[]⟩
def whole_right.c3x0:Shape:=⟨[(0,ob1),(1,ob3),(4,ob1),(5,ob0),(6,ob0)],[]⟩
def whole_right.c3r:Ck:=Ck.of (T:=Bool) whole_right.c3s (fun ρ X Z=>whole_right.c3 X.1 X.2.1 Z) (fun ρ X V Z=>Z 0 (Shape.inj whole_right.c3x0 (X.1,X.2.1,X.2.2.1,X.2.2.2.1,V,())))
def whole_right.c7 (lost:Bool)(x:Int)(Z:Bool→Option ρ):Option ρ:=
  br lost
   (Z true)
   (Z (x !=0))
def whole_right.c7s:Shape:=⟨[(0,ob1),(1,ob3),(4,ob1),(5,ob0),(6,ob0),(8,ob40),(37,ob1),(38,ob3),(39,ob3)],[]⟩
def whole_right.c7r:Ck:=Ck.of (T:=Bool) whole_right.c7s (fun ρ X Z=>whole_right.c7 (q4 X).1 (q4 X).2.1 Z) (fun ρ X V Z=>Z 0 (Shape.inj whole_right.c7s (X.1,X.2.1,X.2.2.1,X.2.2.2.1,V,(q4 X).2)))
def whole_right.cc_ (lost:Bool)(t37:List (Int))(t38:Int)(t39:Int)(Z:(Bool×(Int))⊕(Bool×(Int))→Option ρ):Option ρ:=
  br (decide (t39<t38))
   (bnd (idx t37 t39) fun y=>
    bnd (whole_right.c7 lost y some) fun y1=>
    Z (.inl (y1,(i64.wrap (t39+1)))))
   (Z (.inr (lost,t39)))
def whole_right.cc_s:Shape:=⟨[(0,ob1),(1,ob3),(4,ob1),(5,ob0),(6,ob0),(37,ob1),(38,ob3),(39,ob3)],[]⟩
def whole_right.cc_r:Ck:=Ck.ofLoop (S:=Bool×(Int)) (T:=Bool×(Int)) whole_right.cc_s (fun X=>((q4 X).1,(q4 X).2.2.2.1)) (fun ρ X Q Z=>whole_right.cc_ Q.1 (q4 X).2.1 (q4 X).2.2.1 Q.2 Z) (fun ρ X V Z=>Z 2 (Shape.inj whole_right.cc_s (X.1,X.2.1,X.2.2.1,X.2.2.2.1,V.1,(q4 X).2.1,(q4 X).2.2.1,V.2,())))
def whole_right.c14 (a:List (Int))(n:Int)(i:Int)(Z:Bool→Option ρ):Option ρ:=
  br (decide (i64.wrap (i64.wrap (i+i64.wrap (Int.tdiv n (32:Int)))+1)<(a.length:Int)))
   (Z (decide (Int.tmod n (32:Int)>0)))
   (Z false)
def whole_right.c14s:Shape:=⟨[(0,ob1),(1,ob3),(4,ob1),(5,ob0),(6,ob0),(9,ob41),(10,ob3),(37,ob1),(38,ob3),(39,ob3),(56,ob3),(57,ob3)],[(54,ob8)]⟩
def whole_right.c14x0:Shape:=⟨[(0,ob1),(1,ob3),(4,ob1),(5,ob0),(6,ob0),(9,ob41),(10,ob3),(37,ob1),(38,ob3),(39,ob3),(56,ob3),(57,ob3),(85,ob0)],[(54,ob8)]⟩
def whole_right.c14r:Ck:=Ck.of (T:=Bool) whole_right.c14s (fun ρ X Z=>whole_right.c14 X.1 X.2.1 (q4 X).2.1 Z) (fun ρ X V Z=>Z 0 (Shape.inj whole_right.c14x0 (X.1,X.2.1,X.2.2.1,X.2.2.2.1,(q4 X).1,(q4 X).2.1,(q4 X).2.2.1,(q4 X).2.2.2.1,(q8 X).1,(q8 X).2.1,(q8 X).2.2.1,V,(q8 X).2.2.2)))
def whole_right.c15 (a:List (Int))(n:Int)(i:Int)(t54:List (Int))(Z:List (Int)→Option ρ):Option ρ:=
  bnd (inR (t54.length) i) fun y=>
  bnd (idx t54 i) fun y1=>
  bnd (idx a (i64.wrap (i64.wrap (i+i64.wrap (Int.tdiv n (32:Int)))+1))) fun y2=>
  bnd (okIf (decide ((0:Int)≤i64.wrap ((32:Int)-Int.tmod n (32:Int))))) fun y3=>
  bnd (inR (t54.length) i) fun y4=>
  bnd (idx t54 i) fun y5=>
  Z (List.set t54 (Int.toNat i) (ibits BinOp.or IntKind.u32 y1 (u32.wrap (y2*2^Min.min (Int.toNat (i64.wrap ((32:Int)-Int.tmod n (32:Int)))) (32:Nat)))))
def whole_right.c15r:Ck:=Ck.of (T:=List (Int)) whole_right.c14s (fun ρ X Z=>whole_right.c15 X.1 X.2.1 (q4 X).2.1 (q8 X).2.2.2.1 Z) (fun ρ X V Z=>Z 0 (Shape.inj whole_right.c14s (X.1,X.2.1,X.2.2.1,X.2.2.2.1,(q4 X).1,(q4 X).2.1,(q4 X).2.2.1,(q4 X).2.2.2.1,(q8 X).1,(q8 X).2.1,(q8 X).2.2.1,V,())))
def whole_right.cz_ (a:List (Int))(n:Int)(t57:Int)(t54:List (Int))(Z:List (Int)→Option ρ):Option ρ:=
  bnd (idx a (i64.wrap (t57+i64.wrap (Int.tdiv n (32:Int))))) fun y=>
  bnd (okIf (decide ((0:Int)≤Int.tmod n (32:Int)))) fun y1=>
  bnd (inR (t54.length) t57) fun y2=>
  bnd (idx t54 t57) fun y3=>
  bnd (whole_right.c14 a n t57 some) fun y4=>
  br y4
   (bnd (whole_right.c15 a n t57 (List.set t54 (Int.toNat t57) (Int.fdiv y ((2:Int)^Min.min (Int.toNat (Int.tmod n (32:Int))) (32:Nat)))) some) fun y5=>
    Z y5)
   (Z (List.set t54 (Int.toNat t57) (Int.fdiv y ((2:Int)^Min.min (Int.toNat (Int.tmod n (32:Int))) (32:Nat)))))
def whole_right.cz_s:Shape:=⟨[(0,ob1),(1,ob3),(4,ob1),(5,ob0),(6,ob0),(9,ob41),(37,ob1),(38,ob3),(39,ob3),(56,ob3),(57,ob3)],[(54,ob8)]⟩
def whole_right.cz_r:Ck:=Ck.of (T:=List (Int)) whole_right.cz_s (fun ρ X Z=>whole_right.cz_ X.1 X.2.1 (q8 X).2.1 (q8 X).2.2.1 Z) (fun ρ X V Z=>Z 0 (Shape.inj whole_right.cz_s (X.1,X.2.1,X.2.2.1,X.2.2.2.1,(q4 X).1,(q4 X).2.1,(q4 X).2.2.1,(q4 X).2.2.2.1,(q8 X).1,(q8 X).2.1,V,())))
def whole_right.ct_ (a:List (Int))(n:Int)(t56:Int)(t57:Int)(t54:List (Int))(Z:((Int)×(List Int))⊕((Int)×(List Int))→Option ρ):Option ρ:=
  br (decide (t57<t56))
   (bnd (whole_right.cz_ a n t57 t54 some) fun y=>
    Z (.inl ((i64.wrap (t57+1)),y)))
   (Z (.inr (t57,t54)))
def whole_right.ct_r:Ck:=Ck.ofLoop (S:=(Int)×(List Int)) (T:=(Int)×(List Int)) whole_right.cz_s (fun X=>((q8 X).2.1,(q8 X).2.2.1)) (fun ρ X Q Z=>whole_right.ct_ X.1 X.2.1 (q8 X).1 Q.1 Q.2 Z) (fun ρ X V Z=>Z 4 (Shape.inj whole_right.cz_s (X.1,X.2.1,X.2.2.1,X.2.2.2.1,(q4 X).1,(q4 X).2.1,(q4 X).2.2.1,(q4 X).2.2.2.1,(q8 X).1,V.1,V.2,())))
def whole_right (a:List (Int)) (n:Int):Option ((List Int)×Bool):=
  br (decide (i64.wrap (Int.tdiv n (32:Int))≥(a.length:Int)))
   (some ([],decide ((a.length:Int)>0)))
   (bnd (whole_right.c3 a n some) fun y=>
    bnd (okIf (decide ((0:Int)≤i64.wrap (Int.tdiv n (32:Int)))&&decide (i64.wrap (Int.tdiv n (32:Int))≤(a.length:Int)))) fun y1=>
    bnd (iter (fun s↦whole_right.cc_ s.1 (List.take (Int.toNat (i64.wrap (Int.tdiv n (32:Int)))) a) (↑(List.length (List.take (Int.toNat (i64.wrap (Int.tdiv n (32:Int)))) a)):Int) s.2 some) (y,(0:Int))) fun y2=>
    bnd (okIf (decide ((0:Int)≤i64.wrap ((a.length:Int)-i64.wrap (Int.tdiv n (32:Int))))&&decide (i64.wrap ((a.length:Int)-i64.wrap (Int.tdiv n (32:Int)))≤i64.wrap ((a.length:Int)-i64.wrap (Int.tdiv n (32:Int))))&&decide (i64.wrap ((a.length:Int)-i64.wrap (Int.tdiv n (32:Int)))*(↑(4:Nat):Int)≤140737488355328)&&decide (i64.wrap ((a.length:Int)-i64.wrap (Int.tdiv n (32:Int)))≤140737488355328))) fun y3=>
    bnd (iter (fun s↦whole_right.ct_ a n (↑(List.length (List.replicate (Int.toNat (i64.wrap ((a.length:Int)-i64.wrap (Int.tdiv n (32:Int))))) (0:Int))):Int) s.1 s.2 some) ((0:Int),List.replicate (Int.toNat (i64.wrap ((a.length:Int)-i64.wrap (Int.tdiv n (32:Int))))) (0:Int))) fun y4=>
    some (y4.2,y2.1))
def whole_right.ce:Go.Ql.Callee:=⟨[(.sl (.int .u32)),(.int .i64)],[(.sl (.int .u32)),.bool],fun X=>whole_right X.1 X.2⟩
def whole_right.G:Env:=⟨107,tab,[],[0,1,4,5,6,8,9,10,15,37,38,39,40,56,57,58,85],[54],[(15,[⟨[],[],[87,90,91,92,93,94,95,96,97,98,99,100,101],[]⟩,⟨[],[],[86,90,91,92,93,94,95,96,97,98,99,100,101],[]⟩,⟨[0,1],[],[90,91,92,93,94,95,96,97,98,99,100,101],[]⟩,⟨[2,0,1],[],[90,91,92,93,94,95,96,97,98,99,100,101],[]⟩,⟨[],[],[86,87,88,89,91,92,93,94,95,98,99,100],[]⟩,⟨[],[],[86,87,88,89,90,92,93,98,99,100],[]⟩,⟨[],[],[86,87,88,89,90,91,98,99,100],[]⟩,⟨[6],[],[86,87,88,89,90,91,98,99,100],[]⟩,⟨[5,7,6],[],[86,87,88,89,90,98,99,100],[]⟩,⟨[8,5,7,6],[],[86,87,88,89,90,98,99,100],[]⟩,⟨[4,9,8,5,7,6],[],[86,87,88,89,98,99,100],[]⟩,⟨[10,4,9,8,5,7,6],[],[86,87,88,89,98,99,100],[]⟩,⟨[],[],[86,87,88,89,90,91,92,93,94,95,96,97],[]⟩,⟨[12],[],[86,87,88,89,90,91,92,93,94,95,96,97],[]⟩,⟨[13,12],[],[86,87,88,89,90,91,92,93,94,95,96,97],[]⟩,⟨[11,10,4,9,8,5,7,6,14,13,12],[],[86,87,88,89],[]⟩,⟨[3,2,0,1,15,11,10,4,9,8,5,7,6,14,13,12],[],[],[]⟩,⟨[0,1,2,3,4,5,6,7,8,9,10,11,12,13,14,15,16],[],[],[]⟩,⟨[17,0,1,2,3,4,5,6,7,8,9,10,11,12,13,14,15,16],[54],[],[]⟩])],[(100011,whole_right.ct_r),(249162,whole_right.cz_r),(15,whole_right.c15r),(14,whole_right.c14r),(100005,whole_right.cc_r),(7,whole_right.c7r),(3,whole_right.c3r)],[],jE,[]⟩
theorem whole_right.p0:PcA whole_right.G Tryz.f97 0:=
  jv (s:=whole_right.c3r) (by kernel_rfl) (by kernel_rfl) (jp (sh:=whole_right.c3s) (fun ρ X Z=>(jb fun _=>(jb fun _=>(jl jc jc)))) (fun ρ X t k=>(by kernel_rfl)) (fun X=>by kernel_rfl))
theorem whole_right.p1:PcA whole_right.G Tryz.f97 1:=
  Ja (s:=whole_right.cc_r) (by kernel_rfl) (by kernel_rfl) (jU (sh:=whole_right.cc_s) (I:=fun X Q=>(X.1,X.2.1,X.2.2.1,X.2.2.2.1,Q.1,(q4 X).2.1,(q4 X).2.2.1,Q.2,())) (fun X=>rfl) (fun ρ X Q Z=>(jl (jb fun _=>(jb fun _=>jc)) jc)) (fun ρ X t k=>(by kernel_rfl)) (fun X s=>by kernel_rfl))
theorem whole_right.p2:PcA whole_right.G Tryz.f97 2:=
  jv (s:=whole_right.c7r) (by kernel_rfl) (by kernel_rfl) (jp (sh:=whole_right.c7s) (fun ρ X Z=>(jl jc jc)) (fun ρ X t k=>(by kernel_rfl)) (fun X=>by kernel_rfl))
theorem whole_right.p3:PcA whole_right.G Tryz.f97 3:=
  Ja (s:=whole_right.ct_r) (by kernel_rfl) (by kernel_rfl) (jU (sh:=whole_right.cz_s) (I:=fun X Q=>(X.1,X.2.1,X.2.2.1,X.2.2.2.1,(q4 X).1,(q4 X).2.1,(q4 X).2.2.1,(q4 X).2.2.2.1,(q8 X).1,Q.1,Q.2,())) (fun X=>rfl) (fun ρ X Q Z=>(jl (jb fun _=>jc) jc)) (fun ρ X t k=>(by kernel_rfl)) (fun X s=>by kernel_rfl))
theorem whole_right.p4:PcA whole_right.G Tryz.f97 4:=
  Jo (s:=whole_right.cz_r) (by kernel_rfl) (by kernel_rfl) (jp (sh:=whole_right.cz_s) (fun ρ X Z=>(jb fun _=>(jb fun _=>(jb fun _=>(jb fun _=>(jb fun _=>(jl (jb fun _=>jc) jc))))))) (fun ρ X t k=>(by kernel_rfl)) (fun X=>by kernel_rfl))
theorem whole_right.p5:PcA whole_right.G Tryz.f97 5:=
  jv (s:=whole_right.c14r) (by kernel_rfl) (by kernel_rfl) (jp (sh:=whole_right.c14s) (fun ρ X Z=>(jl jc jc)) (fun ρ X t k=>(by kernel_rfl)) (fun X=>by kernel_rfl))
theorem whole_right.p6:PcA whole_right.G Tryz.f97 6:=
  jv (s:=whole_right.c15r) (by kernel_rfl) (by kernel_rfl) (jp (sh:=whole_right.c14s) (fun ρ X Z=>(jb fun _=>(jb fun _=>(jb fun _=>(jb fun _=>(jb fun _=>(jb fun _=>jc))))))) (fun ρ X t k=>(by kernel_rfl)) (fun X=>by kernel_rfl))
theorem whole_right.ok:CalleeOk Tryz.prog 97 whole_right.ce:=fn_ok (G:=whole_right.G) jM mixed Tryz.func97 ⟨jF,jA,jo,jz⟩ (m:=7) (by kernel_rfl) ⟨⟨⟨⟨⟨⟨⟨trivial,whole_right.p0⟩,whole_right.p1⟩,whole_right.p2⟩,whole_right.p3⟩,whole_right.p4⟩,whole_right.p5⟩,whole_right.p6⟩ (by kernel_rfl) (fun _=>by kernel_rfl)
def whole_Int_Neg (a:Bool×(List Int)):Option (Bool×(List Int)):=
  bnd (whole_made (!a.1) a.2) fun y=>
  some (y.1,y.2)
def whole_Int_Neg.ce:Go.Ql.Callee:=⟨[(.st (.pair .bool (.sl (.int .u32))))],[(.st (.pair .bool (.sl (.int .u32))))],fun X=>whole_Int_Neg X⟩
def whole_Int_Neg.G:Env:=⟨9,tab,[(59,whole_made.ce)],[0,1,2],[],[],[],[],jE,[]⟩
theorem whole_Int_Neg.ok:CalleeOk Tryz.prog 52 whole_Int_Neg.ce:=fn_ok (G:=whole_Int_Neg.G) jM mixed Tryz.func52 ⟨(jh whole_made.ok jF),jA,jo,jz⟩ (m:=0) (by kernel_rfl) trivial (by kernel_rfl) (fun _=>by kernel_rfl)
def JX (x:Int) (y:Int) (carry:Int):Option ((Int)×(Int)):=
  some (u32.wrap (u64.wrap (u64.wrap (IntKind.wrap IntKind.u64 x+IntKind.wrap IntKind.u64 y)+IntKind.wrap IntKind.u64 carry)),u32.wrap (Int.fdiv (u64.wrap (u64.wrap (IntKind.wrap IntKind.u64 x+IntKind.wrap IntKind.u64 y)+IntKind.wrap IntKind.u64 carry)) ((2:Int) ^32)))
def JX.ce:Go.Ql.Callee:=⟨[(.int .u32),(.int .u32),(.int .u32)],[(.int .u32),(.int .u32)],fun X=>JX X.1 X.2.1 X.2.2⟩
def JX.G:Env:=⟨22,tab,[],[0,1,2,6,7,8],[],[],[],[],jE,[]⟩
theorem JX.ok:CalleeOk Tryz.prog 122 JX.ce:=fn_ok (G:=JX.G) jM mixed Tryz.func122 ⟨jF,jA,jo,jz⟩ (m:=0) (by kernel_rfl) trivial (by kernel_rfl) (fun _=>by kernel_rfl)
abbrev ob42:SD:=.one (.own 20 0)
def whole_sum.cv_ (a:List (Int))(b:List (Int))(Z:(List Int)×(List Int)→Option ρ):Option ρ:=
  br (decide ((a.length:Int)<(b.length:Int)))
   (Z (b,a))
   (Z (a,b))
def whole_sum.cv_s:Shape:=⟨[(0,ob1),(1,ob1),(4,ob1)],[]⟩
def whole_sum.cv_r:Ck:=Ck.of (T:=(List Int)×(List Int)) whole_sum.cv_s (fun ρ X Z=>whole_sum.cv_ X.1 X.2.1 Z) (fun ρ X V Z=>Z 0 (Shape.inj whole_sum.cv_s (V.1,V.2,X.2.2)))
def whole_sum.cK_ (b:List (Int))(i:Int)(y:Int)(Z:Int→Option ρ):Option ρ:=
  br (decide (i<(b.length:Int)))
   (bnd (idx b i) fun y1=>
    Z y1)
   (Z y)
def whole_sum.cK_s:Shape:=⟨[(0,ob1),(1,ob1),(4,ob1),(5,ob42),(6,ob40),(7,ob3),(8,ob40),(9,ob40),(21,ob1),(22,ob3),(23,ob3)],[(20,ob8)]⟩
def whole_sum.cK_r:Ck:=Ck.of (T:=Int) whole_sum.cK_s (fun ρ X Z=>whole_sum.cK_ X.2.1 (q4 X).1 (q4 X).2.2.1 Z) (fun ρ X V Z=>Z 0 (Shape.inj whole_sum.cK_s (X.1,X.2.1,X.2.2.1,X.2.2.2.1,(q4 X).1,(q4 X).2.1,V,(q4 X).2.2.2)))
def whole_sum.ch_ (b:List (Int))(c:Int)(t21:List (Int))(t22:Int)(t23:Int)(t20:List (Int))(Z:((Int)×(Int)×(List Int))⊕((Int)×(Int)×(List Int))→Option ρ):Option ρ:=
  br (decide (t23<t22))
   (bnd (idx t21 t23) fun y=>
    bnd (whole_sum.cK_ b t23 (0:Int) some) fun y1=>
    bnd (JX y y1 c) fun y2=>
    bnd (inR (t20.length) t23) fun y3=>
    bnd (idx t20 t23) fun y4=>
    Z (.inl (y2.2,(i64.wrap (t23+1)),(List.set t20 (Int.toNat t23) y2.1))))
   (Z (.inr (c,t23,t20)))
def whole_sum.ch_s:Shape:=⟨[(0,ob1),(1,ob1),(4,ob1),(5,ob42),(6,ob40),(21,ob1),(22,ob3),(23,ob3)],[(20,ob8)]⟩
def whole_sum.ch_r:Ck:=Ck.ofLoop (S:=(Int)×(Int)×(List Int)) (T:=(Int)×(Int)×(List Int)) whole_sum.ch_s (fun X=>(X.2.2.2.1,(q4 X).2.2.1,(q4 X).2.2.2.1)) (fun ρ X Q Z=>whole_sum.ch_ X.2.1 Q.1 (q4 X).1 (q4 X).2.1 Q.2.1 Q.2.2 Z) (fun ρ X V Z=>Z 2 (Shape.inj whole_sum.ch_s (X.1,X.2.1,X.2.2.1,V.1,(q4 X).1,(q4 X).2.1,V.2.1,V.2.2,())))
def whole_sum (a:List (Int)) (b:List (Int)):Option (List Int):=
  bnd (whole_sum.cv_ a b some) fun y=>
  bnd (okIf (decide ((0:Int)≤i64.wrap ((↑(List.length y.1):Int)+1))&&decide (i64.wrap ((↑(List.length y.1):Int)+1)≤i64.wrap ((↑(List.length y.1):Int)+1))&&decide (i64.wrap ((↑(List.length y.1):Int)+1)*(↑(4:Nat):Int)≤140737488355328)&&decide (i64.wrap ((↑(List.length y.1):Int)+1)≤140737488355328))) fun y1=>
  bnd (iter (fun s↦whole_sum.ch_ y.2 s.1 y.1 (↑(List.length y.1):Int) s.2.1 s.2.2 some) ((0:Int),(0:Int),List.replicate (Int.toNat (i64.wrap ((↑(List.length y.1):Int)+1))) (0:Int))) fun y2=>
  bnd (inR (List.length y2.2.2) (↑(List.length y.1):Int)) fun y3=>
  bnd (idx y2.2.2 (↑(List.length y.1):Int)) fun y4=>
  some (List.set y2.2.2 (Int.toNat (↑(List.length y.1):Int)) y2.1)
def whole_sum.ce:Go.Ql.Callee:=⟨[(.sl (.int .u32)),(.sl (.int .u32))],[(.sl (.int .u32))],fun X=>whole_sum X.1 X.2⟩
def whole_sum.G:Env:=⟨53,tab,[(122,JX.ce)],[0,1,4,5,6,7,8,9,14,21,22,23,24,31],[20],[],[(100006,whole_sum.ch_r),(236869,whole_sum.cK_r),(204101,whole_sum.cv_r)],[],jE,[]⟩
theorem whole_sum.p0:PcA whole_sum.G Tryz.f104 0:=
  Jo (s:=whole_sum.cv_r) (by kernel_rfl) (by kernel_rfl) (jp (sh:=whole_sum.cv_s) (fun ρ X Z=>(jl jc jc)) (fun ρ X t k=>(by kernel_rfl)) (fun X=>by kernel_rfl))
theorem whole_sum.p1:PcA whole_sum.G Tryz.f104 1:=
  Ja (s:=whole_sum.ch_r) (by kernel_rfl) (by kernel_rfl) (jU (sh:=whole_sum.ch_s) (I:=fun X Q=>(X.1,X.2.1,X.2.2.1,Q.1,(q4 X).1,(q4 X).2.1,Q.2.1,Q.2.2,())) (fun X=>rfl) (fun ρ X Q Z=>(jl (jb fun _=>(jb fun _=>(jb fun _=>(jb fun _=>(jb fun _=>jc))))) jc)) (fun ρ X t k=>(by kernel_rfl)) (fun X s=>by kernel_rfl))
theorem whole_sum.p2:PcA whole_sum.G Tryz.f104 2:=
  Jo (s:=whole_sum.cK_r) (by kernel_rfl) (by kernel_rfl) (jp (sh:=whole_sum.cK_s) (fun ρ X Z=>(jl (jb fun _=>jc) jc)) (fun ρ X t k=>(by kernel_rfl)) (fun X=>by kernel_rfl))
theorem whole_sum.ok:CalleeOk Tryz.prog 104 whole_sum.ce:=fn_ok (G:=whole_sum.G) jM mixed Tryz.func104 ⟨(jh JX.ok jF),jA,jo,jz⟩ (m:=3) (by kernel_rfl) ⟨⟨⟨trivial,whole_sum.p0⟩,whole_sum.p1⟩,whole_sum.p2⟩ (by kernel_rfl) (fun _=>by kernel_rfl)
def cmp_isNaN_int (x:Int):Option Bool:=
  some (x !=x)
def cmp_isNaN_int.ce:Go.Ql.Callee:=⟨[(.int .i64)],[.bool],fun X=>cmp_isNaN_int X⟩
def cmp_isNaN_int.G:Env:=⟨6,tab,[],[0,2],[],[],[],[],jE,[]⟩
theorem cmp_isNaN_int.ok:CalleeOk Tryz.prog 137 cmp_isNaN_int.ce:=fn_ok (G:=cmp_isNaN_int.G) jM mixed Tryz.func137 ⟨jF,jA,jo,jz⟩ (m:=0) (by kernel_rfl) trivial (by kernel_rfl) (fun _=>by kernel_rfl)
def cmp_Compare_int (x:Int) (y:Int):Option (Int):=
  bnd (cmp_isNaN_int x) fun y1=>
  bnd (cmp_isNaN_int y) fun y2=>
  br y1
   (br y2
     (some (0:Int))
     (some (-1:Int)))
   (br y2
     (some (1:Int))
     (br (decide (x<y))
       (some (-1:Int))
       (br (decide (x>y))
         (some (1:Int))
         (some (0:Int)))))
def cmp_Compare_int.ce:Go.Ql.Callee:=⟨[(.int .i64),(.int .i64)],[(.int .i64)],fun X=>cmp_Compare_int X.1 X.2⟩
def cmp_Compare_int.G:Env:=⟨20,tab,[(137,cmp_isNaN_int.ce)],[0,1,4,5,6,11,12,13,16,19],[],[],[],[],jE,[]⟩
theorem cmp_Compare_int.ok:CalleeOk Tryz.prog 123 cmp_Compare_int.ce:=fn_ok (G:=cmp_Compare_int.G) jM mixed Tryz.func123 ⟨(jh cmp_isNaN_int.ok jF),jA,jo,jz⟩ (m:=0) (by kernel_rfl) trivial (by kernel_rfl) (fun _=>by kernel_rfl)
def cmp_isNaN_uint32 (x:Int):Option Bool:=
  some (x !=x)
def cmp_isNaN_uint32.ce:Go.Ql.Callee:=⟨[(.int .u32)],[.bool],fun X=>cmp_isNaN_uint32 X⟩
def cmp_isNaN_uint32.G:Env:=⟨6,tab,[],[0,2],[],[],[],[],jE,[]⟩
theorem cmp_isNaN_uint32.ok:CalleeOk Tryz.prog 138 cmp_isNaN_uint32.ce:=fn_ok (G:=cmp_isNaN_uint32.G) jM mixed Tryz.func138 ⟨jF,jA,jo,jz⟩ (m:=0) (by kernel_rfl) trivial (by kernel_rfl) (fun _=>by kernel_rfl)
def cmp_Compare_uint32 (x:Int) (y:Int):Option (Int):=
  bnd (cmp_isNaN_uint32 x) fun y1=>
  bnd (cmp_isNaN_uint32 y) fun y2=>
  br y1
   (br y2
     (some (0:Int))
     (some (-1:Int)))
   (br y2
     (some (1:Int))
     (br (decide (x<y))
       (some (-1:Int))
       (br (decide (x>y))
         (some (1:Int))
         (some (0:Int)))))
def cmp_Compare_uint32.ce:Go.Ql.Callee:=⟨[(.int .u32),(.int .u32)],[(.int .i64)],fun X=>cmp_Compare_uint32 X.1 X.2⟩
def cmp_Compare_uint32.G:Env:=⟨20,tab,[(138,cmp_isNaN_uint32.ce)],[0,1,4,5,6,11,12,13,16,19],[],[],[],[],jE,[]⟩
theorem cmp_Compare_uint32.ok:CalleeOk Tryz.prog 124 cmp_Compare_uint32.ce:=fn_ok (G:=cmp_Compare_uint32.G) jM mixed Tryz.func124 ⟨(jh cmp_isNaN_uint32.ok jF),jA,jo,jz⟩ (m:=0) (by kernel_rfl) trivial (by kernel_rfl) (fun _=>by kernel_rfl)
def whole_order.c7 (a:List (Int))(b:List (Int))(i:Int)(Z:Int→Option ρ):Option ρ:=
  bnd (idx a i) fun y=>
  bnd (idx b i) fun y1=>
  bnd (cmp_Compare_uint32 y y1) fun y2=>
  Z y2
def whole_order.c7s:Shape:=⟨[(0,ob1),(1,ob1),(4,ob3),(5,ob3),(6,ob3)],[]⟩
def whole_order.c7x0:Shape:=⟨[(0,ob1),(1,ob1),(4,ob3),(5,ob3),(6,ob3),(7,ob3)],[]⟩
def whole_order.c7r:Ck:=Ck.of (T:=Int) whole_order.c7s (fun ρ X Z=>whole_order.c7 X.1 X.2.1 (q4 X).1 Z) (fun ρ X V Z=>Z 0 (Shape.inj whole_order.c7x0 (X.1,X.2.1,X.2.2.1,X.2.2.2.1,(q4 X).1,V,())))
def whole_order.cc_ (a:List (Int))(b:List (Int))(i:Int)(Z:(Int)⊕(((Int)×(Int))⊕(Int))→Option ρ):Option ρ:=
  br (decide (i≥0))
   (bnd (whole_order.c7 a b i some) fun y=>
    br (y !=0)
     (Z (.inr (.inl (y,i))))
     (Z (.inl (i64.wrap (i-1)))))
   (Z (.inr (.inr i)))
def whole_order.cc_r:Ck:=Ck.ofLoop (S:=Int) (T:=((Int)×(Int))⊕(Int)) whole_order.c7s (fun X=>(q4 X).1) (fun ρ X Q Z=>whole_order.cc_ X.1 X.2.1 Q Z) (fun ρ X V Z=>sel V (fun V=>Z 1 (Shape.inj whole_order.c7s (X.1,X.2.1,V.1,X.2.2.2.1,V.2,()))) (fun V=>Z 2 (Shape.inj whole_order.c7s (X.1,X.2.1,X.2.2.1,X.2.2.2.1,V,()))))
def whole_order (a:List (Int)) (b:List (Int)):Option (Int):=
  bnd (cmp_Compare_int (a.length:Int) (b.length:Int)) fun y=>
  br (y !=0)
   (some y)
   (bnd (iter (fun s↦whole_order.cc_ a b s some) (i64.wrap ((a.length:Int)-1))) fun y1=>
    sel y1
     (fun u=>some u.1)
     (fun v=>some (0:Int)))
def whole_order.ce:Go.Ql.Callee:=⟨[(.sl (.int .u32)),(.sl (.int .u32))],[(.int .i64)],fun X=>whole_order X.1 X.2⟩
def whole_order.G:Env:=⟨35,tab,[(123,cmp_Compare_int.ce),(124,cmp_Compare_uint32.ce)],[0,1,4,5,6,7,14,20,33],[],[(7,[⟨[],[],[24,27,28,29,30],[]⟩,⟨[],[],[23,27,28,29,30],[]⟩,⟨[0,1],[],[27,28,29,30],[]⟩,⟨[2,0,1],[],[27,28,29,30],[]⟩,⟨[],[],[23,24,25,26,28],[]⟩,⟨[],[],[23,24,25,26,27],[]⟩,⟨[4,5],[],[23,24,25,26],[]⟩,⟨[6,4,5],[],[23,24,25,26],[]⟩,⟨[3,2,0,1,7,6,4,5],[],[],[]⟩,⟨[8,3,2,0,1,7,6,4,5],[],[],[]⟩])],[(100005,whole_order.cc_r),(7,whole_order.c7r)],[],jE,[]⟩
theorem whole_order.p0:PcA whole_order.G Tryz.f105 0:=
  Ja (s:=whole_order.cc_r) (by kernel_rfl) (by kernel_rfl) (jU (sh:=whole_order.c7s) (I:=fun X Q=>(X.1,X.2.1,X.2.2.1,X.2.2.2.1,Q,())) (fun X=>rfl) (fun ρ X Q Z=>(jl (jb fun _=>(jl jc jc)) jc)) (fun ρ X t k=>(kj (fun _=>(by kernel_rfl)) (fun _=>(by kernel_rfl)))) (fun X s=>by kernel_rfl))
theorem whole_order.p1:PcA whole_order.G Tryz.f105 1:=
  jv (s:=whole_order.c7r) (by kernel_rfl) (by kernel_rfl) (jp (sh:=whole_order.c7s) (fun ρ X Z=>(jb fun _=>(jb fun _=>(jb fun _=>jc)))) (fun ρ X t k=>(by kernel_rfl)) (fun X=>by kernel_rfl))
theorem whole_order.ok:CalleeOk Tryz.prog 105 whole_order.ce:=fn_ok (G:=whole_order.G) jM mixed Tryz.func105 ⟨(jh cmp_Compare_int.ok (jh cmp_Compare_uint32.ok jF)),jA,jo,jz⟩ (m:=2) (by kernel_rfl) ⟨⟨trivial,whole_order.p0⟩,whole_order.p1⟩ (by kernel_rfl) (fun _=>by kernel_rfl)
def kc (x:Int) (y:Int) (borrow:Int):Option ((Int)×(Int)):=
  some (u32.wrap (u32.wrap (x-y)-borrow),Int.fdiv (ibits BinOp.or IntKind.u32 (ibits BinOp.and IntKind.u32 (ibits BinOp.xor IntKind.u32 (Int.ofNat (nat_lit 2 ^32-Nat.succ (nat_lit 0))) x) y) (ibits BinOp.and IntKind.u32 (ibits BinOp.xor IntKind.u32 (Int.ofNat (nat_lit 2 ^32-Nat.succ (nat_lit 0))) (ibits BinOp.xor IntKind.u32 x y)) (u32.wrap (u32.wrap (x-y)-borrow)))) ((2:Int) ^31))
def kc.ce:Go.Ql.Callee:=⟨[(.int .u32),(.int .u32),(.int .u32)],[(.int .u32),(.int .u32)],fun X=>kc X.1 X.2.1 X.2.2⟩
def kc.G:Env:=⟨25,tab,[],[0,1,2,6,7],[],[],[],[],jE,[]⟩
theorem kc.ok:CalleeOk Tryz.prog 125 kc.ce:=fn_ok (G:=kc.G) jM mixed Tryz.func125 ⟨jF,jA,jo,jz⟩ (m:=0) (by kernel_rfl) trivial (by kernel_rfl) (fun _=>by kernel_rfl)
abbrev ob43:SD:=.one (.own 12 0)
def whole_less.cm_ (b:List (Int))(i:Int)(y:Int)(Z:Int→Option ρ):Option ρ:=
  br (decide (i<(b.length:Int)))
   (bnd (idx b i) fun y1=>
    Z y1)
   (Z y)
def whole_less.cm_s:Shape:=⟨[(0,ob1),(1,ob1),(4,ob1),(5,ob43),(6,ob40),(7,ob3),(8,ob40),(9,ob40),(13,ob1),(14,ob3),(15,ob3)],[(12,ob8)]⟩
def whole_less.cm_r:Ck:=Ck.of (T:=Int) whole_less.cm_s (fun ρ X Z=>whole_less.cm_ X.2.1 (q4 X).1 (q4 X).2.2.1 Z) (fun ρ X V Z=>Z 0 (Shape.inj whole_less.cm_s (X.1,X.2.1,X.2.2.1,X.2.2.2.1,(q4 X).1,(q4 X).2.1,V,(q4 X).2.2.2)))
def whole_less.cb_ (b:List (Int))(c:Int)(t13:List (Int))(t14:Int)(t15:Int)(t12:List (Int))(Z:((Int)×(Int)×(List Int))⊕((Int)×(Int)×(List Int))→Option ρ):Option ρ:=
  br (decide (t15<t14))
   (bnd (idx t13 t15) fun y=>
    bnd (whole_less.cm_ b t15 (0:Int) some) fun y1=>
    bnd (kc y y1 c) fun y2=>
    bnd (inR (t12.length) t15) fun y3=>
    bnd (idx t12 t15) fun y4=>
    Z (.inl (y2.2,(i64.wrap (t15+1)),(List.set t12 (Int.toNat t15) y2.1))))
   (Z (.inr (c,t15,t12)))
def whole_less.cb_s:Shape:=⟨[(0,ob1),(1,ob1),(4,ob1),(5,ob43),(6,ob40),(13,ob1),(14,ob3),(15,ob3)],[(12,ob8)]⟩
def whole_less.cb_r:Ck:=Ck.ofLoop (S:=(Int)×(Int)×(List Int)) (T:=(Int)×(Int)×(List Int)) whole_less.cb_s (fun X=>(X.2.2.2.1,(q4 X).2.2.1,(q4 X).2.2.2.1)) (fun ρ X Q Z=>whole_less.cb_ X.2.1 Q.1 (q4 X).1 (q4 X).2.1 Q.2.1 Q.2.2 Z) (fun ρ X V Z=>Z 2 (Shape.inj whole_less.cb_s (X.1,X.2.1,X.2.2.1,V.1,(q4 X).1,(q4 X).2.1,V.2.1,V.2.2,())))
def whole_less (a:List (Int)) (b:List (Int)):Option (List Int):=
  bnd (okIf (decide ((0:Int)≤(a.length:Int))&&decide ((a.length:Int)≤(a.length:Int))&&decide ((a.length:Int)*(↑(4:Nat):Int)≤140737488355328)&&decide ((a.length:Int)≤140737488355328))) fun y=>
  bnd (iter (fun s↦whole_less.cb_ b s.1 a (a.length:Int) s.2.1 s.2.2 some) ((0:Int),(0:Int),List.replicate (Int.toNat (a.length:Int)) (0:Int))) fun y1=>
  some y1.2.2
def whole_less.ce:Go.Ql.Callee:=⟨[(.sl (.int .u32)),(.sl (.int .u32))],[(.sl (.int .u32))],fun X=>whole_less X.1 X.2⟩
def whole_less.G:Env:=⟨40,tab,[(125,kc.ce)],[0,1,4,5,6,7,8,9,13,14,15,16,23],[12],[],[(100004,whole_less.cb_r),(228677,whole_less.cm_r)],[],jE,[]⟩
theorem whole_less.p0:PcA whole_less.G Tryz.f106 0:=
  Ja (s:=whole_less.cb_r) (by kernel_rfl) (by kernel_rfl) (jU (sh:=whole_less.cb_s) (I:=fun X Q=>(X.1,X.2.1,X.2.2.1,Q.1,(q4 X).1,(q4 X).2.1,Q.2.1,Q.2.2,())) (fun X=>rfl) (fun ρ X Q Z=>(jl (jb fun _=>(jb fun _=>(jb fun _=>(jb fun _=>(jb fun _=>jc))))) jc)) (fun ρ X t k=>(by kernel_rfl)) (fun X s=>by kernel_rfl))
theorem whole_less.p1:PcA whole_less.G Tryz.f106 1:=
  Jo (s:=whole_less.cm_r) (by kernel_rfl) (by kernel_rfl) (jp (sh:=whole_less.cm_s) (fun ρ X Z=>(jl (jb fun _=>jc) jc)) (fun ρ X t k=>(by kernel_rfl)) (fun X=>by kernel_rfl))
theorem whole_less.ok:CalleeOk Tryz.prog 106 whole_less.ce:=fn_ok (G:=whole_less.G) jM mixed Tryz.func106 ⟨(jh kc.ok jF),jA,jo,jz⟩ (m:=2) (by kernel_rfl) ⟨⟨trivial,whole_less.p0⟩,whole_less.p1⟩ (by kernel_rfl) (fun _=>by kernel_rfl)
def whole_Int_Add.c2 (a0:Bool)(a1:List (Int))(b1:List (Int))(Z:Bool×(List Int)→Option ρ):Option ρ:=
  bnd (whole_sum a1 b1) fun y=>
  bnd (whole_made a0 y) fun y1=>
  Z (y1.1,y1.2)
def whole_Int_Add.c2s:Shape:=⟨[(0,ob11),(1,ob11),(2,ob5),(3,ob28),(4,ob2)],[(2,ob4),(3,ob4),(4,ob4)]⟩
def whole_Int_Add.c2r:Ck:=Ck.of (T:=Bool×(List Int)) whole_Int_Add.c2s (fun ρ X Z=>whole_Int_Add.c2 X.2.2.1 X.2.2.2.1 (q4 X).2.1 Z) (fun ρ X V Z=>Z 0 (Shape.inj whole_Int_Add.c2s (X.1,X.2.1,X.2.2.1,X.2.2.2.1,(q4 X).1,(q4 X).2.1,V.1,V.2,())))
def whole_Int_Add.c4 (a0:Bool)(a1:List (Int))(b1:List (Int))(Z:Bool×(List Int)→Option ρ):Option ρ:=
  bnd (whole_less a1 b1) fun y=>
  bnd (whole_made a0 y) fun y1=>
  Z (y1.1,y1.2)
def whole_Int_Add.c4r:Ck:=Ck.of (T:=Bool×(List Int)) whole_Int_Add.c2s (fun ρ X Z=>whole_Int_Add.c4 X.2.2.1 X.2.2.2.1 (q4 X).2.1 Z) (fun ρ X V Z=>Z 0 (Shape.inj whole_Int_Add.c2s (X.1,X.2.1,X.2.2.1,X.2.2.2.1,(q4 X).1,(q4 X).2.1,V.1,V.2,())))
def whole_Int_Add.c5 (a1:List (Int))(b0:Bool)(b1:List (Int))(Z:Bool×(List Int)→Option ρ):Option ρ:=
  bnd (whole_less b1 a1) fun y=>
  bnd (whole_made b0 y) fun y1=>
  Z (y1.1,y1.2)
def whole_Int_Add.c5r:Ck:=Ck.of (T:=Bool×(List Int)) whole_Int_Add.c2s (fun ρ X Z=>whole_Int_Add.c5 X.2.2.2.1 (q4 X).1 (q4 X).2.1 Z) (fun ρ X V Z=>Z 0 (Shape.inj whole_Int_Add.c2s (X.1,X.2.1,X.2.2.1,X.2.2.2.1,(q4 X).1,(q4 X).2.1,V.1,V.2,())))
def whole_Int_Add (a:Bool×(List Int)) (b:Bool×(List Int)):Option (Bool×(List Int)):=
  br (a.1==b.1)
   (bnd (whole_Int_Add.c2 a.1 a.2 b.2 some) fun y=>
    some (y.1,y.2))
   (bnd (whole_order a.2 b.2) fun y1=>
    br (decide (y1≥0))
     (bnd (whole_Int_Add.c4 a.1 a.2 b.2 some) fun y2=>
      some (y2.1,y2.2))
     (bnd (whole_Int_Add.c5 a.2 b.1 b.2 some) fun y3=>
      some (y3.1,y3.2)))
def whole_Int_Add.ce:Go.Ql.Callee:=⟨[(.st (.pair .bool (.sl (.int .u32)))),(.st (.pair .bool (.sl (.int .u32))))],[(.st (.pair .bool (.sl (.int .u32))))],fun X=>whole_Int_Add X.1 X.2⟩
def whole_Int_Add.G:Env:=⟨40,tab,[(104,whole_sum.ce),(59,whole_made.ce),(105,whole_order.ce),(106,whole_less.ce)],[0,1,2,3,4,9,23],[],[(5,[⟨[],[],[34,35,36,37,38],[]⟩,⟨[0],[],[34,35,36,37,38],[]⟩,⟨[],[],[32,33,36,37],[]⟩,⟨[2],[],[32,33,36,37],[]⟩,⟨[],[],[32,33,34,35],[]⟩,⟨[4],[],[32,33,34,35],[]⟩,⟨[3,2,5,4],[],[32,33],[]⟩,⟨[1,0,6,3,2,5,4],[],[],[]⟩,⟨[7,1,0,6,3,2,5,4],[4],[],[]⟩]),
  (4,[⟨[],[],[26,27,28,29,30],[]⟩,⟨[0],[],[26,27,28,29,30],[]⟩,⟨[],[],[24,25,28,29],[]⟩,⟨[2],[],[24,25,28,29],[]⟩,⟨[],[],[24,25,26,27],[]⟩,⟨[4],[],[24,25,26,27],[]⟩,⟨[3,2,5,4],[],[24,25],[]⟩,⟨[1,0,6,3,2,5,4],[],[],[]⟩,⟨[7,1,0,6,3,2,5,4],[4],[],[]⟩]),
  (2,[⟨[],[],[12,13,14,15,16],[]⟩,⟨[0],[],[12,13,14,15,16],[]⟩,⟨[],[],[10,11,14,15],[]⟩,⟨[2],[],[10,11,14,15],[]⟩,⟨[],[],[10,11,12,13],[]⟩,⟨[4],[],[10,11,12,13],[]⟩,⟨[3,2,5,4],[],[10,11],[]⟩,⟨[1,0,6,3,2,5,4],[],[],[]⟩,⟨[7,1,0,6,3,2,5,4],[4],[],[]⟩])],[(5,whole_Int_Add.c5r),(4,whole_Int_Add.c4r),(2,whole_Int_Add.c2r)],[],jE,[]⟩
theorem whole_Int_Add.p0:PcA whole_Int_Add.G Tryz.f81 0:=
  jv (s:=whole_Int_Add.c2r) (by kernel_rfl) (by kernel_rfl) (jp (sh:=whole_Int_Add.c2s) (fun ρ X Z=>(jb fun _=>(jb fun _=>jc))) (fun ρ X t k=>(by kernel_rfl)) (fun X=>by kernel_rfl))
theorem whole_Int_Add.p1:PcA whole_Int_Add.G Tryz.f81 1:=
  jv (s:=whole_Int_Add.c4r) (by kernel_rfl) (by kernel_rfl) (jp (sh:=whole_Int_Add.c2s) (fun ρ X Z=>(jb fun _=>(jb fun _=>jc))) (fun ρ X t k=>(by kernel_rfl)) (fun X=>by kernel_rfl))
theorem whole_Int_Add.p2:PcA whole_Int_Add.G Tryz.f81 2:=
  jv (s:=whole_Int_Add.c5r) (by kernel_rfl) (by kernel_rfl) (jp (sh:=whole_Int_Add.c2s) (fun ρ X Z=>(jb fun _=>(jb fun _=>jc))) (fun ρ X t k=>(by kernel_rfl)) (fun X=>by kernel_rfl))
theorem whole_Int_Add.ok:CalleeOk Tryz.prog 81 whole_Int_Add.ce:=fn_ok (G:=whole_Int_Add.G) jM mixed Tryz.func81 ⟨(jh whole_sum.ok (jh whole_made.ok (jh whole_order.ok (jh whole_less.ok jF)))),jA,jo,jz⟩ (m:=3) (by kernel_rfl) ⟨⟨⟨trivial,whole_Int_Add.p0⟩,whole_Int_Add.p1⟩,whole_Int_Add.p2⟩ (by kernel_rfl) (fun _=>by kernel_rfl)
def whole_Int_Sub.c1 (a0:Bool)(a1:List (Int))(b0:Bool)(b1:List (Int))(Z:Bool×(List Int)→Option ρ):Option ρ:=
  bnd (whole_Int_Neg (b0,b1)) fun y=>
  bnd (whole_Int_Add (a0,a1) y) fun y1=>
  Z (y1.1,y1.2)
def whole_Int_Sub.c1s:Shape:=⟨[(0,ob11),(1,ob11),(2,ob5),(3,ob28),(4,ob2)],[(2,ob4),(3,ob4),(4,ob4)]⟩
def whole_Int_Sub.c1r:Ck:=Ck.of (T:=Bool×(List Int)) whole_Int_Sub.c1s (fun ρ X Z=>whole_Int_Sub.c1 X.2.2.1 X.2.2.2.1 (q4 X).1 (q4 X).2.1 Z) (fun ρ X V Z=>Z 0 (Shape.inj whole_Int_Sub.c1s (X.1,X.2.1,X.2.2.1,X.2.2.2.1,(q4 X).1,(q4 X).2.1,V.1,V.2,())))
def whole_Int_Sub (a:Bool×(List Int)) (b:Bool×(List Int)):Option (Bool×(List Int)):=
  bnd (whole_Int_Sub.c1 a.1 a.2 b.1 b.2 some) fun y=>
  some (y.1,y.2)
def whole_Int_Sub.ce:Go.Ql.Callee:=⟨[(.st (.pair .bool (.sl (.int .u32)))),(.st (.pair .bool (.sl (.int .u32))))],[(.st (.pair .bool (.sl (.int .u32))))],fun X=>whole_Int_Sub X.1 X.2⟩
def whole_Int_Sub.G:Env:=⟨9,tab,[(52,whole_Int_Neg.ce),(81,whole_Int_Add.ce)],[0,1,2,3,4],[],[(1,[⟨[],[],[6,7],[]⟩,⟨[],[],[5],[]⟩,⟨[1],[],[5],[]⟩,⟨[0,2,1],[],[],[]⟩,⟨[3,0,2,1],[4],[],[]⟩])],[(1,whole_Int_Sub.c1r)],[],jE,[]⟩
theorem whole_Int_Sub.p0:PcA whole_Int_Sub.G Tryz.f98 0:=
  jv (s:=whole_Int_Sub.c1r) (by kernel_rfl) (by kernel_rfl) (jp (sh:=whole_Int_Sub.c1s) (fun ρ X Z=>(jb fun _=>(jb fun _=>jc))) (fun ρ X t k=>(by kernel_rfl)) (fun X=>by kernel_rfl))
theorem whole_Int_Sub.ok:CalleeOk Tryz.prog 98 whole_Int_Sub.ce:=fn_ok (G:=whole_Int_Sub.G) jM mixed Tryz.func98 ⟨(jh whole_Int_Neg.ok (jh whole_Int_Add.ok jF)),jA,jo,jz⟩ (m:=1) (by kernel_rfl) ⟨trivial,whole_Int_Sub.p0⟩ (by kernel_rfl) (fun _=>by kernel_rfl)
abbrev ob44:SD:=.one (.ref 5 0)
abbrev ob45:SD:=.one (.ref 8 0)
def whole_Int_Shift.c1 (n:Int)(Z:Bool→Option ρ):Option ρ:=
  br (decide (n<(-10000:Int)))
   (Z true)
   (Z (decide (n>10000)))
def whole_Int_Shift.c1s:Shape:=⟨[(0,ob11),(1,ob3),(2,ob5),(4,ob2),(5,ob44)],[(2,ob4),(4,ob4),(5,ob37)]⟩
def whole_Int_Shift.c1x0:Shape:=⟨[(0,ob11),(1,ob3),(2,ob5),(4,ob2),(5,ob44),(14,ob0)],[(2,ob4),(4,ob4),(5,ob37)]⟩
def whole_Int_Shift.c1r:Ck:=Ck.of (T:=Bool) whole_Int_Shift.c1s (fun ρ X Z=>whole_Int_Shift.c1 X.2.1 Z) (fun ρ X V Z=>Z 0 (Shape.inj whole_Int_Shift.c1x0 (X.1,X.2.1,V,X.2.2)))
def whole_Int_Shift.c4 (n:Int)(a0:Bool)(a1:List (Int))(Z:Bool×(List Int)→Option ρ):Option ρ:=
  bnd (whole_left a1 n) fun y=>
  bnd (whole_made a0 y.1) fun y1=>
  Z (y1.1,y1.2)
def whole_Int_Shift.c4r:Ck:=Ck.of (T:=Bool×(List Int)) whole_Int_Shift.c1s (fun ρ X Z=>whole_Int_Shift.c4 X.2.1 X.2.2.1 X.2.2.2.1 Z) (fun ρ X V Z=>Z 0 (Shape.inj whole_Int_Shift.c1s (X.1,X.2.1,X.2.2.1,X.2.2.2.1,V.1,V.2,(0:Int),(0:Int),())))
def whole_Int_Shift.c7 (lost:Bool)(a0:Bool)(Z:Bool→Option ρ):Option ρ:=
  br lost
   (Z a0)
   (Z false)
def whole_Int_Shift.c7s:Shape:=⟨[(0,ob11),(1,ob3),(2,ob5),(4,ob2),(5,ob44),(6,ob1),(7,ob0),(8,ob45)],[(2,ob4),(4,ob4),(5,ob37),(8,ob4)]⟩
def whole_Int_Shift.c7x0:Shape:=⟨[(0,ob11),(1,ob3),(2,ob5),(4,ob2),(5,ob44),(6,ob1),(7,ob0),(8,ob45),(43,ob0)],[(2,ob4),(4,ob4),(5,ob37),(8,ob4)]⟩
def whole_Int_Shift.c7r:Ck:=Ck.of (T:=Bool) whole_Int_Shift.c7s (fun ρ X Z=>whole_Int_Shift.c7 X.2.2.2.1 (q4 X).1 Z) (fun ρ X V Z=>Z 0 (Shape.inj whole_Int_Shift.c7x0 (X.1,X.2.1,X.2.2.1,X.2.2.2.1,V,(q4 X))))
def whole_Int_Shift.c8 (out0:Bool)(out1:List (Int))(Z:Bool×(List Int)→Option ρ):Option ρ:=
  bnd (whole_Of (1:Int)) fun y=>
  bnd (whole_Int_Sub (out0,out1) y) fun y1=>
  Z (y1.1,y1.2)
def whole_Int_Shift.c8r:Ck:=Ck.of (T:=Bool×(List Int)) whole_Int_Shift.c7s (fun ρ X Z=>whole_Int_Shift.c8 (q8 X).2.2.1 (q8 X).2.2.2.1 Z) (fun ρ X V Z=>Z 0 (Shape.inj whole_Int_Shift.c7s (X.1,X.2.1,X.2.2.1,X.2.2.2.1,(q4 X).1,(q4 X).2.1,(q4 X).2.2.1,(q4 X).2.2.2.1,(q8 X).1,(q8 X).2.1,V.1,V.2,())))
def whole_Int_Shift.cm_ (lost:Bool)(a0:Bool)(out0:Bool)(out1:List (Int))(Z:Bool×(List Int)→Option ρ):Option ρ:=
  bnd (whole_Int_Shift.c7 lost a0 some) fun y=>
  br y
   (bnd (whole_Int_Shift.c8 out0 out1 some) fun y1=>
    Z (y1.1,y1.2))
   (Z (out0,out1))
def whole_Int_Shift.cm_r:Ck:=Ck.of (T:=Bool×(List Int)) whole_Int_Shift.c7s (fun ρ X Z=>whole_Int_Shift.cm_ X.2.2.2.1 (q4 X).1 (q8 X).2.2.1 (q8 X).2.2.2.1 Z) (fun ρ X V Z=>Z 0 (Shape.inj whole_Int_Shift.c7s (X.1,X.2.1,X.2.2.1,X.2.2.2.1,(q4 X).1,(q4 X).2.1,(q4 X).2.2.1,(q4 X).2.2.2.1,(q8 X).1,(q8 X).2.1,V.1,V.2,())))
def whole_Int_Shift (a:Bool×(List Int)) (n:Int):Option ((Bool×(List Int))×((Int)×(Int))):=
  bnd (whole_Int_Shift.c1 n some) fun y=>
  br y
   (some ((false,[]),(5:Int),(0:Int)))
   (br (decide (n≥0))
     (bnd (whole_Int_Shift.c4 n a.1 a.2 some) fun y1=>
      some ((y1.1,y1.2),(0:Int),(0:Int)))
     (bnd (whole_right a.2 (i64.wrap ((0:Int)-n))) fun y2=>
      bnd (whole_made a.1 y2.1) fun y3=>
      bnd (whole_Int_Shift.cm_ y2.2 a.1 y3.1 y3.2 some) fun y4=>
      some ((y4.1,y4.2),(0:Int),(0:Int))))
def whole_Int_Shift.ce:Go.Ql.Callee:=⟨[(.st (.pair .bool (.sl (.int .u32)))),(.int .i64)],[(.st (.pair .bool (.sl (.int .u32)))),(.st (.pair (.int .i64) (.int .i64)))],fun X=>whole_Int_Shift X.1 X.2⟩
def whole_Int_Shift.G:Env:=⟨49,tab,[(59,whole_made.ce),(97,whole_right.ce),(43,whole_Of.ce),(98,whole_Int_Sub.ce)],[0,1,2,4,5,6,7,8,14,18,43],[],[(8,[⟨[],[],[45],[]⟩,⟨[],[],[44],[]⟩,⟨[0,1],[],[],[]⟩,⟨[2,0,1],[8],[],[]⟩]),
  (4,[⟨[],[],[21,22,23,24,26],[24]⟩,⟨[0],[],[21,22,23,24,26],[24]⟩,⟨[],[],[19,20,23,26],[]⟩,⟨[2],[],[19,20,23,26],[]⟩,⟨[],[],[19,20,21,22,26],[]⟩,⟨[3,2,4],[24],[19,20,26],[]⟩,⟨[1,0,5,3,2,4],[24],[26],[]⟩,⟨[],[],[19,20,21,22,23,24,25],[24,4]⟩,⟨[6,1,0,5,3,2,4],[4],[26],[]⟩,⟨[7,8,6,1,0,5,3,2,4],[5],[],[]⟩])],[(228677,whole_Int_Shift.cm_r),(8,whole_Int_Shift.c8r),(7,whole_Int_Shift.c7r),(4,whole_Int_Shift.c4r),(1,whole_Int_Shift.c1r)],[(96,whole_left.mc)],jE,[]⟩
theorem whole_Int_Shift.p0:PcA whole_Int_Shift.G Tryz.f75 0:=
  jv (s:=whole_Int_Shift.c1r) (by kernel_rfl) (by kernel_rfl) (jp (sh:=whole_Int_Shift.c1s) (fun ρ X Z=>(jl jc jc)) (fun ρ X t k=>(by kernel_rfl)) (fun X=>by kernel_rfl))
theorem whole_Int_Shift.p1:PcA whole_Int_Shift.G Tryz.f75 1:=
  jv (s:=whole_Int_Shift.c4r) (by kernel_rfl) (by kernel_rfl) (jp (sh:=whole_Int_Shift.c1s) (fun ρ X Z=>(jb fun _=>(jb fun _=>jc))) (fun ρ X t k=>(by kernel_rfl)) (fun X=>by kernel_rfl))
theorem whole_Int_Shift.p2:PcA whole_Int_Shift.G Tryz.f75 2:=
  Jo (s:=whole_Int_Shift.cm_r) (by kernel_rfl) (by kernel_rfl) (jp (sh:=whole_Int_Shift.c7s) (fun ρ X Z=>(jb fun _=>(jl (jb fun _=>jc) jc))) (fun ρ X t k=>(by kernel_rfl)) (fun X=>by kernel_rfl))
theorem whole_Int_Shift.p3:PcA whole_Int_Shift.G Tryz.f75 3:=
  jv (s:=whole_Int_Shift.c7r) (by kernel_rfl) (by kernel_rfl) (jp (sh:=whole_Int_Shift.c7s) (fun ρ X Z=>(jl jc jc)) (fun ρ X t k=>(by kernel_rfl)) (fun X=>by kernel_rfl))
theorem whole_Int_Shift.p4:PcA whole_Int_Shift.G Tryz.f75 4:=
  jv (s:=whole_Int_Shift.c8r) (by kernel_rfl) (by kernel_rfl) (jp (sh:=whole_Int_Shift.c7s) (fun ρ X Z=>(jb fun _=>(jb fun _=>jc))) (fun ρ X t k=>(by kernel_rfl)) (fun X=>by kernel_rfl))
theorem whole_Int_Shift.ok:CalleeOk Tryz.prog 75 whole_Int_Shift.ce:=fn_ok (G:=whole_Int_Shift.G) jM mixed Tryz.func75 ⟨(jh whole_made.ok (jh whole_right.ok (jh whole_Of.ok (jh whole_Int_Sub.ok jF)))),(Yy whole_left.ok jA),jo,jz⟩ (m:=5) (by kernel_rfl) ⟨⟨⟨⟨⟨trivial,whole_Int_Shift.p0⟩,whole_Int_Shift.p1⟩,whole_Int_Shift.p2⟩,whole_Int_Shift.p3⟩,whole_Int_Shift.p4⟩ (by kernel_rfl) (fun _=>by kernel_rfl)
abbrev ob46:SD:=.one (.aptr 2000700 0)
abbrev ob47:SO:=.arr 0 false 25 (.st (.pair .bool (.sl (.int .u32))))
def jG.pre:Shape:=⟨[(0,ob46),(1,ob3)],[(2000700,ob47)]⟩
def jG.post:Shape:=⟨[],[(2000700,ob47)]⟩
def jG.c6 (i:Int)(t6:Int)(ub:List (Bool×(List Int)))(Z:List (Bool×(List Int))→Option ρ):Option ρ:=
  bnd (okIf (decide ((0:Ty.den (Ty.int IntKind.i64))≤i)&&decide (i<(↑(8:Nat):Int)))) fun y=>
  bnd (inR (ub.length) i) fun y1=>
  bnd (idx ub i) fun y2=>
  bnd (whole_Int_Shift y2 (i64.wrap ((0:Int)-t6))) fun y3=>
  bnd (okIf (decide ((0:Ty.den (Ty.int IntKind.i64))≤i)&&decide (i<(↑(8:Nat):Int)))) fun y4=>
  bnd (inR (ub.length) i) fun y5=>
  bnd (idx ub i) fun y6=>
  Z (List.set ub (Int.toNat i) y3.1)
def jG.c6s:Shape:=⟨[(0,ob46),(1,ob3),(4,ob3),(5,ob3),(6,ob3),(7,ob3)],[(2000700,ob47)]⟩
def jG.c6r:Ck:=Ck.of (T:=List (Bool×(List Int))) jG.c6s (fun ρ X Z=>jG.c6 X.2.1 X.2.2.2.1 (q4 X).2.1 Z) (fun ρ X V Z=>Z 0 (Shape.inj jG.c6s (X.1,X.2.1,X.2.2.1,X.2.2.2.1,(q4 X).1,V,())))
def jG.cb_ (i:Int)(t5:Int)(ub:List (Bool×(List Int)))(Z:((Int)×(List (Bool×(List Int))))⊕((Int)×(List (Bool×(List Int))))→Option ρ):Option ρ:=
  br (t5 !=0)
   (bnd (jG.c6 i (Max.max (-10000:Int) (Min.min (10000:Int) t5)) ub some) fun y=>
    Z (.inl ((i64.wrap (t5-Max.max (-10000:Int) (Min.min (10000:Int) t5))),y)))
   (Z (.inr (t5,ub)))
def jG.cb_s:Shape:=⟨[(0,ob46),(1,ob3),(4,ob3),(5,ob3),(7,ob3)],[(2000700,ob47)]⟩
def jG.cb_r:Ck:=Ck.ofLoop (S:=(Int)×(List (Bool×(List Int)))) (T:=(Int)×(List (Bool×(List Int)))) jG.cb_s (fun X=>(X.2.2.1,(q4 X).1)) (fun ρ X Q Z=>jG.cb_ X.2.1 Q.1 Q.2 Z) (fun ρ X V Z=>Z 4 (Shape.inj jG.cb_s (X.1,X.2.1,V.1,X.2.2.2.1,V.2,())))
def jG.ce_ (n:Int)(t7:Int)(ub:List (Bool×(List Int)))(Z:((Int)×(List (Bool×(List Int))))⊕((Int)×(List (Bool×(List Int))))→Option ρ):Option ρ:=
  br (decide (t7<8))
   (bnd (iter (fun s↦jG.cb_ t7 s.1 s.2 some) (n,ub)) fun y=>
    Z (.inl ((i64.wrap (t7+1)),y.2)))
   (Z (.inr (t7,ub)))
def jG.ce_s:Shape:=⟨[(0,ob46),(1,ob3),(7,ob3)],[(2000700,ob47)]⟩
def jG.ce_r:Ck:=Ck.ofLoop (S:=(Int)×(List (Bool×(List Int)))) (T:=(Int)×(List (Bool×(List Int)))) jG.ce_s (fun X=>(X.2.1,X.2.2.1)) (fun ρ X Q Z=>jG.ce_ X.1 Q.1 Q.2 Z) (fun ρ X V Z=>Z 2 (Shape.inj jG.ce_s (X.1,V.1,V.2,())))
def jG (n:Int) (ub:List (Bool×(List Int))):Option ((List (Bool×(List Int)))×Unit):=
  bnd (iter (fun s↦jG.ce_ n s.1 s.2 some) ((0:Int),ub)) fun y=>
  some (y.2,())
def jG.mc:MCallee:=⟨44,jG.pre,jG.post,fun X=>jG X.1 X.2.1⟩
def jG.G:Env:=⟨35,tab,[(75,whole_Int_Shift.ce)],[0,1,4,5,6,7,8,12],[2000700],[(6,[⟨[],[],[18,19,20,21,22,23,24,25,26,16,27,28],[]⟩,⟨[],[],[17,19,20,21,22,23,24,25,26,16,27,28,29],[]⟩,⟨[],[],[17,18,20,24,25,29],[]⟩,⟨[],[],[17,18,19,21,24,25,29],[]⟩,⟨[2],[],[17,18,20,24,25,29],[]⟩,⟨[4,2,3],[],[17,18,24,25,29],[]⟩,⟨[5,4,2,3],[],[17,18,24,25,29],[]⟩,⟨[],[],[17,18,19,20,21,22,23,29],[]⟩,⟨[7],[],[17,18,19,20,21,22,23,29],[]⟩,⟨[6,5,4,2,3,8,7],[],[17,18,29],[]⟩,⟨[9,6,5,4,2,3,8,7],[],[17,18,29],[]⟩,⟨[10,9,6,5,4,2,3,8,7],[],[17,18,28,29],[]⟩,⟨[10,9,6,5,4,2,3,8,7],[],[17,18,27,29,30],[2000700]⟩,⟨[0],[],[18,19,20,21,22,23,24,25,26,16,27,28],[]⟩,⟨[13,0,1,2,3,4,5,6,7,8,9,10,11],[],[28],[]⟩,⟨[14,13,0,1,2,3,4,5,6,7,8,9,10,11],[2000700],[28],[]⟩])],[(100001,jG.ce_r),(100004,jG.cb_r),(6,jG.c6r)],[],jE,[]⟩
theorem jG.p0:PcA jG.G Tryz.f44 0:=
  Ja (s:=jG.ce_r) (by kernel_rfl) (by kernel_rfl) (jU (sh:=jG.ce_s) (I:=fun X Q=>(X.1,Q.1,Q.2,())) (fun X=>rfl) (fun ρ X Q Z=>(jl (jb fun _=>jc) jc)) (fun ρ X t k=>(by kernel_rfl)) (fun X s=>by kernel_rfl))
theorem jG.p1:PcA jG.G Tryz.f44 1:=
  Ja (s:=jG.cb_r) (by kernel_rfl) (by kernel_rfl) (jU (sh:=jG.cb_s) (I:=fun X Q=>(X.1,X.2.1,Q.1,X.2.2.2.1,Q.2,())) (fun X=>rfl) (fun ρ X Q Z=>(jl (jb fun _=>jc) jc)) (fun ρ X t k=>(by kernel_rfl)) (fun X s=>by kernel_rfl))
theorem jG.p2:PcA jG.G Tryz.f44 2:=
  jv (s:=jG.c6r) (by kernel_rfl) (by kernel_rfl) (jp (sh:=jG.c6s) (fun ρ X Z=>(jb fun _=>(jb fun _=>(jb fun _=>(jb fun _=>(jb fun _=>(jb fun _=>(jb fun _=>jc)))))))) (fun ρ X t k=>(by kernel_rfl)) (fun X=>by kernel_rfl))
theorem jG.ok:MOk Tryz.prog 44 jG.mc:=Ug (mc:=jG.mc) (G:=jG.G) jM mixed Tryz.func44 ⟨(jh whole_Int_Shift.ok jF),jA,jo,jz⟩ (m:=3) (by kernel_rfl) ⟨⟨⟨trivial,jG.p0⟩,jG.p1⟩,jG.p2⟩ (by kernel_rfl) (fun _=>by kernel_rfl)
def jL.c1 (hi:Int)(y:Int)(Z:Bool→Option ρ):Option ρ:=
  br (y !=0)
   (Z (decide (y≤hi)))
   (Z false)
def jL.c1s:Shape:=⟨[(0,ob40),(1,ob40),(2,ob40),(6,ob40),(7,ob40)],[]⟩
def jL.c1x0:Shape:=⟨[(0,ob40),(1,ob40),(2,ob40),(6,ob40),(7,ob40),(15,ob0)],[]⟩
def jL.c1r:Ck:=Ck.of (T:=Bool) jL.c1s (fun ρ X Z=>jL.c1 X.1 X.2.2.1 Z) (fun ρ X V Z=>Z 0 (Shape.inj jL.c1x0 (X.1,X.2.1,X.2.2.1,X.2.2.2.1,(q4 X).1,V,())))
def jL.cv_ (hi:Int)(y:Int)(Z:Unit→Option ρ):Option ρ:=
  bnd (jL.c1 hi y some) fun y1=>
  br y1
   (none)
   (Z ())
def jL.cv_r:Ck:=Ck.of (T:=Unit) jL.c1s (fun ρ X Z=>jL.cv_ X.1 X.2.2.1 Z) (fun ρ X V Z=>Z 0 (Shape.inj jL.c1s X))
def jL.c4 (y:Int)(Z:Unit→Option ρ):Option ρ:=
  bnd (okIf (IntKind.wrap IntKind.u64 y !=0)) fun y1=>
  bnd (okIf (IntKind.wrap IntKind.u64 y !=0)) fun y2=>
  Z ()
def jL.c4s:Shape:=⟨[(0,ob40),(1,ob40),(2,ob40),(6,ob40),(7,ob40),(8,ob6)],[]⟩
def jL.c4r:Ck:=Ck.of (T:=Unit) jL.c4s (fun ρ X Z=>jL.c4 X.2.2.1 Z) (fun ρ X V Z=>Z 0 (Shape.inj jL.c4s (X.1,X.2.1,X.2.2.1,(u32.wrap (u64.wrap (Int.tdiv (q4 X).2.1 (IntKind.wrap IntKind.u64 X.2.2.1)))),(u32.wrap (Int.tmod (q4 X).2.1 (IntKind.wrap IntKind.u64 X.2.2.1))),(q4 X).2)))
def jL (hi:Int) (lo:Int) (y:Int):Option ((Int)×(Int)):=
  bnd (jL.cv_ hi y some) fun y1=>
  bnd (jL.c4 y some) fun y2=>
  some (u32.wrap (u64.wrap (Int.tdiv (ibits BinOp.or IntKind.u64 (u64.wrap (IntKind.wrap IntKind.u64 hi*2 ^32)) (IntKind.wrap IntKind.u64 lo)) (IntKind.wrap IntKind.u64 y))),u32.wrap (Int.tmod (ibits BinOp.or IntKind.u64 (u64.wrap (IntKind.wrap IntKind.u64 hi*2 ^32)) (IntKind.wrap IntKind.u64 lo)) (IntKind.wrap IntKind.u64 y)))
def jL.ce:Go.Ql.Callee:=⟨[(.int .u32),(.int .u32),(.int .u32)],[(.int .u32),(.int .u32)],fun X=>jL X.1 X.2.1 X.2.2⟩
def jL.G:Env:=⟨33,tab,[],[0,1,2,6,7,8,15],[],[(4,[⟨[],[],[24,25,28,29,30,31,32],[]⟩,⟨[],[],[23,28,29,30,31,32],[]⟩,⟨[1],[],[23,28,29,30,31,32],[]⟩,⟨[0,2,1],[],[28,29,30,31,32],[]⟩,⟨[3,0,2,1],[],[28,29,30,31,32],[]⟩,⟨[],[],[23,24,25,26,27,29,30,6],[]⟩,⟨[],[],[23,24,25,26,27,28,6],[]⟩,⟨[6],[],[23,24,25,26,27,28,6],[]⟩,⟨[5,7,6],[],[23,24,25,26,27,6],[]⟩,⟨[8,5,7,6],[],[23,24,25,26,27,6],[]⟩,⟨[4,3,0,2,1],[],[28,29,30,31,32],[]⟩,⟨[9,8,5,7,6,10,4,3,0,2,1],[],[],[]⟩])],[(4,jL.c4r),(204101,jL.cv_r),(1,jL.c1r)],[],jE,[]⟩
theorem jL.p0:PcA jL.G Tryz.f133 0:=
  Jo (s:=jL.cv_r) (by kernel_rfl) (by kernel_rfl) (jp (sh:=jL.c1s) (fun ρ X Z=>(jb fun _=>(jl nat_none jc))) (fun ρ X t k=>(by kernel_rfl)) (fun X=>by kernel_rfl))
theorem jL.p1:PcA jL.G Tryz.f133 1:=
  jv (s:=jL.c1r) (by kernel_rfl) (by kernel_rfl) (jp (sh:=jL.c1s) (fun ρ X Z=>(jl jc jc)) (fun ρ X t k=>(by kernel_rfl)) (fun X=>by kernel_rfl))
theorem jL.p2:PcA jL.G Tryz.f133 2:=
  jv (s:=jL.c4r) (by kernel_rfl) (by kernel_rfl) (jp (sh:=jL.c4s) (fun ρ X Z=>(jb fun _=>(jb fun _=>jc))) (fun ρ X t k=>(by kernel_rfl)) (fun X=>by kernel_rfl))
theorem jL.ok:CalleeOk Tryz.prog 133 jL.ce:=fn_ok (G:=jL.G) jM mixed Tryz.func133 ⟨jF,jA,jo,jz⟩ (m:=3) (by kernel_rfl) ⟨⟨⟨trivial,jL.p0⟩,jL.p1⟩,jL.p2⟩ (by kernel_rfl) (fun _=>by kernel_rfl)
abbrev ob48:SD:=.one (.own 11 0)
def whole_short.cb_ (a:List (Int))(d:Int)(r:Int)(i:Int)(t11:List (Int))(Z:((Int)×(Int)×(List Int))⊕((Int)×(Int)×(List Int))→Option ρ):Option ρ:=
  br (decide (i≥0))
   (bnd (idx a i) fun y=>
    bnd (jL r y d) fun y1=>
    bnd (inR (t11.length) i) fun y2=>
    bnd (idx t11 i) fun y3=>
    Z (.inl (y1.2,(i64.wrap (i-1)),(List.set t11 (Int.toNat i) y1.1))))
   (Z (.inr (r,i,t11)))
def whole_short.cb_s:Shape:=⟨[(0,ob1),(1,ob40),(4,ob1),(5,ob40),(6,ob48),(7,ob40),(8,ob3)],[(11,ob8)]⟩
def whole_short.cb_r:Ck:=Ck.ofLoop (S:=(Int)×(Int)×(List Int)) (T:=(Int)×(Int)×(List Int)) whole_short.cb_s (fun X=>((q4 X).1,(q4 X).2.1,(q4 X).2.2.1)) (fun ρ X Q Z=>whole_short.cb_ X.1 X.2.1 Q.1 Q.2.1 Q.2.2 Z) (fun ρ X V Z=>Z 2 (Shape.inj whole_short.cb_s (X.1,X.2.1,X.2.2.1,X.2.2.2.1,V.1,V.2.1,V.2.2,())))
def whole_short (a:List (Int)) (d:Int):Option ((List Int)×(Int)):=
  bnd (okIf (decide ((0:Int)≤(a.length:Int))&&decide ((a.length:Int)≤(a.length:Int))&&decide ((a.length:Int)*(↑(4:Nat):Int)≤140737488355328)&&decide ((a.length:Int)≤140737488355328))) fun y=>
  bnd (iter (fun s↦whole_short.cb_ a d s.1 s.2.1 s.2.2 some) ((0:Int),i64.wrap ((a.length:Int)-1),List.replicate (Int.toNat (a.length:Int)) (0:Int))) fun y1=>
  some (y1.2.2,y1.1)
def whole_short.ce:Go.Ql.Callee:=⟨[(.sl (.int .u32)),(.int .u32)],[(.sl (.int .u32)),(.int .u32)],fun X=>whole_short X.1 X.2⟩
def whole_short.G:Env:=⟨34,tab,[(133,jL.ce)],[0,1,4,5,6,7,8,16],[11],[],[(100004,whole_short.cb_r)],[],jE,[]⟩
theorem whole_short.p0:PcA whole_short.G Tryz.f120 0:=
  Ja (s:=whole_short.cb_r) (by kernel_rfl) (by kernel_rfl) (jU (sh:=whole_short.cb_s) (I:=fun X Q=>(X.1,X.2.1,X.2.2.1,X.2.2.2.1,Q.1,Q.2.1,Q.2.2,())) (fun X=>rfl) (fun ρ X Q Z=>(jl (jb fun _=>(jb fun _=>(jb fun _=>(jb fun _=>jc)))) jc)) (fun ρ X t k=>(by kernel_rfl)) (fun X s=>by kernel_rfl))
theorem whole_short.ok:CalleeOk Tryz.prog 120 whole_short.ce:=fn_ok (G:=whole_short.G) jM mixed Tryz.func120 ⟨(jh jL.ok jF),jA,jo,jz⟩ (m:=1) (by kernel_rfl) ⟨trivial,whole_short.p0⟩ (by kernel_rfl) (fun _=>by kernel_rfl)
def jX.cB_ (x:Int)(n:Int)(Z:(Int)×(Int)→Option ρ):Option ρ:=
  br (decide (x≥65536))
   (Z ((Int.fdiv x ((2:Int) ^16)),(16:Int)))
   (Z (x,n))
def jX.cB_s:Shape:=⟨[(0,ob40),(2,ob3)],[]⟩
def jX.cB_r:Ck:=Ck.of (T:=(Int)×(Int)) jX.cB_s (fun ρ X Z=>jX.cB_ X.1 X.2.1 Z) (fun ρ X V Z=>Z 0 (Shape.inj jX.cB_s (V.1,V.2,())))
def jX.cO_ (x:Int)(n:Int)(Z:(Int)×(Int)→Option ρ):Option ρ:=
  br (decide (x≥256))
   (Z ((Int.fdiv x ((2:Int) ^8)),(i64.wrap (n+8))))
   (Z (x,n))
def jX.cO_r:Ck:=Ck.of (T:=(Int)×(Int)) jX.cB_s (fun ρ X Z=>jX.cO_ X.1 X.2.1 Z) (fun ρ X V Z=>Z 0 (Shape.inj jX.cB_s (V.1,V.2,())))
def jX (x:Int):Option (Int):=
  bnd (jX.cB_ x (0:Int) some) fun y=>
  bnd (jX.cO_ y.1 y.2 some) fun y1=>
  bnd (idx (Array.toList (ByteArray.data (ByteArray.mk (List.toArray (List.append (List.append [0,1,2,2,3,3,3,3,4,4,4,4,4,4,4,4,5,5,5,5,5,5,5,5,5,5,5,5,5,5,5,5,6,6,6,6,6,6,6,6,6,6,6,6,6,6,6,6,6,6,6,6,6,6,6,6,6,6,6,6,6,6,6,6] [7,7,7,7,7,7,7,7,7,7,7,7,7,7,7,7,7,7,7,7,7,7,7,7,7,7,7,7,7,7,7,7,7,7,7,7,7,7,7,7,7,7,7,7,7,7,7,7,7,7,7,7,7,7,7,7,7,7,7,7,7,7,7,7]) (List.append [8,8,8,8,8,8,8,8,8,8,8,8,8,8,8,8,8,8,8,8,8,8,8,8,8,8,8,8,8,8,8,8,8,8,8,8,8,8,8,8,8,8,8,8,8,8,8,8,8,8,8,8,8,8,8,8,8,8,8,8,8,8,8,8] [8,8,8,8,8,8,8,8,8,8,8,8,8,8,8,8,8,8,8,8,8,8,8,8,8,8,8,8,8,8,8,8,8,8,8,8,8,8,8,8,8,8,8,8,8,8,8,8,8,8,8,8,8,8,8,8,8,8,8,8,8,8,8,8])))))) (u8.wrap y1.1)) fun y2=>
  some (i64.wrap (y1.2+i64.wrap (↑(UInt8.toNat y2):Int)))
def jX.ce:Go.Ql.Callee:=⟨[(.int .u32)],[(.int .i64)],fun X=>jX X⟩
def jX.G:Env:=⟨19,tab,[],[0,2,4,8],[],[],[(216391,jX.cO_r),(204103,jX.cB_r)],[],jE,[]⟩
theorem jX.p0:PcA jX.G Tryz.f140 0:=
  Jo (s:=jX.cB_r) (by kernel_rfl) (by kernel_rfl) (jp (sh:=jX.cB_s) (fun ρ X Z=>(jl jc jc)) (fun ρ X t k=>(by kernel_rfl)) (fun X=>by kernel_rfl))
theorem jX.p1:PcA jX.G Tryz.f140 1:=
  Jo (s:=jX.cO_r) (by kernel_rfl) (by kernel_rfl) (jp (sh:=jX.cB_s) (fun ρ X Z=>(jl jc jc)) (fun ρ X t k=>(by kernel_rfl)) (fun X=>by kernel_rfl))
theorem jX.ok:CalleeOk Tryz.prog 140 jX.ce:=fn_ok (G:=jX.G) jM mixed Tryz.func140 ⟨jF,jA,jo,jz⟩ (m:=2) (by kernel_rfl) ⟨⟨trivial,jX.p0⟩,jX.p1⟩ (by kernel_rfl) (fun _=>by kernel_rfl)
def Js (x:Int):Option (Int):=
  bnd (jX x) fun y=>
  some (i64.wrap ((32:Int)-y))
def Js.ce:Go.Ql.Callee:=⟨[(.int .u32)],[(.int .i64)],fun X=>Js X⟩
def Js.G:Env:=⟨6,tab,[(140,jX.ce)],[0,2],[],[],[],[],jE,[]⟩
theorem Js.ok:CalleeOk Tryz.prog 134 Js.ce:=fn_ok (G:=Js.G) jM mixed Tryz.func134 ⟨(jh jX.ok jF),jA,jo,jz⟩ (m:=0) (by kernel_rfl) trivial (by kernel_rfl) (fun _=>by kernel_rfl)
abbrev ob49:SD:=.one (.win 2000000 0)
def whole_takeAway.pre:Shape:=⟨[(0,ob49),(1,ob1),(2,ob40)],[(2000000,ob8)]⟩
def whole_takeAway.post:Shape:=⟨[(0,ob0)],[(2000000,ob8)]⟩
def whole_takeAway.cd_ (ulo:Int)(un:Int)(g:Int)(borrow:Int)(carry:Int)(t13:List (Int))(t14:Int)(t15:Int)(ua:List (Int))(Z:((Int)×(Int)×(Int)×(List Int))⊕((Int)×(Int)×(Int)×(List Int))→Option ρ):Option ρ:=
  br (decide (t15<t14))
   (bnd (idx t13 t15) fun y=>
    bnd (okIf (decide ((0:Ty.den (Ty.int IntKind.i64))≤t15)&&decide (t15<un))) fun y1=>
    bnd (idx ua (ulo+t15)) fun y2=>
    bnd (okIf (decide ((0:Ty.den (Ty.int IntKind.i64))≤t15)&&decide (t15<un))) fun y3=>
    bnd (idx ua (ulo+t15)) fun y4=>
    Z (.inl ((Int.fdiv (u64.wrap (u64.wrap (IntKind.wrap IntKind.u64 y2-ibits BinOp.and IntKind.u64 (u64.wrap (carry+u64.wrap (IntKind.wrap IntKind.u64 y*IntKind.wrap IntKind.u64 g))) (4294967295:Int))-borrow)) ((2:Int) ^63)),(Int.fdiv (u64.wrap (carry+u64.wrap (IntKind.wrap IntKind.u64 y*IntKind.wrap IntKind.u64 g))) ((2:Int) ^32)),(i64.wrap (t15+1)),(List.set ua (Int.toNat (ulo+t15)) (u32.wrap (u64.wrap (u64.wrap (IntKind.wrap IntKind.u64 y2-ibits BinOp.and IntKind.u64 (u64.wrap (carry+u64.wrap (IntKind.wrap IntKind.u64 y*IntKind.wrap IntKind.u64 g))) (4294967295:Int))-borrow)))))))
   (Z (.inr (borrow,carry,t15,ua)))
def whole_takeAway.cd_s:Shape:=⟨[(0,ob49),(1,ob1),(2,ob40),(6,ob0),(7,ob6),(8,ob6),(13,ob1),(14,ob3),(15,ob3)],[(2000000,ob8)]⟩
def whole_takeAway.cd_r:Ck:=Ck.ofLoop (S:=(Int)×(Int)×(Int)×(List Int)) (T:=(Int)×(Int)×(Int)×(List Int)) whole_takeAway.cd_s (fun X=>((q4 X).2.1,(q4 X).2.2.1,(q8 X).2.1,(q8 X).2.2.1)) (fun ρ X Q Z=>whole_takeAway.cd_ X.1 X.2.1 X.2.2.2.1 Q.1 Q.2.1 (q4 X).2.2.2.1 (q8 X).1 Q.2.2.1 Q.2.2.2 Z) (fun ρ X V Z=>Z 2 (Shape.inj whole_takeAway.cd_s (X.1,X.2.1,X.2.2.1,X.2.2.2.1,(q4 X).1,V.1,V.2.1,(q4 X).2.2.2.1,(q8 X).1,V.2.2.1,V.2.2.2,())))
def whole_takeAway (ulo:Int) (un:Int) (v:List (Int)) (g:Int) (ua:List (Int)):Option (Bool×(List Int)×Unit):=
  bnd (iter (fun s↦whole_takeAway.cd_ ulo un g s.1 s.2.1 v (v.length:Int) s.2.2.1 s.2.2.2 some) ((0:Int),(0:Int),(0:Int),ua)) fun y=>
  bnd (okIf (decide ((0:Ty.den (Ty.int IntKind.i64))≤(v.length:Int))&&decide ((v.length:Int)<un))) fun y1=>
  bnd (idx y.2.2.2 (ulo+(v.length:Int))) fun y2=>
  bnd (okIf (decide ((0:Ty.den (Ty.int IntKind.i64))≤(v.length:Int))&&decide ((v.length:Int)<un))) fun y3=>
  bnd (idx y.2.2.2 (ulo+(v.length:Int))) fun y4=>
  some (decide (Int.fdiv (u64.wrap (u64.wrap (IntKind.wrap IntKind.u64 y2-y.2.1)-y.1)) ((2:Int) ^63)>0),List.set y.2.2.2 (Int.toNat (ulo+(v.length:Int))) (u32.wrap (u64.wrap (u64.wrap (IntKind.wrap IntKind.u64 y2-y.2.1)-y.1))),())
def whole_takeAway.mc:MCallee:=⟨135,whole_takeAway.pre,whole_takeAway.post,fun X=>whole_takeAway X.1 X.2.1 X.2.2.1 X.2.2.2.1 (q4 X).1⟩
def whole_takeAway.G:Env:=⟨66,tab,[],[0,1,2,6,7,8,9,10,11,12,13,14,15,16],[2000000],[],[(100003,whole_takeAway.cd_r)],[],jE,[]⟩
theorem whole_takeAway.p0:PcA whole_takeAway.G Tryz.f135 0:=
  Ja (s:=whole_takeAway.cd_r) (by kernel_rfl) (by kernel_rfl) (jU (sh:=whole_takeAway.cd_s) (I:=fun X Q=>(X.1,X.2.1,X.2.2.1,X.2.2.2.1,(q4 X).1,Q.1,Q.2.1,(q4 X).2.2.2.1,(q8 X).1,Q.2.2.1,Q.2.2.2,())) (fun X=>rfl) (fun ρ X Q Z=>(jl (jb fun _=>(jb fun _=>(jb fun _=>(jb fun _=>(jb fun _=>jc))))) jc)) (fun ρ X t k=>(by kernel_rfl)) (fun X s=>by kernel_rfl))
theorem whole_takeAway.ok:MOk Tryz.prog 135 whole_takeAway.mc:=Ug (mc:=whole_takeAway.mc) (G:=whole_takeAway.G) jM mixed Tryz.func135 ⟨jF,jA,jo,jz⟩ (m:=1) (by kernel_rfl) ⟨trivial,whole_takeAway.p0⟩ (by kernel_rfl) (fun _=>by kernel_rfl)
def whole_giveBack.pre:Shape:=⟨[(0,ob49),(1,ob1)],[(2000000,ob8)]⟩
def whole_giveBack.post:Shape:=⟨[],[(2000000,ob8)]⟩
def whole_giveBack.ca_ (ulo:Int)(un:Int)(c:Int)(t7:List (Int))(t8:Int)(t9:Int)(ua:List (Int))(Z:((Int)×(Int)×(List Int))⊕((Int)×(Int)×(List Int))→Option ρ):Option ρ:=
  br (decide (t9<t8))
   (bnd (idx t7 t9) fun y=>
    bnd (okIf (decide ((0:Ty.den (Ty.int IntKind.i64))≤t9)&&decide (t9<un))) fun y1=>
    bnd (idx ua (ulo+t9)) fun y2=>
    bnd (JX y2 y c) fun y3=>
    bnd (okIf (decide ((0:Ty.den (Ty.int IntKind.i64))≤t9)&&decide (t9<un))) fun y4=>
    bnd (idx ua (ulo+t9)) fun y5=>
    Z (.inl (y3.2,(i64.wrap (t9+1)),(List.set ua (Int.toNat (ulo+t9)) y3.1))))
   (Z (.inr (c,t9,ua)))
def whole_giveBack.ca_s:Shape:=⟨[(0,ob49),(1,ob1),(4,ob40),(7,ob1),(8,ob3),(9,ob3)],[(2000000,ob8)]⟩
def whole_giveBack.ca_r:Ck:=Ck.ofLoop (S:=(Int)×(Int)×(List Int)) (T:=(Int)×(Int)×(List Int)) whole_giveBack.ca_s (fun X=>(X.2.2.2.1,(q4 X).2.2.1,(q4 X).2.2.2.1)) (fun ρ X Q Z=>whole_giveBack.ca_ X.1 X.2.1 Q.1 (q4 X).1 (q4 X).2.1 Q.2.1 Q.2.2 Z) (fun ρ X V Z=>Z 2 (Shape.inj whole_giveBack.ca_s (X.1,X.2.1,X.2.2.1,V.1,(q4 X).1,(q4 X).2.1,V.2.1,V.2.2,())))
def whole_giveBack (ulo:Int) (un:Int) (v:List (Int)) (ua:List (Int)):Option ((List Int)×Unit):=
  bnd (iter (fun s↦whole_giveBack.ca_ ulo un s.1 v (v.length:Int) s.2.1 s.2.2 some) ((0:Int),(0:Int),ua)) fun y=>
  bnd (okIf (decide ((0:Ty.den (Ty.int IntKind.i64))≤(v.length:Int))&&decide ((v.length:Int)<un))) fun y1=>
  bnd (idx y.2.2 (ulo+(v.length:Int))) fun y2=>
  bnd (okIf (decide ((0:Ty.den (Ty.int IntKind.i64))≤(v.length:Int))&&decide ((v.length:Int)<un))) fun y3=>
  bnd (idx y.2.2 (ulo+(v.length:Int))) fun y4=>
  some (List.set y.2.2 (Int.toNat (ulo+(v.length:Int))) (u32.wrap (y2+y.1)),())
def whole_giveBack.mc:MCallee:=⟨136,whole_giveBack.pre,whole_giveBack.post,fun X=>whole_giveBack X.1 X.2.1 X.2.2.1 X.2.2.2.1⟩
def whole_giveBack.G:Env:=⟨36,tab,[(122,JX.ce)],[0,1,4,5,6,7,8,9,10],[2000000],[],[(100002,whole_giveBack.ca_r)],[],jE,[]⟩
theorem whole_giveBack.p0:PcA whole_giveBack.G Tryz.f136 0:=
  Ja (s:=whole_giveBack.ca_r) (by kernel_rfl) (by kernel_rfl) (jU (sh:=whole_giveBack.ca_s) (I:=fun X Q=>(X.1,X.2.1,X.2.2.1,Q.1,(q4 X).1,(q4 X).2.1,Q.2.1,Q.2.2,())) (fun X=>rfl) (fun ρ X Q Z=>(jl (jb fun _=>(jb fun _=>(jb fun _=>(jb fun _=>(jb fun _=>(jb fun _=>jc)))))) jc)) (fun ρ X t k=>(by kernel_rfl)) (fun X s=>by kernel_rfl))
theorem whole_giveBack.ok:MOk Tryz.prog 136 whole_giveBack.mc:=Ug (mc:=whole_giveBack.mc) (G:=whole_giveBack.G) jM mixed Tryz.func136 ⟨(jh JX.ok jF),jA,jo,jz⟩ (m:=1) (by kernel_rfl) ⟨trivial,whole_giveBack.p0⟩ (by kernel_rfl) (fun _=>by kernel_rfl)
end
end W
end
