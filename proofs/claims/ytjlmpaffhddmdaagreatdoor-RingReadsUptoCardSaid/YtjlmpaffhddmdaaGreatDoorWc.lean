/- Lifted functions, part 3: each with its contract. -/
import Derived.Test.YtjlmpaffhddmdaaGreatDoorWb
import Derived.Test.YtjlmpaffhddmdaaGreatDoorProg
import Derived.Test.YtjlmpaffhddmdaaGreatDoorLf
import Derived.WalkKit
import Derived.Recover
set_option linter.all false
section
set_option maxHeartbeats 4000000
set_option maxRecDepth 100000
namespace W
open Go Go.Ql Go.Proofs Go.IntKind
noncomputable section
variable {ρ:Type}
def whole_number.c2 (text:List UInt8)(signed:Bool)(Z:Bool→Option ρ):Option ρ:=
  br signed
   (bnd (Jt text (Array.toList (ByteArray.data (ByteArray.mk #[45])))) fun y=>
    Z y)
   (Z false)
def whole_number.c2s:Shape:=⟨[(0,ob13),(1,ob0),(4,ob3),(5,ob0),(6,ob3)],[]⟩
def whole_number.c2x0:Shape:=⟨[(0,ob13),(1,ob0),(4,ob3),(5,ob0),(6,ob3),(12,ob0)],[]⟩
def whole_number.c2r:Ck:=Ck.of (T:=Bool) whole_number.c2s (fun ρ X Z=>whole_number.c2 X.1 X.2.1 Z) (fun ρ X V Z=>Z 0 (Shape.inj whole_number.c2x0 (X.1,X.2.1,X.2.2.1,X.2.2.2.1,(q4 X).1,V,())))
def whole_number.cg_ (text:List UInt8)(signed:Bool)(t6:Int)(Z:Int→Option ρ):Option ρ:=
  bnd (whole_number.c2 text signed some) fun y=>
  br y
   (Z (1:Int))
   (Z t6)
def whole_number.cg_r:Ck:=Ck.of (T:=Int) whole_number.c2s (fun ρ X Z=>whole_number.cg_ X.1 X.2.1 (q4 X).1 Z) (fun ρ X V Z=>Z 0 (Shape.inj whole_number.c2s (X.1,X.2.1,X.2.2.1,X.2.2.2.1,V,())))
def whole_number.c5 (signed:Bool)(t6:Int)(Z:Bool→Option ρ):Option ρ:=
  br (!signed)
   (Z true)
   (Z (t6==1))
def whole_number.c5x0:Shape:=⟨[(0,ob13),(1,ob0),(4,ob3),(5,ob0),(6,ob3),(22,ob0)],[]⟩
def whole_number.c5r:Ck:=Ck.of (T:=Bool) whole_number.c2s (fun ρ X Z=>whole_number.c5 X.2.1 (q4 X).1 Z) (fun ρ X V Z=>Z 0 (Shape.inj whole_number.c5x0 (X.1,X.2.1,X.2.2.1,X.2.2.2.1,(q4 X).1,V,())))
def whole_number.c9 (text:List UInt8)(i:Int)(Z:Bool→Option ρ):Option ρ:=
  br (decide (i<(text.length:Int)))
   (bnd (idx text i) fun y=>
    br (decide ((48:Int)≤(↑(UInt8.toNat y):Int)))
     (bnd (idx text i) fun y1=>
      Z (decide ((↑(UInt8.toNat y1):Int)≤57)))
     (Z false))
   (Z false)
def whole_number.c9s:Shape:=⟨[(0,ob13),(1,ob0),(4,ob3),(5,ob0),(6,ob3),(7,ob3)],[]⟩
def whole_number.c9x0:Shape:=⟨[(0,ob13),(1,ob0),(4,ob3),(5,ob0),(6,ob3),(7,ob3),(40,ob0)],[]⟩
def whole_number.c9r:Ck:=Ck.of (T:=Bool) whole_number.c9s (fun ρ X Z=>whole_number.c9 X.1 (q4 X).2.1 Z) (fun ρ X V Z=>Z 0 (Shape.inj whole_number.c9x0 (X.1,X.2.1,X.2.2.1,X.2.2.2.1,(q4 X).1,(q4 X).2.1,V,())))
def whole_number.cr_ (text:List UInt8)(i:Int)(Z:(Int)⊕(Int)→Option ρ):Option ρ:=
  bnd (whole_number.c9 text i some) fun y=>
  br y
   (Z (.inl (i64.wrap (i+1))))
   (Z (.inr i))
def whole_number.cr_r:Ck:=Ck.ofLoop (S:=Int) (T:=Int) whole_number.c9s (fun X=>(q4 X).2.1) (fun ρ X Q Z=>whole_number.cr_ X.1 Q Z) (fun ρ X V Z=>Z 2 (Shape.inj whole_number.c9s (X.1,X.2.1,X.2.2.1,X.2.2.2.1,(q4 X).1,V,())))
def whole_number (text:List UInt8) (signed:Bool):Option ((Int)×Bool):=
  bnd (whole_number.cg_ text signed (0:Int) some) fun y=>
  bnd (okIf (decide ((0:Int)≤y)&&decide (y≤(text.length:Int))&&decide ((text.length:Int)≤(text.length:Int)))) fun y1=>
  bnd (Jt (List.drop (Int.toNat y) (List.take (Int.toNat (text.length:Int)) text)) (Array.toList (ByteArray.data (ByteArray.mk #[48])))) fun y2=>
  br y2
   (bnd (whole_number.c5 signed y some) fun y3=>
    br y3
     (some (y,false))
     (some ((1:Int),true)))
   (bnd (iter (fun s↦whole_number.cr_ text s some) y) fun y4=>
    some (y4,decide (y4>y)))
def whole_number.ce:Go.Ql.Callee:=⟨[.str,.bool],[(.int .i64),.bool],fun X=>whole_number X.1 X.2⟩
def whole_number.G:Env:=⟨47,tab,[(84,Jt.ce)],[0,1,4,5,6,7,12,16,22,40],[],[],[(100009,whole_number.cr_r),(9,whole_number.c9r),(5,whole_number.c5r),(208197,whole_number.cg_r),(2,whole_number.c2r)],[],jE,[]⟩
theorem whole_number.p0:PcA whole_number.G Tryz.f57 0:=
  Jo (s:=whole_number.cg_r) (by kernel_rfl) (by kernel_rfl) (jp (sh:=whole_number.c2s) (fun ρ X Z=>(jb fun _=>(jl jc jc))) (fun ρ X t k=>(by kernel_rfl)) (fun X=>by kernel_rfl))
theorem whole_number.p1:PcA whole_number.G Tryz.f57 1:=
  jv (s:=whole_number.c2r) (by kernel_rfl) (by kernel_rfl) (jp (sh:=whole_number.c2s) (fun ρ X Z=>(jl (jb fun _=>jc) jc)) (fun ρ X t k=>(by kernel_rfl)) (fun X=>by kernel_rfl))
theorem whole_number.p2:PcA whole_number.G Tryz.f57 2:=
  jv (s:=whole_number.c5r) (by kernel_rfl) (by kernel_rfl) (jp (sh:=whole_number.c2s) (fun ρ X Z=>(jl jc jc)) (fun ρ X t k=>(by kernel_rfl)) (fun X=>by kernel_rfl))
theorem whole_number.p3:PcA whole_number.G Tryz.f57 3:=
  Ja (s:=whole_number.cr_r) (by kernel_rfl) (by kernel_rfl) (jU (sh:=whole_number.c9s) (I:=fun X Q=>(X.1,X.2.1,X.2.2.1,X.2.2.2.1,(q4 X).1,Q,())) (fun X=>rfl) (fun ρ X Q Z=>(jb fun _=>(jl jc jc))) (fun ρ X t k=>(by kernel_rfl)) (fun X s=>by kernel_rfl))
theorem whole_number.p4:PcA whole_number.G Tryz.f57 4:=
  jv (s:=whole_number.c9r) (by kernel_rfl) (by kernel_rfl) (jp (sh:=whole_number.c9s) (fun ρ X Z=>(jl (jb fun _=>(jl (jb fun _=>jc) jc)) jc)) (fun ρ X t k=>(by kernel_rfl)) (fun X=>by kernel_rfl))
theorem whole_number.ok:CalleeOk Tryz.prog 57 whole_number.ce:=fn_ok (G:=whole_number.G) jM mixed Tryz.func57 ⟨(jh Jt.ok jF),jA,jo,jz⟩ (m:=5) (by kernel_rfl) ⟨⟨⟨⟨⟨trivial,whole_number.p0⟩,whole_number.p1⟩,whole_number.p2⟩,whole_number.p3⟩,whole_number.p4⟩ (by kernel_rfl) (fun _=>by kernel_rfl)
def stringslite_TrimPrefix (s:List UInt8) (t1:List UInt8):Option (List UInt8):=
  bnd (stringslite_HasPrefix s t1) fun y=>
  br y
   (bnd (okIf (decide ((0:Int)≤(t1.length:Int))&&decide ((t1.length:Int)≤(s.length:Int))&&decide ((s.length:Int)≤(s.length:Int)))) fun y1=>
    some (List.drop (Int.toNat (t1.length:Int)) (List.take (Int.toNat (s.length:Int)) s)))
   (some s)
def stringslite_TrimPrefix.ce:Go.Ql.Callee:=⟨[.str,.str],[.str],fun X=>stringslite_TrimPrefix X.1 X.2⟩
def stringslite_TrimPrefix.G:Env:=⟨13,tab,[(107,stringslite_HasPrefix.ce)],[0,1,4,7],[],[],[],[],jE,[]⟩
theorem stringslite_TrimPrefix.ok:CalleeOk Tryz.prog 85 stringslite_TrimPrefix.ce:=fn_ok (G:=stringslite_TrimPrefix.G) jM mixed Tryz.func85 ⟨(jh stringslite_HasPrefix.ok jF),jA,jo,jz⟩ (m:=0) (by kernel_rfl) trivial (by kernel_rfl) (fun _=>by kernel_rfl)
def Jq (s:List UInt8) (t1:List UInt8):Option (List UInt8):=
  bnd (stringslite_TrimPrefix s t1) fun y=>
  some y
def Jq.ce:Go.Ql.Callee:=⟨[.str,.str],[.str],fun X=>Jq X.1 X.2⟩
def Jq.G:Env:=⟨8,tab,[(85,stringslite_TrimPrefix.ce)],[0,1,4],[],[],[],[],jE,[]⟩
theorem Jq.ok:CalleeOk Tryz.prog 58 Jq.ce:=fn_ok (G:=Jq.G) jM mixed Tryz.func58 ⟨(jh stringslite_TrimPrefix.ok jF),jA,jo,jz⟩ (m:=0) (by kernel_rfl) trivial (by kernel_rfl) (fun _=>by kernel_rfl)
def whole_digits.ch_ (part:Int)(t6:Int)(t21:List (Int))(t22:Int)(t23:Int)(Z:((Int)×(Int)×(Int))⊕((Int)×(Int)×(Int))→Option ρ):Option ρ:=
  br (decide (t23<t22))
   (bnd (idx t21 t23) fun y=>
    Z (.inl ((u64.wrap (u64.wrap (part*10)+u64.wrap (u8.wrap (y-48)))),(u64.wrap (t6*10)),(i64.wrap (t23+1)))))
   (Z (.inr (part,t6,t23)))
def whole_digits.ch_s:Shape:=⟨[(0,ob13),(2,ob1),(3,ob14),(4,ob3),(5,ob6),(6,ob6),(21,ob35),(22,ob3),(23,ob3)],[(3,ob8)]⟩
def whole_digits.ch_r:Ck:=Ck.ofLoop (S:=(Int)×(Int)×(Int)) (T:=(Int)×(Int)×(Int)) whole_digits.ch_s (fun X=>(X.2.2.2.1,(q4 X).1,(q4 X).2.2.2.1)) (fun ρ X Q Z=>whole_digits.ch_ Q.1 Q.2.1 (q4 X).2.1 (q4 X).2.2.1 Q.2.2 Z) (fun ρ X V Z=>Z 4 (Shape.inj whole_digits.ch_s (X.1,X.2.1,X.2.2.1,V.1,V.2.1,(q4 X).2.1,(q4 X).2.2.1,V.2.2,(q8 X))))
def whole_digits.cs_ (part:Int)(t6:Int)(t40:Int)(t41:Int)(mag:List (Int))(Z:((Int)×(Int)×(List Int))⊕((Int)×(Int)×(List Int))→Option ρ):Option ρ:=
  br (decide (t41<t40))
   (bnd (inR (mag.length) t41) fun y=>
    bnd (idx mag t41) fun y1=>
    bnd (inR (mag.length) t41) fun y2=>
    bnd (idx mag t41) fun y3=>
    Z (.inl ((Int.fdiv (u64.wrap (part+u64.wrap (IntKind.wrap IntKind.u64 y1*t6))) ((2:Int) ^32)),(i64.wrap (t41+1)),(List.set mag (Int.toNat t41) (u32.wrap (u64.wrap (part+u64.wrap (IntKind.wrap IntKind.u64 y1*t6))))))))
   (Z (.inr (part,t41,mag)))
def whole_digits.cs_s:Shape:=⟨[(0,ob13),(2,ob1),(3,ob14),(4,ob3),(5,ob6),(6,ob6),(21,ob35),(22,ob3),(23,ob3),(40,ob3),(41,ob3)],[(3,ob8)]⟩
def whole_digits.cs_r:Ck:=Ck.ofLoop (S:=(Int)×(Int)×(List Int)) (T:=(Int)×(Int)×(List Int)) whole_digits.cs_s (fun X=>(X.2.2.2.1,(q8 X).2.1,(q8 X).2.2.1)) (fun ρ X Q Z=>whole_digits.cs_ Q.1 (q4 X).1 (q8 X).1 Q.2.1 Q.2.2 Z) (fun ρ X V Z=>Z 6 (Shape.inj whole_digits.cs_s (X.1,X.2.1,X.2.2.1,V.1,(q4 X).1,(q4 X).2.1,(q4 X).2.2.1,(q4 X).2.2.2.1,(q8 X).1,V.2.1,V.2.2,())))
def whole_digits.ca_ (text:List UInt8)(mag:List (Int))(Z:((List UInt8)×(List Int))⊕((List UInt8)×(List Int))→Option ρ):Option ρ:=
  br (decide ((text.length:Int)>0))
   (bnd (okIf (decide ((0:Int)≤i64.wrap (Int.tmod (i64.wrap ((text.length:Int)-1)) (9:Int)+1))&&decide (i64.wrap (Int.tmod (i64.wrap ((text.length:Int)-1)) (9:Int)+1)≤(text.length:Int)))) fun y=>
    bnd (okIf (decide (List.length (List.take (Int.toNat (i64.wrap (Int.tmod (i64.wrap ((text.length:Int)-1)) (9:Int)+1))) text)≤140737488355328))) fun y1=>
    bnd (iter (fun s↦whole_digits.ch_ s.1 s.2.1 (List.map (fun b↦(↑(UInt8.toNat b):Int)) (List.take (Int.toNat (i64.wrap (Int.tmod (i64.wrap ((text.length:Int)-1)) (9:Int)+1))) text)) (↑(List.length (List.map (fun b↦(↑(UInt8.toNat b):Int)) (List.take (Int.toNat (i64.wrap (Int.tmod (i64.wrap ((text.length:Int)-1)) (9:Int)+1))) text))):Int) s.2.2 some) ((0:Int),(1:Int),(0:Int))) fun y2=>
    bnd (okIf (decide ((0:Int)≤i64.wrap (Int.tmod (i64.wrap ((text.length:Int)-1)) (9:Int)+1))&&decide (i64.wrap (Int.tmod (i64.wrap ((text.length:Int)-1)) (9:Int)+1)≤(text.length:Int))&&decide ((text.length:Int)≤(text.length:Int)))) fun y3=>
    bnd (iter (fun s↦whole_digits.cs_ s.1 y2.2.1 (mag.length:Int) s.2.1 s.2.2 some) (y2.1,(0:Int),mag)) fun y4=>
    br (decide (y4.1>0))
     (bnd (okIf (decide ((List.length y4.2.2+1)*4≤140737488355328)&&decide (List.length y4.2.2+1≤140737488355328))) fun y5=>
      Z (.inl ((List.drop (Int.toNat (i64.wrap (Int.tmod (i64.wrap ((text.length:Int)-1)) (9:Int)+1))) (List.take (Int.toNat (text.length:Int)) text)),(y4.2.2++[u32.wrap (y4.1)]))))
     (Z (.inl ((List.drop (Int.toNat (i64.wrap (Int.tmod (i64.wrap ((text.length:Int)-1)) (9:Int)+1))) (List.take (Int.toNat (text.length:Int)) text)),y4.2.2))))
   (Z (.inr (text,mag)))
def whole_digits.ca_s:Shape:=⟨[(0,ob13),(2,ob1),(3,ob14)],[(3,ob8)]⟩
def whole_digits.ca_r:Ck:=Ck.ofLoop (S:=(List UInt8)×(List Int)) (T:=(List UInt8)×(List Int)) whole_digits.ca_s (fun X=>(X.1,X.2.2.1)) (fun ρ X Q Z=>whole_digits.ca_ Q.1 Q.2 Z) (fun ρ X V Z=>Z 2 (Shape.inj whole_digits.ca_s (V.1,X.2.1,V.2,())))
def whole_digits (text:List UInt8):Option (List Int):=
  bnd (iter (fun s↦whole_digits.ca_ s.1 s.2 some) (text,[])) fun y=>
  some y.2
def whole_digits.ce:Go.Ql.Callee:=⟨[.str],[(.sl (.int .u32))],fun X=>whole_digits X⟩
def whole_digits.G:Env:=⟨69,tab,[],[0,2,3,4,5,6,8,9,12,21,22,23,24,40,41,42,62],[3],[],[(100002,whole_digits.ca_r),(100012,whole_digits.cs_r),(100006,whole_digits.ch_r)],[],jE,[]⟩
theorem whole_digits.p0:PcA whole_digits.G Tryz.f60 0:=
  Ja (s:=whole_digits.ca_r) (by kernel_rfl) (by kernel_rfl) (jU (sh:=whole_digits.ca_s) (I:=fun X Q=>(Q.1,X.2.1,Q.2,())) (fun X=>rfl) (fun ρ X Q Z=>(jl (jb fun _=>(jb fun _=>(jb fun _=>(jb fun _=>(jb fun _=>(jl (jb fun _=>jc) jc)))))) jc)) (fun ρ X t k=>(by kernel_rfl)) (fun X s=>by kernel_rfl))
theorem whole_digits.p1:PcA whole_digits.G Tryz.f60 1:=
  Ja (s:=whole_digits.ch_r) (by kernel_rfl) (by kernel_rfl) (jU (sh:=whole_digits.ch_s) (I:=fun X Q=>(X.1,X.2.1,X.2.2.1,Q.1,Q.2.1,(q4 X).2.1,(q4 X).2.2.1,Q.2.2,(q8 X))) (fun X=>rfl) (fun ρ X Q Z=>(jl (jb fun _=>jc) jc)) (fun ρ X t k=>(by kernel_rfl)) (fun X s=>by kernel_rfl))
theorem whole_digits.p2:PcA whole_digits.G Tryz.f60 2:=
  Ja (s:=whole_digits.cs_r) (by kernel_rfl) (by kernel_rfl) (jU (sh:=whole_digits.cs_s) (I:=fun X Q=>(X.1,X.2.1,X.2.2.1,Q.1,(q4 X).1,(q4 X).2.1,(q4 X).2.2.1,(q4 X).2.2.2.1,(q8 X).1,Q.2.1,Q.2.2,())) (fun X=>rfl) (fun ρ X Q Z=>(jl (jb fun _=>(jb fun _=>(jb fun _=>(jb fun _=>jc)))) jc)) (fun ρ X t k=>(by kernel_rfl)) (fun X s=>by kernel_rfl))
theorem whole_digits.ok:CalleeOk Tryz.prog 60 whole_digits.ce:=fn_ok (G:=whole_digits.G) jM mixed Tryz.func60 ⟨jF,jA,jo,jz⟩ (m:=3) (by kernel_rfl) ⟨⟨⟨trivial,whole_digits.p0⟩,whole_digits.p1⟩,whole_digits.p2⟩ (by kernel_rfl) (fun _=>by kernel_rfl)
def whole_Parse.c2 (text:List UInt8)(n:Int)(ok:Bool)(Z:Bool→Option ρ):Option ρ:=
  br (!ok)
   (Z true)
   (Z (decide (n<(text.length:Int))))
def whole_Parse.c2s:Shape:=⟨[(0,ob13),(2,ob5),(3,ob28),(4,ob3),(5,ob0)],[(2,ob4),(3,ob37)]⟩
def whole_Parse.c2x0:Shape:=⟨[(0,ob13),(2,ob5),(3,ob28),(4,ob3),(5,ob0),(19,ob0)],[(2,ob4),(3,ob37)]⟩
def whole_Parse.c2r:Ck:=Ck.of (T:=Bool) whole_Parse.c2s (fun ρ X Z=>whole_Parse.c2 X.1 X.2.1 X.2.2.1 Z) (fun ρ X V Z=>Z 0 (Shape.inj whole_Parse.c2x0 (X.1,X.2.1,X.2.2.1,V,X.2.2.2)))
def whole_Parse (text:List UInt8):Option ((Bool×(List Int))×((Int)×(Int))):=
  bnd (whole_number text true) fun y=>
  bnd (whole_Parse.c2 text y.1 y.2 some) fun y1=>
  br y1
   (some ((false,[]),(1:Int),y.1))
   (bnd (Jq text (Array.toList (ByteArray.data (ByteArray.mk #[45])))) fun y2=>
    br (decide ((y2.length:Int)>1000))
     (some ((false,[]),(2:Int),(0:Int)))
     (bnd (whole_digits y2) fun y3=>
      bnd (whole_made (decide ((y2.length:Int)<(text.length:Int))) y3) fun y4=>
      some ((y4.1,y4.2),(0:Int),(0:Int))))
def whole_Parse.ce:Go.Ql.Callee:=⟨[.str],[(.st (.pair .bool (.sl (.int .u32)))),(.st (.pair (.int .i64) (.int .i64)))],fun X=>whole_Parse X⟩
def whole_Parse.G:Env:=⟨39,tab,[(57,whole_number.ce),(58,Jq.ce),(60,whole_digits.ce),(59,whole_made.ce)],[0,2,3,4,5,6,19,27],[],[],[(2,whole_Parse.c2r)],[],jE,[]⟩
theorem whole_Parse.p0:PcA whole_Parse.G Tryz.f27 0:=
  jv (s:=whole_Parse.c2r) (by kernel_rfl) (by kernel_rfl) (jp (sh:=whole_Parse.c2s) (fun ρ X Z=>(jl jc jc)) (fun ρ X t k=>(by kernel_rfl)) (fun X=>by kernel_rfl))
theorem whole_Parse.ok:CalleeOk Tryz.prog 27 whole_Parse.ce:=fn_ok (G:=whole_Parse.G) jM mixed Tryz.func27 ⟨(jh whole_number.ok (jh Jq.ok (jh whole_digits.ok (jh whole_made.ok jF)))),jA,jo,jz⟩ (m:=1) (by kernel_rfl) ⟨trivial,whole_Parse.p0⟩ (by kernel_rfl) (fun _=>by kernel_rfl)
abbrev ob72:SD:=.one (.ref 1000800 0)
abbrev ob73:SD:=.one (.ref 1000900 0)
def jT.pre:Shape:=⟨[(0,ob46),(1,ob72),(2,ob73),(9,ob0)],[(1000800,ob37),(1000900,ob37),(2000700,ob65)]⟩
def jT.chk:St→Bool:=fun _=>true
def jT.c2 (ue:List ((List (Bool×(List Int)))×(Int)))(Z:Unit→Option ρ):Option ρ:=
  bnd (idx ue (0:Int)) fun y=>
  Z ()
def jT.c2s:Shape:=⟨[(0,ob46),(1,ob72),(2,ob73)],[(1000800,ob37),(1000900,ob37),(2000700,ob65)]⟩
def jT.c2r:Ck:=Ck.of (T:=Unit) jT.c2s (fun ρ X Z=>jT.c2 (q4 X).1 Z) (fun ρ X V Z=>Z 0 (Shape.inj jT.c2s (X.2.2.1,X.2.2.2.1,X.2.2.1,X.2.2.2.1,(List.set (q4 X).1 (0:Nat) (List.replicate (8:Nat) (false,[]),(0:Int))),())))
def jT (t9:Bool) (ua:Int) (ub:Int) (uc:Int) (ud:Int) (ue:List ((List (Bool×(List Int)))×(Int))):Option ((Unit)⊕((Int)×(Int))):=
  br t9
   (bnd (jT.c2 ue some) fun y=>
    some (Sum.inl ()))
   (some (Sum.inl ()))
def jT.F (X:densU jT.pre.tys):Option (dens []⊕((.st (.pair (.int .i64) (.int .i64))):Ty).den):=jT X.1 X.2.1 X.2.2.1 X.2.2.2.1 (q4 X).1 (q4 X).2.1
def jT.G:Env:=⟨13,tab,[],[0,1,2,3,9],[2000700],[(2,[⟨[],[],[11,12],[]⟩,⟨[],[],[10],[2000700]⟩,⟨[1],[],[10],[2000700]⟩,⟨[0],[2000700],[11,12],[]⟩,⟨[2,1,3,0],[1000800],[],[]⟩])],[(2,jT.c2r)],[],jE,[]⟩
theorem jT.p0:kB jT.G (ko (JC jT.G.cks (JD (segF Tryz.f25))) 0).1 (ko (JC jT.G.cks (JD (segF Tryz.f25))) 0).2:=
  jv (s:=jT.c2r) (by kernel_rfl) (by kernel_rfl) (jp (sh:=jT.c2s) (fun ρ X Z=>(jb fun _=>jc)) (fun ρ X t k=>(by kernel_rfl)) (fun X=>by kernel_rfl))
theorem jT.ok:SegOk jT.G (segF Tryz.f25) jT.pre jT.chk [] 29 (.st (.pair (.int .i64) (.int .i64))) jT.F:=segOk (m:=1) ⟨trivial,jT.p0⟩ (by kernel_rfl)
abbrev ob74:SD:=.one (.ref 10 0)
abbrev ob75:SD:=.one (.val .nn)
def je.pre:Shape:=⟨[(0,ob13),(2,ob46),(3,ob72)],[(1000800,ob37),(2000700,ob65)]⟩
def je.chk:St→Bool:=fun st=>match look st.slots 2,look st.slots 3,look st.objs 2000700,look st.objs 1000800 with | some (.one (.aptr 2000700 0)),some (.one (.ref 1000800 0)),some (.arr 0 false 27 (.st (.pair (.ar 8 (.st (.pair .bool (.sl (.int .u32))))) (.int .i64))) _),some (.box [.val (.int .i64) _,.val (.int .i64) _])=>true | _,_,_,_=>false
def je.cj_ (g0:Int)(Z:(Unit)⊕(Unit)→Option ρ):Option ρ:=
  br (g0 !=0)
   (Z (.inl ()))
   (Z (.inr ()))
def je.cj_s:Shape:=⟨[(0,ob13),(2,ob46),(3,ob72),(4,ob71),(5,ob13),(6,ob55),(7,ob3),(8,ob13),(9,ob59),(10,ob74),(22,ob71),(23,ob3),(24,ob3)],[(6,ob47),(9,ob4),(10,ob37),(18,ob68),(1000800,ob37),(2000700,ob65)]⟩
def je.cj_x0:Shape:=⟨[(0,ob13),(2,ob46),(3,ob72),(4,ob71),(5,ob13),(6,ob55),(7,ob3),(8,ob13),(9,ob59),(10,ob74),(22,ob71),(23,ob3),(24,ob3)],[(6,ob47),(9,ob4),(10,ob37),(18,ob68),(900001,ob70),(1000800,ob37),(2000700,ob65)]⟩
def je.cj_r:Ck:=Ck.of (T:=(Unit)⊕(Unit)) je.cj_s (fun ρ X Z=>je.cj_ (q8 X).2.2.2.1 Z) (fun ρ X V Z=>sel V (fun V=>Z 1000000 (Shape.inj je.cj_x0 (X.1,X.2.1,X.2.2.1,X.2.2.2.1,(q4 X).1,(q4 X).2.1,(q4 X).2.2.1,(q4 X).2.2.2.1,(q8 X).1,(q8 X).2.1,(q8 X).2.2.1,(q8 X).2.2.2.1,(q4 (q8 X)).1,(q4 (q8 X)).2.1,(q4 (q8 X)).2.2.1,((q8 X).2.2.2.1,(q4 (q8 X)).1),(q4 (q8 X)).2.2.2))) (fun V=>Z 0 (Shape.inj je.cj_s X)))
def je.cc_ (t22:List (List UInt8))(t23:Int)(t24:Int)(c:List (Bool×(List Int)))(Z:((Int)×(List (Bool×(List Int))))⊕(((Int)×(List (Bool×(List Int)))×((Int)×(Int)))⊕((Int)×(List (Bool×(List Int)))))→Option ρ):Option ρ:=
  br (decide (t24<t23))
   (bnd (idx t22 t24) fun y=>
    bnd (whole_Parse y) fun y1=>
    bnd (je.cj_ y1.2.1 some) fun y2=>
    sel y2
     (fun u=>Z (.inr (.inl (t24,c,(y1.2.1,y1.2.2)))))
     (fun v=>bnd (okIf (decide ((0:Ty.den (Ty.int IntKind.i64))≤t24)&&decide (t24<(↑(8:Nat):Int)))) fun y3=>
      bnd (inR (c.length) t24) fun y4=>
      bnd (idx c t24) fun y5=>
      Z (.inl ((i64.wrap (t24+1)),(List.set c (Int.toNat t24) (y1.1.1,y1.1.2))))))
   (Z (.inr (.inr (t24,c))))
def je.cc_s:Shape:=⟨[(0,ob13),(2,ob46),(3,ob72),(4,ob71),(5,ob13),(6,ob55),(22,ob71),(23,ob3),(24,ob3)],[(6,ob47),(18,ob68),(1000800,ob37),(2000700,ob65)]⟩
def je.cc_x0:Shape:=⟨[(0,ob13),(2,ob46),(3,ob72),(4,ob71),(5,ob13),(6,ob55),(22,ob71),(23,ob3),(24,ob3)],[(6,ob47),(18,ob68),(900001,ob70),(1000800,ob37),(2000700,ob65)]⟩
def je.cc_r:Ck:=Ck.ofLoop (S:=(Int)×(List (Bool×(List Int)))) (T:=((Int)×(List (Bool×(List Int)))×((Int)×(Int)))⊕((Int)×(List (Bool×(List Int))))) je.cc_s (fun X=>((q4 X).2.1,(q4 X).2.2.1)) (fun ρ X Q Z=>je.cc_ X.2.2.2.1 (q4 X).1 Q.1 Q.2 Z) (fun ρ X V Z=>sel V (fun V=>Z 1000000 (Shape.inj je.cc_x0 (X.1,X.2.1,X.2.2.1,X.2.2.2.1,(q4 X).1,V.1,V.2.1,(q4 X).2.2.2.1,(q8 X).1,V.2.2,(q8 X).2))) (fun V=>Z 2 (Shape.inj je.cc_s (X.1,X.2.1,X.2.2.1,X.2.2.2.1,(q4 X).1,V.1,V.2,(q4 X).2.2.2))))
def je.c15 (n:Int)(err:Bool)(Z:Bool→Option ρ):Option ρ:=
  br (!!err)
   (Z true)
   (Z (decide (n>10000)))
def je.c15s:Shape:=⟨[(0,ob13),(2,ob46),(3,ob72),(4,ob71),(5,ob13),(6,ob55),(11,ob3),(12,ob3),(13,ob75),(22,ob71),(23,ob3),(24,ob3)],[(6,ob47),(18,ob68),(1000800,ob37),(2000700,ob65)]⟩
def je.c15x0:Shape:=⟨[(0,ob13),(2,ob46),(3,ob72),(4,ob71),(5,ob13),(6,ob55),(11,ob3),(12,ob3),(13,ob75),(22,ob71),(23,ob3),(24,ob3),(56,ob0)],[(6,ob47),(18,ob68),(1000800,ob37),(2000700,ob65)]⟩
def je.c15r:Ck:=Ck.of (T:=Bool) je.c15s (fun ρ X Z=>je.c15 (q4 X).1 (q4 X).2.1 Z) (fun ρ X V Z=>Z 0 (Shape.inj je.c15x0 (X.1,X.2.1,X.2.2.1,X.2.2.2.1,(q4 X).1,(q4 X).2.1,(q4 X).2.2.1,(q4 X).2.2.2.1,(q8 X).1,V,(q8 X).2)))
def je.cu_ (n:Int)(err:Bool)(Z:(Unit)⊕(Unit)→Option ρ):Option ρ:=
  bnd (je.c15 n err some) fun y=>
  br y
   (Z (.inl ()))
   (Z (.inr ()))
def je.cu_x0:Shape:=⟨[(0,ob13),(2,ob46),(3,ob72),(4,ob71),(5,ob13),(6,ob55),(11,ob3),(12,ob3),(13,ob75),(22,ob71),(23,ob3),(24,ob3)],[(6,ob47),(18,ob68),(900001,ob70),(1000800,ob37),(2000700,ob65)]⟩
def je.cu_r:Ck:=Ck.of (T:=(Unit)⊕(Unit)) je.c15s (fun ρ X Z=>je.cu_ (q4 X).1 (q4 X).2.1 Z) (fun ρ X V Z=>sel V (fun V=>Z 1000000 (Shape.inj je.cu_x0 (X.1,X.2.1,X.2.2.1,X.2.2.2.1,(q4 X).1,(q4 X).2.1,(q4 X).2.2.1,(q4 X).2.2.2.1,(q8 X).1,(q8 X).2.1,(q8 X).2.2.1,(q8 X).2.2.2.1,((2:Int),(0:Int)),(q4 (q8 X))))) (fun V=>Z 0 (Shape.inj je.c15s X)))
def je.cx_ (low:List UInt8)(e:Int)(Z:(Unit)⊕(Int)→Option ρ):Option ρ:=
  br (!low==Array.toList (ByteArray.data (ByteArray.mk #[])))
   (bnd (ky low) fun y=>
    bnd (je.cu_ y.1 y.2 some) fun y1=>
    sel y1
     (fun u=>Z (.inl ()))
     (fun v=>Z (.inr y.1)))
   (Z (.inr e))
def je.cx_s:Shape:=⟨[(0,ob13),(2,ob46),(3,ob72),(4,ob71),(5,ob13),(6,ob55),(11,ob3),(22,ob71),(23,ob3),(24,ob3)],[(6,ob47),(18,ob68),(1000800,ob37),(2000700,ob65)]⟩
def je.cx_x0:Shape:=⟨[(0,ob13),(2,ob46),(3,ob72),(4,ob71),(5,ob13),(6,ob55),(11,ob3),(22,ob71),(23,ob3),(24,ob3)],[(6,ob47),(18,ob68),(900001,ob70),(1000800,ob37),(2000700,ob65)]⟩
def je.cx_r:Ck:=Ck.of (T:=(Unit)⊕(Int)) je.cx_s (fun ρ X Z=>je.cx_ X.2.2.1 X.2.2.2.1 Z) (fun ρ X V Z=>sel V (fun V=>Z 1000000 (Shape.inj je.cx_x0 (X.1,X.2.1,X.2.2.1,X.2.2.2.1,(q4 X).1,(q4 X).2.1,(q4 X).2.2.1,(q4 X).2.2.2.1,(q8 X).1,(q8 X).2.1,((2:Int),(0:Int)),(q8 X).2.2))) (fun V=>Z 0 (Shape.inj je.cx_s (X.1,X.2.1,X.2.2.1,V,(q4 X)))))
def je.cE_ (text:List UInt8)(e:Int)(c:List (Bool×(List Int)))(ue:List ((List (Bool×(List Int)))×(Int)))(Z:(List ((List (Bool×(List Int)))×(Int)))⊕(List ((List (Bool×(List Int)))×(Int)))→Option ρ):Option ρ:=
  bnd (okIf (decide (c.length=8))) fun y=>
  bnd (js c e) fun y1=>
  bnd (idx ue (0:Int)) fun y2=>
  bnd (idx (List.set ue (0:Nat) y1) (0:Int)) fun y3=>
  bnd (jj y3) fun y4=>
  br (!y4==text)
   (Z (.inl (List.set ue (0:Nat) y1)))
   (Z (.inr (List.set ue (0:Nat) y1)))
def je.cE_r:Ck:=Ck.of (T:=(List ((List (Bool×(List Int)))×(Int)))⊕(List ((List (Bool×(List Int)))×(Int)))) je.cx_s (fun ρ X Z=>je.cE_ X.1 X.2.2.2.1 (q4 X).2.2.2.1 (q4 (q8 X)).1 Z) (fun ρ X V Z=>sel V (fun V=>Z 1000000 (Shape.inj je.cx_x0 (X.1,X.2.1,X.2.2.1,X.2.2.2.1,(q4 X).1,(q4 X).2.1,(q4 X).2.2.1,(q4 X).2.2.2.1,(q8 X).1,(q8 X).2.1,((3:Int),(0:Int)),(q8 X).2.2.1,(q8 X).2.2.2.1,V,()))) (fun V=>Z 0 (Shape.inj je.cx_s (X.1,X.2.1,X.2.2.1,X.2.2.2.1,(q4 X).1,(q4 X).2.1,(q4 X).2.2.1,(q4 X).2.2.2.1,(q8 X).1,(q8 X).2.1,(q8 X).2.2.1,(q8 X).2.2.2.1,V,()))))
def je.c21 (ue:List ((List (Bool×(List Int)))×(Int)))(Z:List ((List (Bool×(List Int)))×(Int))→Option ρ):Option ρ:=
  bnd (idx ue (0:Int)) fun y=>
  bnd (idx ue (0:Int)) fun y1=>
  Z (List.set ue (0:Nat) y)
def je.c21r:Ck:=Ck.of (T:=List ((List (Bool×(List Int)))×(Int))) je.cx_s (fun ρ X Z=>je.c21 (q4 (q8 X)).1 Z) (fun ρ X V Z=>Z 0 (Shape.inj je.cx_s (X.1,X.2.1,X.2.2.1,X.2.2.2.1,(q4 X).1,(q4 X).2.1,(q4 X).2.2.1,(q4 X).2.2.2.1,(q8 X).1,(q8 X).2.1,(q8 X).2.2.1,(q8 X).2.2.2.1,V,())))
def je (text:List UInt8) (ua:Int) (ub:Int) (ue:List ((List (Bool×(List Int)))×(Int))):Option ((((List (Bool×(List Int)))×(Int))×((Int)×(Int)))⊕((Int)×(Int))):=
  bnd (jf text (0:Int)) fun y=>
  sel y
   (fun u=>bnd (iter (fun s↦je.cc_ u.1 (↑(List.length u.1):Int) s.1 s.2 some) ((0:Int),List.replicate (8:Nat) (false,[]))) fun y1=>
    sel y1
     (fun u_1=>some (Sum.inr u_1.2.2))
     (fun v_1=>bnd (je.cx_ u.2.1 (0:Int) some) fun y2=>
      sel y2
       (fun u_2=>some (Sum.inr ((2:Int),(0:Int))))
       (fun v_2=>bnd (je.cE_ text v_2 v_1.2 ue some) fun y3=>
        sel y3
         (fun u_3=>some (Sum.inr ((3:Int),(0:Int))))
         (fun v_3=>bnd (je.c21 v_3 some) fun y4=>
          bnd (idx y4 (0:Int)) fun y5=>
          some (Sum.inl (y5,ua,ub))))))
   (fun v=>some (Sum.inr v.1))
def je.F (X:densU je.pre.tys):Option (dens [(.st (.pair (.ar 8 (.st (.pair .bool (.sl (.int .u32))))) (.int .i64))),(.st (.pair (.int .i64) (.int .i64)))]⊕((.st (.st (.pair (.int .i64) (.int .i64)))):Ty).den):=je X.1 X.2.1 X.2.2.1 X.2.2.2.1
def je.G:Env:=⟨73,tab,[(27,whole_Parse.ce),(28,ky.ce),(29,js.ce),(7,jj.ce)],[0,2,3,4,5,6,7,8,9,10,11,12,13,22,23,24,25,36,45,56,67],[2,6,2000700],[(21,[⟨[],[],[72],[]⟩,⟨[],[],[71],[2000700]⟩,⟨[0],[2000700],[72],[]⟩,⟨[1,2,0],[1000800],[],[]⟩])],[(21,je.c21r),(273735,je.cE_r),(253261,je.cx_r),(261445,je.cu_r),(15,je.c15r),(100005,je.cc_r),(232773,je.cj_r)],[],jE,[(26,jf.ma)]⟩
theorem je.p0:kB je.G (ko (JC je.G.cks (JD (segF Tryz.f4))) 0).1 (ko (JC je.G.cks (JD (segF Tryz.f4))) 0).2:=
  Ja (s:=je.cc_r) (by kernel_rfl) (by kernel_rfl) (jU (sh:=je.cc_s) (I:=fun X Q=>(X.1,X.2.1,X.2.2.1,X.2.2.2.1,(q4 X).1,Q.1,Q.2,(q4 X).2.2.2)) (fun X=>rfl) (fun ρ X Q Z=>(jl (jb fun _=>(jb fun _=>(jb fun _=>(kj (fun _=>jc) (fun _=>(jb fun _=>(jb fun _=>(jb fun _=>jc)))))))) jc)) (fun ρ X t k=>(kj (fun _=>(by kernel_rfl)) (fun _=>(by kernel_rfl)))) (fun X s=>by kernel_rfl))
theorem je.p1:kB je.G (ko (JC je.G.cks (JD (segF Tryz.f4))) 1).1 (ko (JC je.G.cks (JD (segF Tryz.f4))) 1).2:=
  Jo (s:=je.cj_r) (by kernel_rfl) (by kernel_rfl) (jp (sh:=je.cj_s) (fun ρ X Z=>(jl jc jc)) (fun ρ X t k=>(kj (fun _=>(by kernel_rfl)) (fun _=>(by kernel_rfl)))) (fun X=>by kernel_rfl))
theorem je.p2:kB je.G (ko (JC je.G.cks (JD (segF Tryz.f4))) 2).1 (ko (JC je.G.cks (JD (segF Tryz.f4))) 2).2:=
  Jo (s:=je.cx_r) (by kernel_rfl) (by kernel_rfl) (jp (sh:=je.cx_s) (fun ρ X Z=>(jl (jb fun _=>(jb fun _=>(kj (fun _=>jc) (fun _=>jc)))) jc)) (fun ρ X t k=>(kj (fun _=>(by kernel_rfl)) (fun _=>(by kernel_rfl)))) (fun X=>by kernel_rfl))
theorem je.p3:kB je.G (ko (JC je.G.cks (JD (segF Tryz.f4))) 3).1 (ko (JC je.G.cks (JD (segF Tryz.f4))) 3).2:=
  Jo (s:=je.cu_r) (by kernel_rfl) (by kernel_rfl) (jp (sh:=je.c15s) (fun ρ X Z=>(jb fun _=>(jl jc jc))) (fun ρ X t k=>(kj (fun _=>(by kernel_rfl)) (fun _=>(by kernel_rfl)))) (fun X=>by kernel_rfl))
theorem je.p4:kB je.G (ko (JC je.G.cks (JD (segF Tryz.f4))) 4).1 (ko (JC je.G.cks (JD (segF Tryz.f4))) 4).2:=
  jv (s:=je.c15r) (by kernel_rfl) (by kernel_rfl) (jp (sh:=je.c15s) (fun ρ X Z=>(jl jc jc)) (fun ρ X t k=>(by kernel_rfl)) (fun X=>by kernel_rfl))
theorem je.p5:kB je.G (ko (JC je.G.cks (JD (segF Tryz.f4))) 5).1 (ko (JC je.G.cks (JD (segF Tryz.f4))) 5).2:=
  Jo (s:=je.cE_r) (by kernel_rfl) (by kernel_rfl) (jp (sh:=je.cx_s) (fun ρ X Z=>(jb fun _=>(jb fun _=>(jb fun _=>(jb fun _=>(jb fun _=>(jl jc jc))))))) (fun ρ X t k=>(kj (fun _=>(by kernel_rfl)) (fun _=>(by kernel_rfl)))) (fun X=>by kernel_rfl))
theorem je.p6:kB je.G (ko (JC je.G.cks (JD (segF Tryz.f4))) 6).1 (ko (JC je.G.cks (JD (segF Tryz.f4))) 6).2:=
  jv (s:=je.c21r) (by kernel_rfl) (by kernel_rfl) (jp (sh:=je.cx_s) (fun ρ X Z=>(jb fun _=>(jb fun _=>jc))) (fun ρ X t k=>(by kernel_rfl)) (fun X=>by kernel_rfl))
theorem je.ok:SegOk je.G (segF Tryz.f4) je.pre je.chk [(.st (.pair (.ar 8 (.st (.pair .bool (.sl (.int .u32))))) (.int .i64))),(.st (.pair (.int .i64) (.int .i64)))] 62 (.st (.st (.pair (.int .i64) (.int .i64)))) je.F:=segOk (m:=7) ⟨⟨⟨⟨⟨⟨⟨trivial,je.p0⟩,je.p1⟩,je.p2⟩,je.p3⟩,je.p4⟩,je.p5⟩,je.p6⟩ (by kernel_rfl)
end
end W
end

section
set_option maxHeartbeats 800000
set_option maxRecDepth 100000
namespace W
open Go Go.Ql Go.Proofs
theorem as_nil (w:World):(Instr.typeAssert .nilIface 20 62 true).run Tryz.prog w=.ok (.tuple #[.agg #[.int .i64 0,.int .i64 0],.bool false]) w:=by kernel_rfl
theorem as_yes (v:Value) (w:World):(Instr.typeAssert (.iface 62 v) 20 62 true).run Tryz.prog w=.ok (.tuple #[v,.bool true]) w:=by kernel_rfl
theorem catch_idle (p q:Value) (w:World):CallsD Tryz.prog 25 #[p,q] .returning w fun e u' w'=>e=.returned (.tuple #[])∧u'=.returning∧Same w w':=by
 refine callsD_of_wpS Tryz.func25 rfl fun c₀ cs hu=>?_
 apply wpS_seq
 apply wpS_region
 simp [wpOpsS,go_sem,recoverD,hu,Tryz.ntmps25,Exit.thenS,as_nil]
 apply wpS_seq
 apply wpS_region
 simp [wpOpsS,go_sem,Exit.thenS]
 refine wpS_cond (t:=false) (by simp [Act.eval,Array.replicate]) ?_
 simp only [Bool.false_eq_true,if_false]
 refine wpS_of_wp (wp_skip ?_)
 cases c₀
 simp_all [bodyPostS,results,Tryz.results25]
 exact Same.alloc _ _
abbrev numT:Ty:=.st (.pair (.ar 8 (.st (.pair .bool (.sl (.int .u32))))) (.int .i64))
abbrev fauT:Ty:=.st (.pair (.int .i64) (.int .i64))
noncomputable def kfin (e:Ex) (st:St):Option (dens [numT,fauT]):=bif Nat.blt e 2 then resK je.G ⟨[(2,.one (.aptr 2000700 0)),(3,.one (.ref 1000800 0))],st.objs⟩ Tryz.f4.results.toList (finK (Ql.look st.objs) [numT,fauT] fun x=>x) else none
theorem tail_eq (x:numT.den) (f0 f1 c at_:Int):execK jT.G (JD (segF Tryz.f25)) _ (jT.pre.inj (true,f0,f1,c,at_,[x],())) kfin=some ((List.replicate 8 (false,[]),(0:Int)),((c,at_):Int×Int)):=by kernel_rfl
theorem Uu {A B:Ob} {id:Nat} {ob:Ob} (h:look [(1000800,A),(2000700,B)] id=some ob):(id=1000800∧ob=A)∨(id=2000700∧ob=B):=by
 simp only [Ql.look] at h
 cases h1:Nat.beq 1000800 id with
 | true=>rw [h1] at h;exact .inl ⟨(beqN.1 h1).symm,(Option.some.inj h).symm⟩
 | false=>
   rw [h1] at h
   cases h2:Nat.beq 2000700 id with
   | true=>rw [h2] at h;exact .inr ⟨(beqN.1 h2).symm,(Option.some.inj h).symm⟩
   | false=>rw [h2] at h;cases h
theorem clo_all:AllOk Tryz.prog jT.G:=⟨jF,jA,jo,jz⟩
theorem rd_ints {w:World} {c d:Int} (Z:Nat→Prop) (nm:Names) (objs:List (Nat×Ob)):rdAs w Z nm objs [.val (.int .i64) c,.val (.int .i64) d] [.int .i64 c,.int .i64 d]:=
 ⟨rfl,fun i a v h1 h2=>by
  match i,h1,h2 with
  | 0,h1,h2=>cases h1;cases h2;rfl
  | 1,h1,h2=>cases h1;cases h2;rfl
  | i+2,h1,_=>cases h1⟩
theorem ints_cells {c d:Int}:∀x∈[At.val (.int .i64) c,At.val (.int .i64) d],∃t d,x=At.val t d:=by
 intro x hx
 simp only [List.mem_cons,List.not_mem_nil,or_false] at hx
 rcases hx with rfl | rfl<;>exact ⟨_,_,rfl⟩
theorem catch_thrown {n:Nat} {w0 w:World} {Z:Nat→Prop} {nm0:Names} {df:List Deferred} {st:St} {a:Act} {nm:Names} (hR:Rel n w0 ⟨Z,fun _=>False,nm0,df⟩ st a w nm) {x:numT.den} {f0 f1:Int}
 (h2:look st.objs 2000700=some (.arr 0 false 27 numT [x])) (h3:look st.objs 1000800=some (.box [.val (.int .i64) f0,.val (.int .i64) f1])) {b2 b3 m c:Nat}
 (e2:nm 2000700=.slice (some ⟨b2,0,none⟩) m c) (e3:nm 1000800=.pointer (some ⟨b3,0,none⟩)) (code at_:Int) (older:List PanicEntry)
 {a2:Act} (s2:a2.tmps.size=73) (t2:a2.tmps[2]?=some (.pointer (some ⟨b2,0,none⟩))) (t3:a2.tmps[3]?=some (.pointer (some ⟨b3,0,none⟩))) :
 CallsD Tryz.prog 25 #[.pointer (some ⟨b2,0,none⟩),.pointer (some ⟨b3,0,none⟩)] (.panicking ({ v:=.iface 62 (.agg #[.int .i64 code,.int .i64 at_]),recovered:=false }::older)) w
 fun e u' w'=>e=.returned (.tuple #[])∧u'=.panicking ({ v:=.iface 62 (.agg #[.int .i64 code,.int .i64 at_]),recovered:=true }::older) ∧
  ∃v,(results Tryz.f4 a2.tmps).run Tryz.prog w'=.ok v w'∧Same w0 w'∧rdRes w' (Vu w0 w' Z) [numT,fauT] ((List.replicate 8 (false,[]),(0:Int)),((code,at_):Int×Int)) v:=by
 refine callsD_of_wpS Tryz.func25 rfl fun c₀ cs hu=>?_
 apply wpS_seq
 apply wpS_region
 simp [wpOpsS,go_sem,recoverD,hu,Tryz.ntmps25,Exit.thenS,as_yes]
 apply wpS_seq
 apply wpS_region
 simp [wpOpsS,go_sem,Exit.thenS]
 refine wpS_of_wp ?_
 have r1:Rel n w0 ⟨Z,fun _=>False,nm0,df⟩ ⟨[],[(1000800,.box [.val (.int .i64) f0,.val (.int .i64) f1]),(2000700,.arr 0 false 27 numT [x])]⟩ a w nm:=hR.only (by
  intro id ob hl
  rcases Uu hl with ⟨rfl,rfl⟩ | ⟨rfl,rfl⟩
  ·exact ⟨h3,ints_cells⟩
  ·exact ⟨h2,trivial⟩)
 have r2:=r1.newBox (w1:=w.alloc (.cells #[.int .i64 code,.int .i64 at_] 62)) (id:=1000900) (b:=w.heap.size) (cs:=[.val (.int .i64) code,.val (.int .i64) at_]) (vs:=#[.int .i64 code,.int .i64 at_]) (T:=62)
  (by intro id ob hl;rcases Uu hl with ⟨rfl,rfl⟩ | ⟨rfl,rfl⟩;exact ints_cells;trivial) (Same.alloc _ _) rfl ⟨Nat.le_refl _,by simp⟩ (heap_alloc_new _ _) rd_ints (by intro u hu;simp at hu;rcases hu with rfl | rfl<;>rfl) ints_cells
 refine Ve jM clo_all mixed (JD (segF Tryz.f25)) jT.ok.draws jT.ok.ps (w0:=w0) (Z0:=⟨Z,fun _=>False,setN nm 1000900 (.pointer (some ⟨w.heap.size,0,none⟩)),[]⟩) (st:=jT.pre.inj (true,f0,f1,code,at_,[x],())) (nm:=setN nm 1000900 (.pointer (some ⟨w.heap.size,0,none⟩))) (r:=((List.replicate 8 (false,[]),(0:Int)),((code,at_):Int×Int))) (k:=kfin) ?_ (tail_eq x f0 f1 code at_) ?_
 ·refine r2.frame rfl (by simp;rfl) ?_
  intro t d hl
  have hl:=kV hl
  replace hl:(t,d)∈[(0,Dv.one (.aptr 2000700 0)),(1,.one (.ref 1000800 0)),(2,.one (.ref 1000900 0)),(9,.one (.val .bool true))]:=hl
  simp only [List.mem_cons,Prod.mk.injEq,List.not_mem_nil,or_false] at hl
  rcases hl with ⟨rfl,rfl⟩ | ⟨rfl,rfl⟩ | ⟨rfl,rfl⟩ | ⟨rfl,rfl⟩
  ·exact ⟨.pointer (some ⟨b2,0,none⟩),by simp,rfl,fun fz e t xs hl=>⟨b2,m,c,e2,rfl⟩⟩
  ·exact ⟨.pointer (some ⟨b3,0,none⟩),by simp,rfl,fun cs hl=>⟨b3,e3,rfl⟩⟩
  ·exact ⟨.pointer (some ⟨w.heap.size,0,none⟩),by simp,rfl,fun cs hl=>⟨w.heap.size,rfl,rfl⟩⟩
  ·exact ⟨.bool true,by simp,rfl⟩
 ·intro e st' a' w' nm' h' hk
  unfold kfin at hk
  cases hlt:Nat.blt e 2 with
  | false=>rw [hlt] at hk;cases hk
  | true=>
    rw [hlt] at hk
    simp only [cond_true] at hk
    have hF:=h'.frame (n':=73) (a':=a2) (df:=a2.defers) (sl:=[(2,.one (.aptr 2000700 0)),(3,.one (.ref 1000800 0))]) rfl s2 (by
     intro t d hl
     have hl:=kV hl
     simp only [List.mem_cons,Prod.mk.injEq,List.not_mem_nil,or_false] at hl
     rcases hl with ⟨rfl,rfl⟩ | ⟨rfl,rfl⟩
     ·refine ⟨_,t2,rfl,fun fz e t xs hl=>?_⟩
      have hg:=h'.given 2000700 _ (by decide) hl ⟨by decide,rfl⟩
      exact ⟨b2,m,c,hg.trans e2,rfl⟩
     ·refine ⟨_,t3,rfl,fun cs hl=>?_⟩
      have hg:=h'.given 1000800 _ (by decide) hl trivial
      exact ⟨b3,hg.trans e3,rfl⟩)
    obtain ⟨x',v,hx,hv,hs,hr⟩:=res_fin (G:=je.G) (fn:=Tryz.f4) (rs:=[numT,fauT]) (f:=fun x=>x) jM hF hk
    subst hx
    match e,hlt with
    | 0,_=>exact ⟨h'.defers,_,rfl,_,by simp [results,Tryz.results25],rfl,rfl,v,hv,hs,hr⟩
    | 1,_=>exact ⟨h'.defers,_,rfl,_,by simp [results,Tryz.results25],rfl,rfl,v,hv,hs,hr⟩
    | n+2,h=>rw [Nat.blt_eq] at h;omega
abbrev zeroN:numT.den:=(List.replicate 8 (false,[]),(0:Int))
noncomputable def ke (text:List UInt8):Option ((List (Bool×List Int)×Int)×(Int×Int)):=
 bnd (je text 0 0 [zeroN]) fun y=>sel y (fun u=>some u) (fun v=>some (zeroN,v))
noncomputable def ke.ce:Go.Ql.Callee:=⟨[.str],[numT,fauT],fun x_=>ke x_⟩
noncomputable def r0:Code:=match Tryz.f4.body with
 | some (.seq a _)=>a
 | _=>.skip
noncomputable def r1:Code:=match Tryz.f4.body with
 | some (.seq _ (.seq a _))=>a
 | _=>.skip
theorem body_eq:Tryz.f4.body=some (.seq r0 (.seq r1 (JD (segF Tryz.f4)))):=by kernel_rfl
noncomputable def ke.st0 (s:List UInt8):St:=⟨[(0,.one (.val .str s)),(2,.one (.aptr 2 0)),(3,.one (.ref 3 0))],[(2,.arr 0 false 27 numT [zeroN]),(3,.box [.val (.int .i64) 0,.val (.int .i64) 0])]⟩
theorem r0_eq (s:List UInt8):execK je.G r0 (Ex×St) ⟨[(0,.one (.val .str s))],[]⟩ (fun e st=>some (e,st))=some (0,ke.st0 s):=by kernel_rfl
theorem parse_all:AllOk Tryz.prog je.G:=⟨jh whole_Parse.ok (jh ky.ok (jh js.ok (jh jj.ok jF))),jA,jo,alts_cons jf.ok jz⟩
theorem r0_draws:kC je.G r0=true:=by kernel_rfl
theorem r0_pieces:JC je.G.cks r0=[]:=by kernel_rfl
theorem mkf (fn:Fn) (first cap:Array Value) (w:World):(Instr.makeFunc fn first cap).run Tryz.prog w=.ok (.func fn first cap) w:=rfl
def dfd (p q:Addr):Deferred:=⟨.fn (.func 25) #[.pointer (some p),.pointer (some q)],#[]⟩
theorem r1_wp {Q:Exit→Act→World→Prop} {a:Act} {w:World} {p q:Addr} (hsz:a.tmps.size=73) (h2:a.tmps[2]?=some (.pointer (some p))) (h3:a.tmps[3]?=some (.pointer (some q))) (hd:a.defers=[])
 (h:Q .normal ⟨a.tmps.setIfInBounds 14 (.func (.func 25) #[] #[.pointer (some p),.pointer (some q)]),[dfd p q]⟩ w):r1.wp Tryz.prog Q a w:=by
 unfold r1 Tryz.f4
 apply wp_region
 have e2:a.tmps.getD 2 undef=.pointer (some p):=by simp [h2]
 have e3:a.tmps.getD 3 undef=.pointer (some q):=by simp [h3]
 simp [wpOps,go_sem,mkf,h2,h3,hd,hsz]
 rw [(Array.getElem?_eq_some_iff.1 h2).2,(Array.getElem?_eq_some_iff.1 h3).2]
 exact .inl (.inl h)
theorem ins_args (w:World) (p q:Addr):(invoke (.fn (.func 25) #[.pointer (some p),.pointer (some q)]) #[]).run Tryz.prog w=.ok (.enter 25 #[.pointer (some p),.pointer (some q)]) w:=by
 simp [go_sem]
theorem frame_slots {s:List UInt8} {w:World} {Z0:Bs} {nm:Names} {objs:List (Nat×Ob)} {w0:World} {a:Act} {b2 b3 m c:Nat} (h0:a.tmps[0]?=some (.string ⟨s.toArray⟩)) (h2:a.tmps[2]?=some (.pointer (some ⟨b2,0,none⟩))) (h3:a.tmps[3]?=some (.pointer (some ⟨b3,0,none⟩)))
 (e2:nm 2000700=.slice (some ⟨b2,0,none⟩) m c) (e3:nm 1000800=.pointer (some ⟨b3,0,none⟩)) :
 ∀t d,Ql.look [(0,Dv.one (.val .str s)),(2,.one (.aptr 2000700 0)),(3,.one (.ref 1000800 0))] t=some d → ∃v,a.tmps[t]?=some v∧rdD w (Zc w0 Z0 nm objs w) nm objs d v:=by
 intro t d hl
 have hl:=kV hl
 simp only [List.mem_cons,Prod.mk.injEq,List.not_mem_nil,or_false] at hl
 rcases hl with ⟨rfl,rfl⟩ | ⟨rfl,rfl⟩ | ⟨rfl,rfl⟩
 ·exact ⟨_,h0,rfl⟩
 ·exact ⟨_,h2,rfl,fun fz e t xs hl=>⟨b2,m,c,e2,rfl⟩⟩
 ·exact ⟨_,h3,rfl,fun cs hl=>⟨b3,e3,rfl⟩⟩
def oldN (i:Nat):Nat:=if i=2000700 then 2 else 3
theorem row_one {w:World} {Z:Nat→Prop} {v:Value} {xs:List numT.den} (h:rdArr w Z v 27 numT xs) (hne:xs≠[]):∃b c,v=.slice (some ⟨b,0,none⟩) xs.length c:=by
 obtain ⟨cells,⟨_,hc⟩,_⟩:=h.sl rfl
 rcases hc with ⟨_,h0⟩ | ⟨g,cap,cur,e,_⟩
 ·exact absurd (List.length_eq_zero_iff.1 h0) hne
 ·exact ⟨g,cap,e⟩
theorem row_len {w:World} {Z:Nat→Prop} {b m c:Nat} {xs:List numT.den} (h:rdArr w Z (.slice (some ⟨b,0,none⟩) m c) 27 numT xs):xs.length=m:=by
 obtain ⟨cells,⟨_,hc⟩,_⟩:=h.sl rfl
 rcases hc with ⟨e,_⟩ | ⟨g,cap,cur,e,_⟩
 ·cases e
 ·cases e;rfl
theorem chk_inv {st:St} (h:je.chk st=true):Ql.look st.slots 2=some (.one (.aptr 2000700 0))∧Ql.look st.slots 3=some (.one (.ref 1000800 0)) ∧
 (∃xs,Ql.look st.objs 2000700=some (.arr 0 false 27 numT xs)) ∧ ∃f0 f1,Ql.look st.objs 1000800=some (.box [.val (.int .i64) f0,.val (.int .i64) f1]):=by
 unfold je.chk at h
 split at h
 ·rename_i h1 h2 h3 h4
  exact ⟨h1,h2,⟨_,h3⟩,_,_,h4⟩
 ·cases h
theorem ke.ok:CalleeOk Tryz.prog 4 ke.ce:=by
 refine ⟨⟨Tryz.f4,Tryz.func4,by kernel_rfl,by kernel_rfl⟩,fun w Z vs s r hg hZ ha hr=>?_⟩
 obtain ⟨v,rfl,hv⟩:=ha
 change [v]=[Value.string ⟨List.toArray s⟩] at hv
 obtain rfl:=List.cons.inj hv |>.1
 have hr:ke s=some r:=hr
 unfold ke at hr
 obtain ⟨y,hy,hr⟩:=jC hr
 refine calls_of_wp_defers Tryz.func4 body_eq ?_
 apply wp_seq
 have hrel:Rel 73 w ⟨Z,fun _=>False,fun _=>undef,[]⟩ ⟨[(0,.one (.val .str s))],[]⟩ { tmps:=[Value.string ⟨List.toArray s⟩].toArray++Array.replicate (Tryz.f4.ntmps-[Value.string ⟨List.toArray s⟩].toArray.size) undef,defers:=[] } w (fun _=>undef):=by
  refine ⟨rfl,by simp,fun t d hl=>?_,fun id ob hl=>by simp [Ql.look] at hl,fun id ob b hl=>by simp [Ql.look] at hl,fun id id' ob ob' b hl=>by simp [Ql.look] at hl,SameBut.refl _ w,fun id ob _ hl=>by simp [Ql.look] at hl,hg,fun b hb=>hb.elim⟩
  have hl:=kV hl
  simp only [List.mem_cons,Prod.mk.injEq,List.not_mem_nil,or_false] at hl
  obtain ⟨rfl,rfl⟩:=hl
  exact ⟨.string ⟨List.toArray s⟩,by simp,rfl⟩
 refine Ve jM parse_all mixed r0 r0_draws (by rw [r0_pieces];intro p hp;cases hp) hrel (r0_eq s) ?_
 intro e st1 a1 w1 nm1 h1 hk1
 cases hk1
 show Code.wp Tryz.prog _ _ a1 w1
 apply wp_seq
 obtain ⟨v0,t0,d0⟩:=h1.slots 0 _ rfl
 obtain ⟨v2,t2,d2⟩:=h1.slots 2 _ rfl
 obtain ⟨v3,t3,d3⟩:=h1.slots 3 _ rfl
 have d0:[v0]=[Value.string ⟨List.toArray s⟩]:=d0
 obtain rfl:=(List.cons.inj d0).1
 obtain ⟨b2,_,_,n2,rfl⟩:=d2.2 _ _ _ _ rfl
 obtain ⟨b3,n3,rfl⟩:=d3.2 _ rfl
 obtain ⟨b2',c2,n2'⟩:=row_one (h1.objs 2 _ rfl) (by simp)
 have hn2:=n2.symm.trans n2'
 obtain ⟨rfl,-,-⟩:b2=b2'∧True∧True:=by cases hn2;exact ⟨rfl,trivial,trivial⟩
 refine r1_wp h1.size t2 t3 h1.defers ?_
 have q1:=h1.renum (objs:=[(1000800,.box [.val (.int .i64) 0,.val (.int .i64) 0]),(2000700,.arr 0 false 27 numT [zeroN])]) (nm':=fun i=>nm1 (oldN i)) (old:=oldN) (by
  intro i j hij hi hj
  obtain ⟨o,ho⟩:=Option.isSome_iff_exists.1 hi
  obtain ⟨o',ho'⟩:=Option.isSome_iff_exists.1 hj
  rcases Uu ho with ⟨rfl,_⟩ | ⟨rfl,_⟩<;>rcases Uu ho' with ⟨rfl,_⟩ | ⟨rfl,_⟩<;>first | rfl | (exact absurd hij (by decide))) (by
  intro id ob hl
  rcases Uu hl with ⟨rfl,rfl⟩ | ⟨rfl,rfl⟩
  ·exact ⟨rfl,ints_cells,rfl⟩
  ·exact ⟨rfl,trivial,rfl⟩)
 have m2:(fun i=>nm1 (oldN i)) 2000700=.slice (some ⟨b2,0,none⟩) 1 c2:=n2'
 have m3:(fun i=>nm1 (oldN i)) 1000800=.pointer (some ⟨b3,0,none⟩):=n3
 have q2:=q1.frame (n':=73) (a':=⟨a1.tmps.setIfInBounds 14 (.func (.func 25) #[] #[.pointer (some ⟨b2,0,none⟩),.pointer (some ⟨b3,0,none⟩)]),[dfd ⟨b2,0,none⟩ ⟨b3,0,none⟩]⟩) (df:=[dfd ⟨b2,0,none⟩ ⟨b3,0,none⟩]) rfl (by rw [Array.size_setIfInBounds];exact h1.size)
  (frame_slots (s:=s) (by simpa using t0) (by simpa using t2) (by simpa using t3) m2 m3)
 have key:execK je.G (JD (segF Tryz.f4)) _ (je.pre.inj (s,(0:Int),(0:Int),[zeroN],())) (Ul je.G (segF Tryz.f4).results.toList [numT,fauT] 62 (.st fauT) je.chk)=some y:=(je.ok.eq (s,(0:Int),(0:Int),[zeroN],())).trans hy
 refine Ve jM parse_all mixed (JD (segF Tryz.f4)) je.ok.draws je.ok.ps (st:=je.pre.inj (s,(0:Int),(0:Int),[zeroN],())) q2 key ?_
 intro e st a w2 nm h hk
 unfold Ul at hk
 cases hlt:Nat.blt e 2 with
 | true=>
   rw [hlt] at hk
   simp only [cond_true] at hk
   have fin:Leaves Tryz.prog Tryz.f4 a.tmps (fun e w'=>∃v,e=.returned v∧Same w w'∧rdRes w' (Vu w w' Z) [numT,fauT] r v) a.defers .returning w2:=by
    rw [h.defers]
    refine leaves_cons (by simp) (ins_args _ _ _) ?_
    refine (catch_idle _ _ w2).mono ?_
    rintro e u' w3 ⟨rfl,rfl,hs⟩
    obtain ⟨x',v,hx,hv,hsm,hrd⟩:=res_fin (G:=je.G) (fn:=Tryz.f4) (rs:=[numT,fauT]) (ρ:=dens [numT,fauT]⊕(Ty.st fauT).den) (f:=Sum.inl) jM (h.grow hs) hk
    subst hx
    cases hr
    exact ⟨v,hv,v,rfl,hsm,hrd⟩
   match e,hlt with
   | 0,_=>exact fin
   | 1,_=>exact fin
   | n+2,h=>rw [Nat.blt_eq] at h;omega
 | false=>
   rw [hlt] at hk
   simp only [cond_false] at hk
   cases hp:Nat.beq e pEx&&je.chk st with
   | false=>rw [hp] at hk;cases hk
   | true=>
     rw [hp] at hk
     simp only [cond_true] at hk
     rw [Bool.and_eq_true] at hp
     obtain ⟨hpe,hch⟩:=hp
     have:=beqN.1 hpe
     subst this
     split at hk
     ·rename_i s' d' ho
      split at hk
      ·rename_i hs'
       subst hs'
       cases hk
       obtain ⟨vx,vy,g1,g2,g3⟩:=h.objs payId _ ho
       have e1:vx=#[]:=by
        have:=g2.1
        simp at this
        exact this
       obtain ⟨v,e2⟩:∃v,vy=#[v]:=by
        have:=g3.1
        match hv:vy.toList,this with
        | [v],_=>exact ⟨v,by rw [←Array.toArray_toList (xs:=vy),hv]⟩
       subst e1;subst e2
       have hv:=g3.2 0 _ _ rfl rfl
       obtain ⟨u,us,eu,hu,hc⟩:=hv
       have eu:=(List.cons.inj eu).1
       obtain rfl:v=.iface 62 u:=eu
       have hu:u=.agg us:=by
        rcases hu with ⟨_,e⟩ | ⟨hu,_⟩
        ·exact e
        ·cases hu
       subst hu
       obtain ⟨c1,c3,ec,ec1,ec3⟩:=hc
       have ec1:c1=[.int .i64 d'.1]:=ec1
       have ec3:c3=[.int .i64 d'.2]:=ec3
       have eus:us=#[.int .i64 d'.1,.int .i64 d'.2]:=by rw [←Array.toArray_toList (xs:=us),ec,ec1,ec3];rfl
       subst eus
       obtain ⟨s2,s3,⟨xs,o2⟩,f0,f1,o3⟩:=chk_inv hch
       have k2:nm 2000700=_:=h.given 2000700 _ (by decide) o2 ⟨by decide,rfl⟩
       have k3:nm 1000800=_:=h.given 1000800 _ (by decide) o3 trivial
       have k2:=k2.trans m2
       have k3:=k3.trans m3
       have hxs:=h.objs 2000700 _ o2
       have hxs:rdArr w2 _ (nm 2000700) 27 numT xs:=hxs
       rw [k2] at hxs
       obtain ⟨x,rfl⟩:=List.length_eq_one_iff.1 (row_len hxs)
       obtain ⟨u2,t2',d2'⟩:=h.slots 2 _ s2
       obtain ⟨u3,t3',d3'⟩:=h.slots 3 _ s3
       obtain ⟨b4,_,_,j2,rfl⟩:=d2'.2 _ _ _ _ o2
       obtain ⟨b5,j3,rfl⟩:=d3'.2 _ o3
       rw [k2] at j2
       rw [k3] at j3
       cases j2
       cases j3
       show qEx _ nm pBad a w2
       unfold qEx
       rw [if_pos rfl]
       refine ⟨_,g1,?_⟩
       show Leaves Tryz.prog Tryz.f4 a.tmps _ a.defers (.panicking [_]) w2
       rw [h.defers]
       refine leaves_cons (by simp) (ins_args _ _ _) ?_
       refine (catch_thrown h o2 o3 k2 k3 d'.1 d'.2 [] (a2:=a) h.size t2' t3').mono ?_
       rintro e u' w3 ⟨rfl,rfl,v',hv',hs,hr'⟩
       cases hr
       exact ⟨v',hv',v',rfl,hs,hr'⟩
      ·cases hk
     ·cases hk
end W
end

section
set_option maxHeartbeats 4000000
set_option maxRecDepth 100000
namespace W
open Go Go.Ql Go.Proofs Go.IntKind
noncomputable section
variable {ρ:Type}
abbrev oc0:SD:=.one (.val .str)
abbrev oc1:SD:=.one (.val (.int .i64))
abbrev oc2:SD:=.one (.val .bool)
abbrev oc3:SD:=.one (.aptr 5 0)
abbrev oc4:SD:=.one (.ref 6 0)
abbrev oc5:SD:=.one (.aptr 7 0)
abbrev oc6:SD:=.one (.ref 8 0)
abbrev oc7:SO:=.arr 0 false 27 (.st (.pair (.ar 8 (.st (.pair .bool (.sl (.int .u32))))) (.int .i64)))
abbrev oc8:SO:=.box [.val (.int .i64),.val (.int .i64)]
abbrev oc9:SO:=.arr 0 false 37 (.st (.pair (.ar 8 (.st (.pair .bool (.sl (.int .i64))))) (.int .i64)))
abbrev oc10:SD:=.one (.ref 9 0)
abbrev oc11:SD:=.one (.ref 11 0)
abbrev oc12:SO:=.box [.val .bool,.val (.sl (.int .u32)),.val .bool,.val (.sl (.int .u32))]
abbrev oc13:SO:=.box [.val .bool,.val (.sl (.int .i64)),.val .bool,.val (.sl (.int .i64))]
def jw.c3 (text:List UInt8)(a:List ((List (Bool×(List Int)))×(Int)))(f0:Int)(f1:Int)(b:List ((List (Bool×(List Int)))×(Int)))(g0:Int)(g1:Int)(Z:Bool→Option ρ):Option ρ:=
  bnd JM fun y=>
  br (!y)
   (Z true)
   (br (!Ty.eqT (Ty.pair (Ty.int IntKind.i64) (Ty.int IntKind.i64)) (f0,f1) (g0,g1))
     (Z true)
     (bnd (idx a (0:Int)) fun y_1=>
      bnd (jj y_1) fun y_2=>
      bnd (idx b (0:Int)) fun y_3=>
      bnd (jH y_3) fun y4=>
      br (!y_2==y4)
       (Z true)
       (br (f0==0)
         (bnd (idx a (0:Int)) fun y5=>
          bnd (jj y5) fun y6=>
          Z (!y6==text))
         (Z false))))
def jw.c3s:Shape:=⟨[(0,oc0),(1,oc1),(4,oc2),(5,oc3),(6,oc4),(7,oc5),(8,oc6)],[(5,oc7),(6,oc8),(7,oc9),(8,oc8)]⟩
def jw.c3x0:Shape:=⟨[(0,oc0),(1,oc1),(4,oc2),(5,oc3),(6,oc4),(7,oc5),(8,oc6),(47,oc2)],[(5,oc7),(6,oc8),(7,oc9),(8,oc8)]⟩
def jw.c3r:Ck:=Ck.of (T:=Bool) jw.c3s (fun ρ X Z=>jw.c3 X.1 X.2.2.2.1 (q4 X).1 (q4 X).2.1 (q4 X).2.2.1 (q4 X).2.2.2.1 (q8 X).1 Z) (fun ρ X V Z=>Z 0 (Shape.inj jw.c3x0 (X.1,X.2.1,X.2.2.1,V,X.2.2.2)))
def jw.c7 (is:Bool)(ris:Bool)(a:List ((List (Bool×(List Int)))×(Int)))(b:List ((List (Bool×(List Int)))×(Int)))(x0:Bool)(x1:List (Int))(x2:Bool)(x3:List (Int))(y0:Bool)(y1:List (Int))(y2:Bool)(y3:List (Int))(Z:Bool→Option ρ):Option ρ:=
  br (!is==ris)
   (Z true)
   (bnd (whole_Frac_Text ((x0,x1),x2,x3)) fun y=>
    bnd (JH ((y0,y1),y2,y3)) fun y_1=>
    br (!y==y_1)
     (Z true)
     (bnd (idx a (0:Int)) fun y_2=>
      bnd (jW y_2) fun y_3=>
      bnd (idx b (0:Int)) fun y4=>
      bnd (Jk y4) fun y5=>
      br (!y_3==y5)
       (Z true)
       (bnd (idx a (0:Int)) fun y6=>
        bnd (Jd y6) fun y7=>
        bnd (idx b (0:Int)) fun y8=>
        bnd (kO y8) fun y9=>
        br (!y7==y9)
         (Z true)
         (bnd (idx a (0:Int)) fun y10=>
          bnd (jZ y10) fun y11=>
          bnd (idx b (0:Int)) fun y12=>
          bnd (Jh y12) fun y13=>
          Z (y11 !=y13)))))
def jw.c7s:Shape:=⟨[(0,oc0),(1,oc1),(4,oc2),(5,oc3),(6,oc4),(7,oc5),(8,oc6),(9,oc10),(10,oc2),(11,oc11),(12,oc2)],[(5,oc7),(6,oc8),(7,oc9),(8,oc8),(9,oc12),(11,oc13)]⟩
def jw.c7x0:Shape:=⟨[(0,oc0),(1,oc1),(4,oc2),(5,oc3),(6,oc4),(7,oc5),(8,oc6),(9,oc10),(10,oc2),(11,oc11),(12,oc2),(88,oc2)],[(5,oc7),(6,oc8),(7,oc9),(8,oc8),(9,oc12),(11,oc13)]⟩
def jw.c7r:Ck:=Ck.of (T:=Bool) jw.c7s (fun ρ X Z=>jw.c7 X.2.2.2.1 (q4 X).1 (q4 X).2.1 (q8 X).1 (q8 X).2.2.2.1 (q4 (q8 X)).1 (q4 (q8 X)).2.1 (q4 (q8 X)).2.2.1 (q4 (q8 X)).2.2.2.1 (q8 (q8 X)).1 (q8 (q8 X)).2.1 (q8 (q8 X)).2.2.1 Z) (fun ρ X V Z=>Z 0 (Shape.inj jw.c7x0 (X.1,X.2.1,X.2.2.1,X.2.2.2.1,(q4 X).1,V,(q4 X).2)))
def jw.c9 (t1:Int)(a:List ((List (Bool×(List Int)))×(Int)))(b:List ((List (Bool×(List Int)))×(Int)))(Z:Bool→Option ρ):Option ρ:=
  bnd (idx a (0:Int)) fun y=>
  bnd (jq y t1) fun y_1=>
  bnd (jj y_1) fun y_2=>
  bnd (idx b (0:Int)) fun y_3=>
  bnd (jO y_3 t1) fun y4=>
  bnd (jH y4) fun y5=>
  br (y_2==y5)
   (bnd (idx a (0:Int)) fun y6=>
    bnd (Je y6) fun y7=>
    bnd (jj y7) fun y8=>
    bnd (idx b (0:Int)) fun y9=>
    bnd (JO y9) fun y10=>
    bnd (jH y10) fun y11=>
    br (y8==y11)
     (bnd (kh t1) fun y12=>
      bnd (jj y12) fun y13=>
      bnd (kP t1) fun y14=>
      bnd (jH y14) fun y15=>
      Z (y13==y15))
     (Z false))
   (Z false)
def jw.c9r:Ck:=Ck.of (T:=Bool) jw.c7s (fun ρ X Z=>jw.c9 X.2.1 (q4 X).2.1 (q8 X).1 Z) (fun ρ X V Z=>Z 0 (Shape.inj jw.c7s (X.1,X.2.1,V,X.2.2.2)))
def jw (text:List UInt8) (t1:Int):Option Bool:=
  bnd (ke text) fun y=>
  bnd (ji text) fun y_1=>
  bnd (jw.c3 text [y.1] y.2.1 y.2.2 [y_1.1] y_1.2.1 y_1.2.2 some) fun y_2=>
  br y_2
   (some false)
   (bnd (jr y.1) fun y_3=>
    bnd (jP y_1.1) fun y4=>
    bnd (jw.c7 y_3.2 y4.2 [y.1] [y_1.1] y_3.1.1.1 y_3.1.1.2 y_3.1.2.1 y_3.1.2.2 y4.1.1.1 y4.1.1.2 y4.1.2.1 y4.1.2.2 some) fun y5=>
    br y5
     (some false)
     (bnd (jw.c9 t1 [y.1] [y_1.1] some) fun y6=>
      some y6))
def jw.ce:Go.Ql.Callee:=⟨[.str,(.int .i64)],[.bool],fun X=>jw X.1 X.2⟩
def jw.G:Env:=⟨116,tab,[(4,ke.ce),(5,ji.ce),(6,JM.ce),(7,jj.ce),(8,jH.ce),(9,jr.ce),(10,jP.ce),(11,whole_Frac_Text.ce),(12,JH.ce),(13,jW.ce),(14,Jk.ce),(15,Jd.ce),(16,kO.ce),(17,jZ.ce),(18,Jh.ce),(19,jq.ce),(20,jO.ce),(21,Je.ce),(22,JO.ce),(23,kh.ce),(24,kP.ce)],[0,1,4,5,6,7,8,9,10,11,12,47,88],[5,7],[(9,[⟨[],[],[90,93,94],[]⟩,⟨[],[],[89,93,94],[]⟩,⟨[0,1],[],[93,94],[]⟩,⟨[2,0,1],[],[93,94],[]⟩,⟨[],[],[89,90,91,92,94],[]⟩,⟨[],[],[89,90,91,92,93],[]⟩,⟨[4,5,3,2,0,1],[],[],[]⟩,⟨[6,4,5,3,2,0,1],[],[],[]⟩,⟨[3,2,0,1,7,6,4,5],[],[],[]⟩,⟨[8,3,2,0,1,7,6,4,5],[],[],[]⟩,⟨[9,8,3,2,0,1,7,6,4,5],[],[102],[]⟩,⟨[10,9,8,3,2,0,1,7,6,4,5],[],[102],[]⟩,⟨[11,10,9,8,3,2,0,1,7,6,4,5],[],[102],[]⟩,⟨[9,8,3,2,0,1,7,6,4,5],[],[99,100,101],[]⟩,⟨[13,9,8,3,2,0,1,7,6,4,5,12,11,10],[],[],[]⟩,⟨[14,13,9,8,3,2,0,1,7,6,4,5,12,11,10],[],[],[]⟩,⟨[12,11,10,9,8,3,2,0,1,7,6,4,5,15,14,13],[],[],[]⟩,⟨[9,8,3,2,0,1,7,6,4,5,16,12,11,10,15,14,13],[],[],[]⟩,⟨[17,9,8,3,2,0,1,7,6,4,5,16,12,11,10,15,14,13],[],[],[]⟩,⟨[18,17,9,8,3,2,0,1,7,6,4,5,16,12,11,10,15,14,13],[],[111],[]⟩,⟨[19,18,17,9,8,3,2,0,1,7,6,4,5,16,12,11,10,15,14,13],[],[111],[]⟩,⟨[20,19,18,17,9,8,3,2,0,1,7,6,4,5,16,12,11,10,15,14,13],[],[111],[]⟩,⟨[18,17,9,8,3,2,0,1,7,6,4,5,16,12,11,10,15,14,13],[],[108,109,110],[]⟩,⟨[22,18,17,9,8,3,2,0,1,7,6,4,5,16,12,11,10,15,14,13,21,20,19],[],[],[]⟩,⟨[23,22,18,17,9,8,3,2,0,1,7,6,4,5,16,12,11,10,15,14,13,21,20,19],[],[],[]⟩,⟨[21,20,19,18,17,9,8,3,2,0,1,7,6,4,5,16,12,11,10,15,14,13,24,23,22],[],[],[]⟩,⟨[18,17,9,8,3,2,0,1,7,6,4,5,16,12,11,10,15,14,13,25,21,20,19,24,23,22],[],[],[]⟩,⟨[26,18,17,9,8,3,2,0,1,7,6,4,5,16,12,11,10,15,14,13,25,21,20,19,24,23,22],[],[],[]⟩]),
  (7,[⟨[],[],[59],[]⟩,⟨[],[],[58],[]⟩,⟨[0,1],[],[],[]⟩,⟨[2,0,1],[],[],[]⟩,⟨[3,2,0,1],[],[64],[]⟩,⟨[4,3,2,0,1],[],[64],[]⟩,⟨[3,2,0,1],[],[62,63],[]⟩,⟨[6,3,2,0,1,5,4],[],[],[]⟩,⟨[5,4,3,2,0,1,7,6],[],[],[]⟩,⟨[3,2,0,1,8,5,4,7,6],[],[],[]⟩,⟨[9,3,2,0,1,8,5,4,7,6],[],[],[]⟩,⟨[10,9,3,2,0,1,8,5,4,7,6],[],[71],[]⟩,⟨[11,10,9,3,2,0,1,8,5,4,7,6],[],[71],[]⟩,⟨[10,9,3,2,0,1,8,5,4,7,6],[],[69,70],[]⟩,⟨[13,10,9,3,2,0,1,8,5,4,7,6,12,11],[],[],[]⟩,⟨[12,11,10,9,3,2,0,1,8,5,4,7,6,14,13],[],[],[]⟩,⟨[10,9,3,2,0,1,8,5,4,7,6,15,12,11,14,13],[],[],[]⟩,⟨[16,10,9,3,2,0,1,8,5,4,7,6,15,12,11,14,13],[],[],[]⟩,⟨[17,16,10,9,3,2,0,1,8,5,4,7,6,15,12,11,14,13],[],[78],[]⟩,⟨[18,17,16,10,9,3,2,0,1,8,5,4,7,6,15,12,11,14,13],[],[78],[]⟩,⟨[17,16,10,9,3,2,0,1,8,5,4,7,6,15,12,11,14,13],[],[76,77],[]⟩,⟨[20,17,16,10,9,3,2,0,1,8,5,4,7,6,15,12,11,14,13,19,18],[],[],[]⟩,⟨[19,18,17,16,10,9,3,2,0,1,8,5,4,7,6,15,12,11,14,13,21,20],[],[],[]⟩,⟨[17,16,10,9,3,2,0,1,8,5,4,7,6,15,12,11,14,13,22,19,18,21,20],[],[],[]⟩,⟨[23,17,16,10,9,3,2,0,1,8,5,4,7,6,15,12,11,14,13,22,19,18,21,20],[],[],[]⟩,⟨[24,23,17,16,10,9,3,2,0,1,8,5,4,7,6,15,12,11,14,13,22,19,18,21,20],[],[85],[]⟩,⟨[25,24,23,17,16,10,9,3,2,0,1,8,5,4,7,6,15,12,11,14,13,22,19,18,21,20],[],[85],[]⟩,⟨[24,23,17,16,10,9,3,2,0,1,8,5,4,7,6,15,12,11,14,13,22,19,18,21,20],[],[83,84],[]⟩,⟨[27,24,23,17,16,10,9,3,2,0,1,8,5,4,7,6,15,12,11,14,13,22,19,18,21,20,26,25],[],[],[]⟩,⟨[26,25,24,23,17,16,10,9,3,2,0,1,8,5,4,7,6,15,12,11,14,13,22,19,18,21,20,28,27],[],[],[]⟩,⟨[24,23,17,16,10,9,3,2,0,1,8,5,4,7,6,15,12,11,14,13,22,19,18,21,20,29,26,25,28,27],[],[],[]⟩]),
  (3,[⟨[],[],[],[]⟩,⟨[0],[],[],[]⟩,⟨[1,0],[],[],[]⟩,⟨[2,1,0],[],[27],[]⟩,⟨[2,1,0],[],[26],[]⟩,⟨[3,2,1,0,4],[],[],[]⟩,⟨[2,1,0,5,3,4],[],[],[]⟩,⟨[6,2,1,0,5,3,4],[],[],[]⟩,⟨[7,6,2,1,0,5,3,4],[],[33],[]⟩,⟨[8,7,6,2,1,0,5,3,4],[],[33],[]⟩,⟨[7,6,2,1,0,5,3,4],[],[31,32],[]⟩,⟨[10,7,6,2,1,0,5,3,4,9,8],[],[],[]⟩,⟨[9,8,7,6,2,1,0,5,3,4,11,10],[],[],[]⟩,⟨[7,6,2,1,0,5,3,4,12,9,8,11,10],[],[],[]⟩,⟨[13,7,6,2,1,0,5,3,4,12,9,8,11,10],[],[],[]⟩,⟨[14,13,7,6,2,1,0,5,3,4,12,9,8,11,10],[],[],[]⟩,⟨[15,14,13,7,6,2,1,0,5,3,4,12,9,8,11,10],[],[],[]⟩,⟨[16,15,14,13,7,6,2,1,0,5,3,4,12,9,8,11,10],[],[],[]⟩,⟨[17,16,15,14,13,7,6,2,1,0,5,3,4,12,9,8,11,10],[],[],[]⟩,⟨[18,17,16,15,14,13,7,6,2,1,0,5,3,4,12,9,8,11,10],[],[44],[]⟩,⟨[19,18,17,16,15,14,13,7,6,2,1,0,5,3,4,12,9,8,11,10],[],[44],[]⟩,⟨[18,17,16,15,14,13,7,6,2,1,0,5,3,4,12,9,8,11,10],[],[42,43],[]⟩,⟨[20,19,18,17,16,15,14,13,7,6,2,1,0,5,3,4,12,9,8,11,10,21],[],[],[]⟩,⟨[18,17,16,15,14,13,7,6,2,1,0,5,3,4,12,9,8,11,10,22,20,19,21],[],[],[]⟩,⟨[14,13,7,6,2,1,0,5,3,4,12,9,8,11,10,23,18,17,16,15,22,20,19,21],[],[],[]⟩])],[(9,jw.c9r),(7,jw.c7r),(3,jw.c3r)],[],jE,[]⟩
theorem jw.p0:PcA jw.G Tryz.f3 0:=
  jv (s:=jw.c3r) (by kernel_rfl) (by kernel_rfl) (jp (sh:=jw.c3s) (fun ρ X Z=>(jb fun _=>(jl jc (jl jc (jb fun _=>(jb fun _=>(jb fun _=>(jb fun _=>(jl jc (jl (jb fun _=>(jb fun _=>jc)) jc)))))))))) (fun ρ X t k=>(by kernel_rfl)) (fun X=>by kernel_rfl))
theorem jw.p1:PcA jw.G Tryz.f3 1:=
  jv (s:=jw.c7r) (by kernel_rfl) (by kernel_rfl) (jp (sh:=jw.c7s) (fun ρ X Z=>(jl jc (jb fun _=>(jb fun _=>(jl jc (jb fun _=>(jb fun _=>(jb fun _=>(jb fun _=>(jl jc (jb fun _=>(jb fun _=>(jb fun _=>(jb fun _=>(jl jc (jb fun _=>(jb fun _=>(jb fun _=>(jb fun _=>jc))))))))))))))))))) (fun ρ X t k=>(by kernel_rfl)) (fun X=>by kernel_rfl))
theorem jw.p2:PcA jw.G Tryz.f3 2:=
  jv (s:=jw.c9r) (by kernel_rfl) (by kernel_rfl) (jp (sh:=jw.c7s) (fun ρ X Z=>(jb fun _=>(jb fun _=>(jb fun _=>(jb fun _=>(jb fun _=>(jb fun _=>(jl (jb fun _=>(jb fun _=>(jb fun _=>(jb fun _=>(jb fun _=>(jb fun _=>(jl (jb fun _=>(jb fun _=>(jb fun _=>(jb fun _=>jc)))) jc))))))) jc)))))))) (fun ρ X t k=>(by kernel_rfl)) (fun X=>by kernel_rfl))
theorem jw.ok:CalleeOk Tryz.prog 3 jw.ce:=fn_ok (G:=jw.G) jM mixed Tryz.func3 ⟨(jh ke.ok (jh ji.ok (jh JM.ok (jh jj.ok (jh jH.ok (jh jr.ok (jh jP.ok (jh whole_Frac_Text.ok (jh JH.ok (jh jW.ok (jh Jk.ok (jh Jd.ok (jh kO.ok (jh jZ.ok (jh Jh.ok (jh jq.ok (jh jO.ok (jh Je.ok (jh JO.ok (jh kh.ok (jh kP.ok jF))))))))))))))))))))),jA,jo,jz⟩ (m:=3) (by kernel_rfl) ⟨⟨⟨trivial,jw.p0⟩,jw.p1⟩,jw.p2⟩ (by kernel_rfl) (fun _=>by kernel_rfl)
end
end W
end
