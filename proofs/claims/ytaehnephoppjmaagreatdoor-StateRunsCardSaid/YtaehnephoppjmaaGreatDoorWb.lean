/- Lifted functions, part 2: each with its contract. -/
import Derived.Test.YtaehnephoppjmaaGreatDoorWa
import Derived.Test.YtaehnephoppjmaaGreatDoorProg
set_option linter.all false
section
set_option maxHeartbeats 4000000
set_option maxRecDepth 100000
namespace W
open Go Go.Ql Go.Proofs Go.IntKind
noncomputable section
variable {ρ:Type}
def ju.pre:Shape:=⟨[(0,sa40),(1,sa2),(2,sa2)],[(2000000,sa28)]⟩
def ju.post:Shape:=⟨[],[(2000000,sa28)]⟩
def ju.cv_ (vlo:Int)(vn:Int)(q:Int)(b:Int)(t9:Int)(uf:List YN)(Z:List YN→Option ρ):Option ρ:=
  bnd (okIf (decide ((0:Int)≤q))) fun y=>
  br (ibits BinOp.and IntKind.i64 (Int.fdiv t9 ((2:Int)^Min.min (Int.toNat q) (64:Nat))) (1:Int) !=b)
   (bnd (okIf (decide ((0:Ty.den (Ty.int IntKind.i64))≤t9)&&decide (t9<vn))) fun y1=>
    bnd (idx uf (vlo+t9)) fun y2=>
    Z (List.set uf (Int.toNat (vlo+t9)) (List.replicate (8:Nat) (false,[]),(0:Int))))
   (Z uf)
def ju.cv_s:Shape:=⟨[(0,sa40),(1,sa2),(2,sa2),(8,sa2),(9,sa2)],[(2000000,sa28)]⟩
def ju.cv_r:Ck:=Ck.of (T:=List YN) ju.cv_s (fun ρ X Z=>ju.cv_ X.1 X.2.1 X.2.2.1 X.2.2.2.1 (q4 X).2.1 (q4 X).2.2.1 Z) (fun ρ X V Z=>Z 0 (Shape.inj ju.cv_s (X.1,X.2.1,X.2.2.1,X.2.2.2.1,(q4 X).1,(q4 X).2.1,V,())))
def ju.ce_ (vlo:Int)(vn:Int)(q:Int)(b:Int)(t8:Int)(t9:Int)(uf:List YN)(Z:((Int)×(List YN))⊕((Int)×(List YN))→Option ρ):Option ρ:=
  br (decide (t9<t8))
   (bnd (ju.cv_ vlo vn q b t9 uf some) fun y=>
    Z (.inl ((i64.wrap (t9+1)),y)))
   (Z (.inr (t9,uf)))
def ju.ce_r:Ck:=Ck.ofLoop (S:=(Int)×(List YN)) (T:=(Int)×(List YN)) ju.cv_s (fun X=>((q4 X).2.1,(q4 X).2.2.1)) (fun ρ X Q Z=>ju.ce_ X.1 X.2.1 X.2.2.1 X.2.2.2.1 (q4 X).1 Q.1 Q.2 Z) (fun ρ X V Z=>Z 2 (Shape.inj ju.cv_s (X.1,X.2.1,X.2.2.1,X.2.2.2.1,(q4 X).1,V.1,V.2,())))
def ju (vlo:Int) (vn:Int) (q:Int) (b:Int) (uf:List YN):Option ((List YN)×Unit):=
  bnd (iter (fun s↦ju.ce_ vlo vn q b (↑(List.length (part vlo vn uf)):Int) s.1 s.2 some) ((0:Int),uf)) fun y=>
  some (y.2,())
def ju.mc:MCallee:=⟨101,ju.pre,ju.post,fun X=>ju X.1 X.2.1 X.2.2.1 X.2.2.2.1 (q4 X).1⟩
def ju.G:Env:=⟨23,tab,[],[0,1,2,6,8,9,10,17],[2000000],[],[(100001,ju.ce_r),(208200,ju.cv_r)],[],jI,[]⟩
theorem ju.p0:PcA ju.G Tryz.f101 0:=
  Jf (s:=ju.ce_r) (by kernel_rfl) (by kernel_rfl) (jW (sh:=ju.cv_s) (I:=fun X Q=>(X.1,X.2.1,X.2.2.1,X.2.2.2.1,(q4 X).1,Q.1,Q.2,())) (fun X=>rfl) (fun ρ X Q Z=>(jg (jb fun _=>jc) jc)) (fun ρ X t k=>(by kernel_rfl)) (fun X s=>by kernel_rfl))
theorem ju.p1:PcA ju.G Tryz.f101 1:=
  JR (s:=ju.cv_r) (by kernel_rfl) (by kernel_rfl) (jp (sh:=ju.cv_s) (fun ρ X Z=>(jb fun _=>(jg (jb fun _=>(jb fun _=>jc)) jc))) (fun ρ X t k=>(by kernel_rfl)) (fun X=>by kernel_rfl))
theorem ju.ok:MOk Tryz.prog 101 ju.mc:=YU (mc:=ju.mc) (G:=ju.G) jX mixed Tryz.func101 ⟨jK,jE,jq,jD⟩ (m:=2) (by kernel_rfl) ⟨⟨trivial,ju.p0⟩,ju.p1⟩ (by kernel_rfl) (fun _=>by kernel_rfl)
def jh.pre:Shape:=⟨[(0,sa38),(1,sa2)],[(1000700,sa39),(2000701,sa28),(2000702,sa3)]⟩
def jh.post:Shape:=⟨[],[(1000700,sa39),(2000701,sa28),(2000702,sa3)]⟩
def jh.c0 (uc:List YO)(ue:Int)(Z:(Int)×(Int)×(List Int)×(Int)×(Int)×(List Int)→Option ρ):Option ρ:=
  bnd (idx uc ue) fun y=>
  Z (y.1,y.2.1,y.2.2.1,y.2.2.2.1,y.2.2.2.2.1,y.2.2.2.2.2)
def jh.c0x0:Shape:=⟨[(0,sa38),(1,sa2),(4,sa20)],[(4,sa14),(1000700,sa39),(2000701,sa28),(2000702,sa3)]⟩
def jh.c0r:Ck:=Ck.of (T:=(Int)×(Int)×(List Int)×(Int)×(Int)×(List Int)) jh.pre (fun ρ X Z=>jh.c0 X.2.2.2.1 (q4 X).2.1 Z) (fun ρ X V Z=>Z 0 (Shape.inj jh.c0x0 (X.1,V.1,V.2.1,V.2.2.1,V.2.2.2.1,V.2.2.2.2.1,V.2.2.2.2.2,X.2)))
def jh.c1 (b:Int)(o3:Int)(ug:List YN)(Z:List YN→Option ρ):Option ρ:=
  bnd (ju (0:Int) (ug.length:Int) o3 b ug) fun y=>
  Z y.1
def jh.c1r:Ck:=Ck.of (T:=List YN) jh.c0x0 (fun ρ X Z=>jh.c1 X.1 (q4 X).1 (q4 (q8 X)).1 Z) (fun ρ X V Z=>Z 0 (Shape.inj jh.c0x0 (X.1,X.2.1,X.2.2.1,X.2.2.2.1,(q4 X).1,(q4 X).2.1,(q4 X).2.2.1,(q4 X).2.2.2.1,(q8 X).1,(q8 X).2.1,(q8 X).2.2.1,(q8 X).2.2.2.1,V,(q4 (q8 X)).2)))
def jh.c3 (o4:Int)(uh:List (Int))(Z:Unit→Option ρ):Option ρ:=
  bnd (inR (uh.length) o4) fun y=>
  bnd (idx uh o4) fun y1=>
  Z ()
def jh.c3r:Ck:=Ck.of (T:=Unit) jh.c0x0 (fun ρ X Z=>jh.c3 (q4 X).2.1 (q4 (q8 X)).2.1 Z) (fun ρ X V Z=>Z 0 (Shape.inj jh.c0x0 (X.1,X.2.1,X.2.2.1,X.2.2.2.1,(q4 X).1,(q4 X).2.1,(q4 X).2.2.1,(q4 X).2.2.2.1,(q8 X).1,(q8 X).2.1,(q8 X).2.2.1,(q8 X).2.2.2.1,(q4 (q8 X)).1,(List.set (q4 (q8 X)).2.1 (Int.toNat (q4 X).2.1) X.1),())))
def jh.c5 (o3:Int)(ug:List YN)(Z:List YN→Option ρ):Option ρ:=
  bnd (jd (0:Int) (ug.length:Int) ((2:Int),(0:Int),[],o3,(0:Int),[]) ug) fun y=>
  Z y.1
def jh.c5r:Ck:=Ck.of (T:=List YN) jh.c0x0 (fun ρ X Z=>jh.c5 (q4 X).1 (q4 (q8 X)).1 Z) (fun ρ X V Z=>Z 0 (Shape.inj jh.c0x0 (X.1,X.2.1,X.2.2.1,X.2.2.2.1,(q4 X).1,(q4 X).2.1,(q4 X).2.2.1,(q4 X).2.2.2.1,(q8 X).1,(q8 X).2.1,(q8 X).2.2.1,(q8 X).2.2.2.1,V,(q4 (q8 X)).2)))
def jh.cS_ (b:Int)(o0:Int)(o3:Int)(o4:Int)(ug:List YN)(uh:List (Int))(Z:(List YN)×(List Int)→Option ρ):Option ρ:=
  br (o0==5)
   (bnd (jh.c3 o4 uh some) fun y=>
    Z (ug,(List.set uh (Int.toNat o4) b)))
   (br (b==1)
     (bnd (jh.c5 o3 ug some) fun y1=>
      Z (y1,uh))
     (Z (ug,uh)))
def jh.cS_r:Ck:=Ck.of (T:=(List YN)×(List Int)) jh.c0x0 (fun ρ X Z=>jh.cS_ X.1 X.2.1 (q4 X).1 (q4 X).2.1 (q4 (q8 X)).1 (q4 (q8 X)).2.1 Z) (fun ρ X V Z=>Z 0 (Shape.inj jh.c0x0 (X.1,X.2.1,X.2.2.1,X.2.2.2.1,(q4 X).1,(q4 X).2.1,(q4 X).2.2.1,(q4 X).2.2.2.1,(q8 X).1,(q8 X).2.1,(q8 X).2.2.1,(q8 X).2.2.2.1,V.1,V.2,())))
def jh (b:Int) (ua:Int) (ub:Int) (uc:List YO) (ud:Int) (ue:Int) (ug:List YN) (uh:List (Int)):Option ((Int)×(Int)×(List YO)×(Int)×(Int)×(List YN)×(List Int)×Unit):=
  bnd (jh.c0 uc ue some) fun y=>
  bnd (jh.c1 b y.2.2.2.1 ug some) fun y1=>
  bnd (jh.cS_ b y.1 y.2.2.2.1 y.2.2.2.2.1 y1 uh some) fun y2=>
  some (ua,ub,uc,i64.wrap (ud+1),i64.wrap (ue+1),y2.1,y2.2,())
def jh.mc:MCallee:=⟨65,jh.pre,jh.post,fun X=>jh X.1 X.2.1 X.2.2.1 X.2.2.2.1 (q4 X).1 (q4 X).2.1 (q4 X).2.2.1 (q4 X).2.2.2.1⟩
def jh.G:Env:=⟨59,tab,[],[0,1,4,26,36],[1000700,2000701,2000702],[(5,[⟨[],[],[41,42,43],[]⟩,⟨[0],[],[41,42,43],[]⟩,⟨[1,0],[],[41,42,43],[]⟩,⟨[2,1,0],[],[41,42,43],[]⟩,⟨[],[],[37,38,39,40],[]⟩,⟨[4],[],[37,38,39,40],[]⟩,⟨[5,4],[],[37,38,39,40],[]⟩,⟨[3,2,1,0,6,5,4],[2000701],[],[]⟩]),
  (3,[⟨[],[],[31,32,33],[]⟩,⟨[0],[],[31,32,33],[]⟩,⟨[1,0],[],[31,32,33],[]⟩,⟨[2,1,0],[],[31,32,33],[]⟩,⟨[],[],[27,28,29,30,33],[]⟩,⟨[4],[],[27,28,29,30,33],[]⟩,⟨[],[],[27,28,29,30,31,32],[]⟩,⟨[3,2,1,0,5,4,6],[],[],[]⟩,⟨[7,3,2,1,0,5,4,6],[2000702],[],[]⟩]),
  (1,[⟨[],[],[20,21,22],[]⟩,⟨[0],[],[20,21,22],[]⟩,⟨[1,0],[],[20,21,22],[]⟩,⟨[2,1,0],[],[20,21,22],[]⟩,⟨[],[],[16,17,18,19,22],[]⟩,⟨[4],[],[16,17,18,19,22],[]⟩,⟨[],[],[16,17,18,19,20,21],[]⟩,⟨[3,2,1,0,5,4,6],[2000701],[],[]⟩]),
  (0,[⟨[],[],[10,11,12,13,4],[4]⟩,⟨[0],[],[10,11,12,13,4],[4]⟩,⟨[1,0],[],[10,11,12,13,4],[4]⟩,⟨[2,1,0],[],[10,11,12,13,4],[4]⟩,⟨[3,2,1,0],[],[10,11,12,13,4],[4]⟩,⟨[],[],[5,6,7,8,9,4],[4]⟩,⟨[5],[],[5,6,7,8,9,4],[4]⟩,⟨[6,5],[],[5,6,7,8,9,4],[4]⟩,⟨[7,6,5],[],[5,6,7,8,9,4],[4]⟩,⟨[4,3,2,1,0,8,7,6,5],[],[4],[4]⟩,⟨[9,4,3,2,1,0,8,7,6,5],[],[4],[4]⟩,⟨[],[4],[5,6,7,8,9,10,11,12,13,14,15],[]⟩,⟨[11,10,9,4,3,2,1,0,8,7,6,5],[4],[],[]⟩])],[(208201,jh.cS_r),(5,jh.c5r),(3,jh.c3r),(1,jh.c1r),(0,jh.c0r)],[(101,ju.mc),(100,jd.mc)],jI,[]⟩
theorem jh.p0:PcA jh.G Tryz.f65 0:=
  js (s:=jh.c0r) (by kernel_rfl) (by kernel_rfl) (jp (sh:=jh.pre) (fun ρ X Z=>(jb fun _=>jc)) (fun ρ X t k=>(by kernel_rfl)) (fun X=>by kernel_rfl))
theorem jh.p1:PcA jh.G Tryz.f65 1:=
  js (s:=jh.c1r) (by kernel_rfl) (by kernel_rfl) (jp (sh:=jh.c0x0) (fun ρ X Z=>(jb fun _=>jc)) (fun ρ X t k=>(by kernel_rfl)) (fun X=>by kernel_rfl))
theorem jh.p2:PcA jh.G Tryz.f65 2:=
  JR (s:=jh.cS_r) (by kernel_rfl) (by kernel_rfl) (jp (sh:=jh.c0x0) (fun ρ X Z=>(jg (jb fun _=>jc) (jg (jb fun _=>jc) jc))) (fun ρ X t k=>(by kernel_rfl)) (fun X=>by kernel_rfl))
theorem jh.p3:PcA jh.G Tryz.f65 3:=
  js (s:=jh.c3r) (by kernel_rfl) (by kernel_rfl) (jp (sh:=jh.c0x0) (fun ρ X Z=>(jb fun _=>(jb fun _=>jc))) (fun ρ X t k=>(by kernel_rfl)) (fun X=>by kernel_rfl))
theorem jh.p4:PcA jh.G Tryz.f65 4:=
  js (s:=jh.c5r) (by kernel_rfl) (by kernel_rfl) (jp (sh:=jh.c0x0) (fun ρ X Z=>(jb fun _=>jc)) (fun ρ X t k=>(by kernel_rfl)) (fun X=>by kernel_rfl))
theorem jh.ok:MOk Tryz.prog 65 jh.mc:=YU (mc:=jh.mc) (G:=jh.G) jX mixed Tryz.func65 ⟨jK,(kP ju.ok (kP jd.ok jE)),jq,jD⟩ (m:=5) (by kernel_rfl) ⟨⟨⟨⟨⟨trivial,jh.p0⟩,jh.p1⟩,jh.p2⟩,jh.p3⟩,jh.p4⟩ (by kernel_rfl) (fun _=>by kernel_rfl)
def Ju.pre:Shape:=⟨[(0,sa19)],[]⟩
def Ju.post:Shape:=⟨[(0,sa29)],[(0,sa43)]⟩
def Ju (s:List (Int)):Option ((List Int)×Unit):=
  br (List.isEmpty s)
   (both
     (some ([],()))
     (bnd (okIf (decide (((0:Nat)+s.length)*4≤140737488355328)&&decide ((0:Nat)+s.length≤140737488355328))) fun y=>
      some (s,())))
   (bnd (okIf (decide (((0:Nat)+s.length)*4≤140737488355328)&&decide ((0:Nat)+s.length≤140737488355328))) fun y1=>
    some (s,()))
def Ju.mc:MCallee:=⟨93,Ju.pre,Ju.post,fun X=>Ju X.1⟩
def Ju.G:Env:=⟨8,tab,[],[0,2,4],[2,5],[],[],[],jI,[]⟩
theorem Ju.ok:MOk Tryz.prog 93 Ju.mc:=YU (mc:=Ju.mc) (G:=Ju.G) jX mixed Tryz.func93 ⟨jK,jE,jq,jD⟩ (m:=0) (by kernel_rfl) trivial (by kernel_rfl) (fun _=>by kernel_rfl)
abbrev sa63:SD:=.one (.own 2000000 0)
abbrev sa64:SO:=.arr 0 false 5 (.int .u8)
def jr.pre:Shape:=⟨[(0,sa63)],[(2000000,sa64)]⟩
def jr.post:Shape:=⟨[],[(2000000,sa64)]⟩
def jr.c3 (i:Int)(j:Int)(uf:List (Int))(Z:List (Int)→Option ρ):Option ρ:=
  bnd (inR (uf.length) j) fun y=>
  bnd (idx uf j) fun y1=>
  bnd (inR (uf.length) i) fun y2=>
  bnd (idx uf i) fun y3=>
  bnd (inR (uf.length) i) fun y4=>
  bnd (idx uf i) fun y5=>
  bnd (inR (List.length (List.set uf (Int.toNat i) y1)) j) fun y6=>
  bnd (idx (List.set uf (Int.toNat i) y1) j) fun y7=>
  Z (List.set (List.set uf (Int.toNat i) y1) (Int.toNat j) y3)
def jr.c3s:Shape:=⟨[(0,sa63),(2,sa2),(3,sa2)],[(2000000,sa64)]⟩
def jr.c3r:Ck:=Ck.of (T:=List (Int)) jr.c3s (fun ρ X Z=>jr.c3 X.1 X.2.1 X.2.2.1 Z) (fun ρ X V Z=>Z 0 (Shape.inj jr.c3s (X.1,X.2.1,V,())))
def jr.ce_ (i:Int)(j:Int)(uf:List (Int))(Z:((Int)×(Int)×(List Int))⊕((Int)×(Int)×(List Int))→Option ρ):Option ρ:=
  br (decide (i<j))
   (bnd (jr.c3 i j uf some) fun y=>
    Z (.inl ((i64.wrap (i+1)),(i64.wrap (j-1)),y)))
   (Z (.inr (i,j,uf)))
def jr.ce_r:Ck:=Ck.ofLoop (S:=(Int)×(Int)×(List Int)) (T:=(Int)×(Int)×(List Int)) jr.c3s (fun X=>(X.1,X.2.1,X.2.2.1)) (fun ρ X Q Z=>jr.ce_ Q.1 Q.2.1 Q.2.2 Z) (fun ρ X V Z=>Z 2 (Shape.inj jr.c3s (V.1,V.2.1,V.2.2,())))
def jr (uf:List (Int)):Option ((List Int)×Unit):=
  bnd (iter (fun s↦jr.ce_ s.1 s.2.1 s.2.2 some) ((0:Int),i64.wrap ((uf.length:Int)-1),uf)) fun y=>
  some (y.2.2,())
def jr.mc:MCallee:=⟨94,jr.pre,jr.post,fun X=>jr X.1⟩
def jr.G:Env:=⟨28,tab,[],[0,2,3,9],[2000000],[(3,[⟨[],[],[15,16,17,18,19,20,21,22,23,24,25],[]⟩,⟨[],[],[14,16,17,18,19,20,21,22,23,24,25],[]⟩,⟨[],[],[14,15,17,18,19,20,21,22,23,24,25,26],[2000000]⟩,⟨[],[],[14,15,16,18,19,20,21,22,23,24,25,26],[2000000]⟩,⟨[],[],[14,15,16,17,19,22,23,24,25],[]⟩,⟨[],[],[14,15,16,17,18,22,23,24,25],[]⟩,⟨[4,5],[],[14,15,16,17,22,23,24,25],[]⟩,⟨[6,4,5],[],[14,15,16,17,22,23,24,25],[]⟩,⟨[],[],[14,15,16,17,18,19,20,21,23],[]⟩,⟨[],[],[14,15,16,17,18,19,20,21,22],[]⟩,⟨[8,9],[],[14,15,16,17,18,19,20,21],[]⟩,⟨[10,8,9],[],[14,15,16,17,18,19,20,21],[]⟩,⟨[0,1,4,5,6,7,11,10,8,9],[],[16,17],[]⟩,⟨[12,0,1,4,5,6,7,11,10,8,9],[2000000],[16,17],[]⟩,⟨[2,3,0,1,4,5,6,7,8,9,10,11,12,13],[],[],[]⟩,⟨[14,2,3,0,1,4,5,6,7,8,9,10,11,12,13],[2000000],[],[]⟩])],[(100001,jr.ce_r),(3,jr.c3r)],[],jI,[]⟩
theorem jr.p0:PcA jr.G Tryz.f94 0:=
  Jf (s:=jr.ce_r) (by kernel_rfl) (by kernel_rfl) (jW (sh:=jr.c3s) (I:=fun X Q=>(Q.1,Q.2.1,Q.2.2,())) (fun X=>rfl) (fun ρ X Q Z=>(jg (jb fun _=>jc) jc)) (fun ρ X t k=>(by kernel_rfl)) (fun X s=>by kernel_rfl))
theorem jr.p1:PcA jr.G Tryz.f94 1:=
  js (s:=jr.c3r) (by kernel_rfl) (by kernel_rfl) (jp (sh:=jr.c3s) (fun ρ X Z=>(jb fun _=>(jb fun _=>(jb fun _=>(jb fun _=>(jb fun _=>(jb fun _=>(jb fun _=>(jb fun _=>jc))))))))) (fun ρ X t k=>(by kernel_rfl)) (fun X=>by kernel_rfl))
theorem jr.ok:MOk Tryz.prog 94 jr.mc:=YU (mc:=jr.mc) (G:=jr.G) jX mixed Tryz.func94 ⟨jK,jE,jq,jD⟩ (m:=2) (by kernel_rfl) ⟨⟨trivial,jr.p0⟩,jr.p1⟩ (by kernel_rfl) (fun _=>by kernel_rfl)
abbrev sa65:SD:=.one (.val .str)
abbrev sa66:SD:=.one (.own 14 0)
def whole_Int_Text.cf_ (part:Int)(i:Int)(t14:List (Int))(Z:((Int)×(Int)×(List Int))⊕((Int)×(Int)×(List Int))→Option ρ):Option ρ:=
  br (decide (i≥0))
   (bnd (inR (t14.length) i) fun y=>
    bnd (idx t14 i) fun y1=>
    bnd (inR (t14.length) i) fun y2=>
    bnd (idx t14 i) fun y3=>
    Z (.inl ((Int.tmod (ibits BinOp.or IntKind.u64 (u64.wrap (part*2 ^32)) (IntKind.wrap IntKind.u64 y1)) (1000000000:Int)),(i64.wrap (i-1)),(List.set t14 (Int.toNat i) (u32.wrap (u64.wrap (Int.tdiv (ibits BinOp.or IntKind.u64 (u64.wrap (part*2 ^32)) (IntKind.wrap IntKind.u64 y1)) (1000000000:Int))))))))
   (Z (.inr (part,i,t14)))
def whole_Int_Text.cf_s:Shape:=⟨[(0,sa50),(1,sa5),(2,sa65),(3,sa1),(4,sa66),(5,sa22),(6,sa2)],[(1,sa21),(3,sa64),(14,sa43)]⟩
def whole_Int_Text.cf_r:Ck:=Ck.ofLoop (S:=(Int)×(Int)×(List Int)) (T:=(Int)×(Int)×(List Int)) whole_Int_Text.cf_s (fun X=>(X.2.2.1,X.2.2.2.1,(q4 X).2.2.2.1)) (fun ρ X Q Z=>whole_Int_Text.cf_ Q.1 Q.2.1 Q.2.2 Z) (fun ρ X V Z=>Z 4 (Shape.inj whole_Int_Text.cf_s (X.1,X.2.1,V.1,V.2.1,(q4 X).1,(q4 X).2.1,(q4 X).2.2.1,V.2.2,())))
def whole_Int_Text.cM_ (t14:List (Int))(Z:List (Int)→Option ρ):Option ρ:=
  bnd (inR (t14.length) (i64.wrap ((t14.length:Int)-1))) fun y=>
  bnd (idx t14 (i64.wrap ((t14.length:Int)-1))) fun y1=>
  br (y1==0)
   (bnd (okIf (decide ((0:Int)≤i64.wrap ((t14.length:Int)-1))&&decide (i64.wrap ((t14.length:Int)-1)≤(t14.length:Int)))) fun y2=>
    Z (List.take (Int.toNat (i64.wrap ((t14.length:Int)-1))) t14))
   (Z t14)
def whole_Int_Text.cM_r:Ck:=Ck.of (T:=List (Int)) whole_Int_Text.cf_s (fun ρ X Z=>whole_Int_Text.cM_ (q4 X).2.2.2.1 Z) (fun ρ X V Z=>Z 0 (Shape.inj whole_Int_Text.cf_s (X.1,X.2.1,X.2.2.1,X.2.2.2.1,(q4 X).1,(q4 X).2.1,(q4 X).2.2.1,V,())))
def whole_Int_Text.c16 (part:Int)(t7:Int)(t14:List (Int))(Z:Bool→Option ρ):Option ρ:=
  br (decide (t7<9))
   (br (decide (part>0))
     (Z true)
     (Z (decide ((t14.length:Int)>0))))
   (Z false)
def whole_Int_Text.c16s:Shape:=⟨[(0,sa50),(1,sa5),(2,sa65),(3,sa1),(4,sa66),(5,sa22),(6,sa2),(7,sa2)],[(1,sa21),(3,sa64),(14,sa43)]⟩
def whole_Int_Text.c16x0:Shape:=⟨[(0,sa50),(1,sa5),(2,sa65),(3,sa1),(4,sa66),(5,sa22),(6,sa2),(7,sa2),(63,sa11)],[(1,sa21),(3,sa64),(14,sa43)]⟩
def whole_Int_Text.c16r:Ck:=Ck.of (T:=Bool) whole_Int_Text.c16s (fun ρ X Z=>whole_Int_Text.c16 X.2.2.1 (q4 X).1 (q8 X).1 Z) (fun ρ X V Z=>Z 0 (Shape.inj whole_Int_Text.c16x0 (X.1,X.2.1,X.2.2.1,X.2.2.2.1,(q4 X).1,V,(q4 X).2)))
def whole_Int_Text.cA_ (part:Int)(t7:Int)(out:List (Int))(t14:List (Int))(Z:((Int)×(Int)×(List Int))⊕((Int)×(Int)×(List Int))→Option ρ):Option ρ:=
  bnd (whole_Int_Text.c16 part t7 t14 some) fun y=>
  br y
   (bnd (okIf (decide ((out.length+1)*1≤140737488355328)&&decide (out.length+1≤140737488355328))) fun y1=>
    Z (.inl ((u64.wrap (Int.tdiv part (10:Int))),(i64.wrap (t7+1)),(out++[u8.wrap (u64.wrap ((48:Int)+Int.tmod part (10:Int)))]))))
   (Z (.inr (part,t7,out)))
def whole_Int_Text.cA_r:Ck:=Ck.ofLoop (S:=(Int)×(Int)×(List Int)) (T:=(Int)×(Int)×(List Int)) whole_Int_Text.c16s (fun X=>(X.2.2.1,(q4 X).1,(q4 X).2.2.2.1)) (fun ρ X Q Z=>whole_Int_Text.cA_ Q.1 Q.2.1 Q.2.2 (q8 X).1 Z) (fun ρ X V Z=>Z 6 (Shape.inj whole_Int_Text.c16s (X.1,X.2.1,V.1,X.2.2.2.1,V.2.1,(q4 X).2.1,(q4 X).2.2.1,V.2.2,(q8 X))))
def whole_Int_Text.cg_ (out:List (Int))(t14:List (Int))(Z:((List Int)×(List Int))⊕((List Int)×(List Int))→Option ρ):Option ρ:=
  br (decide ((t14.length:Int)>0))
   (bnd (iter (fun s↦whole_Int_Text.cf_ s.1 s.2.1 s.2.2 some) ((0:Int),i64.wrap ((t14.length:Int)-1),t14)) fun y=>
    bnd (whole_Int_Text.cM_ y.2.2 some) fun y1=>
    bnd (iter (fun s↦whole_Int_Text.cA_ s.1 s.2.1 s.2.2 y1 some) (y.1,(0:Int),out)) fun y2=>
    Z (.inl (y2.2.2,y1)))
   (Z (.inr (out,t14)))
def whole_Int_Text.cg_s:Shape:=⟨[(0,sa50),(1,sa5),(2,sa65),(3,sa1),(4,sa66)],[(1,sa21),(3,sa64),(14,sa43)]⟩
def whole_Int_Text.cg_r:Ck:=Ck.ofLoop (S:=(List Int)×(List Int)) (T:=(List Int)×(List Int)) whole_Int_Text.cg_s (fun X=>((q4 X).1,(q4 X).2.1)) (fun ρ X Q Z=>whole_Int_Text.cg_ Q.1 Q.2 Z) (fun ρ X V Z=>Z 2 (Shape.inj whole_Int_Text.cg_s (X.1,X.2.1,X.2.2.1,X.2.2.2.1,V.1,V.2,())))
def whole_Int_Text.cP_ (a0:Bool)(out:List (Int))(Z:List (Int)→Option ρ):Option ρ:=
  br a0
   (bnd (okIf (decide ((out.length+1)*1≤140737488355328)&&decide (out.length+1≤140737488355328))) fun y=>
    Z (out++[(45:Int)]))
   (Z out)
def whole_Int_Text.cP_r:Ck:=Ck.of (T:=List (Int)) whole_Int_Text.cg_s (fun ρ X Z=>whole_Int_Text.cP_ X.2.2.1 (q4 X).1 Z) (fun ρ X V Z=>Z 0 (Shape.inj whole_Int_Text.cg_s (X.1,X.2.1,X.2.2.1,X.2.2.2.1,V,(q4 X).2)))
def whole_Int_Text (a:Bool×(List Int)):Option (List UInt8):=
  br ((↑(List.length a.2):Int)==0)
   (some (Array.toList (ByteArray.data (ByteArray.mk #[48]))))
   (bnd (Ju a.2) fun y=>
    bnd (iter (fun s↦whole_Int_Text.cg_ s.1 s.2 some) ([],y.1)) fun y1=>
    bnd (whole_Int_Text.cP_ a.1 y1.1 some) fun y2=>
    bnd (jr y2) fun y3=>
    some (List.map (fun n↦UInt8.ofNat (Int.toNat n)) y3.1))
def whole_Int_Text.ce:Go.Ql.Callee:=⟨[(.st (.pair .bool (.sl (.int .u32))))],[.str],fun X=>whole_Int_Text X⟩
def whole_Int_Text.G:Env:=⟨84,tab,[],[0,1,2,3,4,5,6,7,11,17,22,47,63,76],[3,14],[],[(281925,whole_Int_Text.cP_r),(100005,whole_Int_Text.cg_r),(100016,whole_Int_Text.cA_r),(16,whole_Int_Text.c16r),(253253,whole_Int_Text.cM_r),(100008,whole_Int_Text.cf_r)],[(93,Ju.mc),(94,jr.mc)],jI,[]⟩
theorem whole_Int_Text.p0:PcA whole_Int_Text.G Tryz.f61 0:=
  Jf (s:=whole_Int_Text.cg_r) (by kernel_rfl) (by kernel_rfl) (jW (sh:=whole_Int_Text.cg_s) (I:=fun X Q=>(X.1,X.2.1,X.2.2.1,X.2.2.2.1,Q.1,Q.2,())) (fun X=>rfl) (fun ρ X Q Z=>(jg (jb fun _=>(jb fun _=>(jb fun _=>jc))) jc)) (fun ρ X t k=>(by kernel_rfl)) (fun X s=>by kernel_rfl))
theorem whole_Int_Text.p1:PcA whole_Int_Text.G Tryz.f61 1:=
  Jf (s:=whole_Int_Text.cf_r) (by kernel_rfl) (by kernel_rfl) (jW (sh:=whole_Int_Text.cf_s) (I:=fun X Q=>(X.1,X.2.1,Q.1,Q.2.1,(q4 X).1,(q4 X).2.1,(q4 X).2.2.1,Q.2.2,())) (fun X=>rfl) (fun ρ X Q Z=>(jg (jb fun _=>(jb fun _=>(jb fun _=>(jb fun _=>jc)))) jc)) (fun ρ X t k=>(by kernel_rfl)) (fun X s=>by kernel_rfl))
theorem whole_Int_Text.p2:PcA whole_Int_Text.G Tryz.f61 2:=
  JR (s:=whole_Int_Text.cM_r) (by kernel_rfl) (by kernel_rfl) (jp (sh:=whole_Int_Text.cf_s) (fun ρ X Z=>(jb fun _=>(jb fun _=>(jg (jb fun _=>jc) jc)))) (fun ρ X t k=>(by kernel_rfl)) (fun X=>by kernel_rfl))
theorem whole_Int_Text.p3:PcA whole_Int_Text.G Tryz.f61 3:=
  Jf (s:=whole_Int_Text.cA_r) (by kernel_rfl) (by kernel_rfl) (jW (sh:=whole_Int_Text.c16s) (I:=fun X Q=>(X.1,X.2.1,Q.1,X.2.2.2.1,Q.2.1,(q4 X).2.1,(q4 X).2.2.1,Q.2.2,(q8 X))) (fun X=>rfl) (fun ρ X Q Z=>(jb fun _=>(jg (jb fun _=>jc) jc))) (fun ρ X t k=>(by kernel_rfl)) (fun X s=>by kernel_rfl))
theorem whole_Int_Text.p4:PcA whole_Int_Text.G Tryz.f61 4:=
  js (s:=whole_Int_Text.c16r) (by kernel_rfl) (by kernel_rfl) (jp (sh:=whole_Int_Text.c16s) (fun ρ X Z=>(jg (jg jc jc) jc)) (fun ρ X t k=>(by kernel_rfl)) (fun X=>by kernel_rfl))
theorem whole_Int_Text.p5:PcA whole_Int_Text.G Tryz.f61 5:=
  JR (s:=whole_Int_Text.cP_r) (by kernel_rfl) (by kernel_rfl) (jp (sh:=whole_Int_Text.cg_s) (fun ρ X Z=>(jg (jb fun _=>jc) jc)) (fun ρ X t k=>(by kernel_rfl)) (fun X=>by kernel_rfl))
theorem whole_Int_Text.ok:CalleeOk Tryz.prog 61 whole_Int_Text.ce:=fn_ok (G:=whole_Int_Text.G) jX mixed Tryz.func61 ⟨jK,(kP Ju.ok (kP jr.ok jE)),jq,jD⟩ (m:=6) (by kernel_rfl) ⟨⟨⟨⟨⟨⟨trivial,whole_Int_Text.p0⟩,whole_Int_Text.p1⟩,whole_Int_Text.p2⟩,whole_Int_Text.p3⟩,whole_Int_Text.p4⟩,whole_Int_Text.p5⟩ (by kernel_rfl) (fun _=>by kernel_rfl)
abbrev sa67:SD:=.one (.own 6 0)
abbrev sa68:SD:=.one (.val (.sl (.st (.pair .bool (.sl (.int .u32))))))
abbrev sa69:SO:=.arr 0 false 9 .str
def jo.ch_ (last:Int)(t11:List (Bool×(List Int)))(t12:Int)(Z:Int→Option ρ):Option ρ:=
  bnd (idx t11 t12) fun y=>
  bnd (whole_Int_Sign (y.1,y.2)) fun y1=>
  br (y1 !=0)
   (Z t12)
   (Z last)
def jo.ch_s:Shape:=⟨[(0,sa23),(1,sa24),(2,sa65),(3,sa2),(11,sa27),(12,sa2)],[]⟩
def jo.ch_r:Ck:=Ck.of (T:=Int) jo.ch_s (fun ρ X Z=>jo.ch_ X.2.2.2.1 (q4 X).1 (q4 X).2.1 Z) (fun ρ X V Z=>Z 0 (Shape.inj jo.ch_s (X.1,X.2.1,X.2.2.1,V,(q4 X))))
def jo.ca_ (last:Int)(t11:List (Bool×(List Int)))(t12:Int)(Z:((Int)×(Int))⊕((Int)×(Int))→Option ρ):Option ρ:=
  br (decide (t12<8))
   (bnd (jo.ch_ last t11 t12 some) fun y=>
    Z (.inl (y,(i64.wrap (t12+1)))))
   (Z (.inr (last,t12)))
def jo.ca_r:Ck:=Ck.ofLoop (S:=(Int)×(Int)) (T:=(Int)×(Int)) jo.ch_s (fun X=>(X.2.2.2.1,(q4 X).2.1)) (fun ρ X Q Z=>jo.ca_ Q.1 (q4 X).1 Q.2 Z) (fun ρ X V Z=>Z 2 (Shape.inj jo.ch_s (X.1,X.2.1,X.2.2.1,V.1,(q4 X).1,V.2,())))
def jo.cp_ (t24:List (Bool×(List Int)))(t25:Int)(t26:Int)(parts:List (List UInt8))(Z:((Int)×(List (List UInt8)))⊕((Int)×(List (List UInt8)))→Option ρ):Option ρ:=
  br (decide (t26<t25))
   (bnd (idx t24 t26) fun y=>
    bnd (whole_Int_Text (y.1,y.2)) fun y1=>
    bnd (okIf (decide ((parts.length+1)*16≤140737488355328)&&decide (parts.length+1≤140737488355328))) fun y2=>
    Z (.inl ((i64.wrap (t26+1)),(parts++[y1]))))
   (Z (.inr (t26,parts)))
def jo.cp_s:Shape:=⟨[(0,sa23),(1,sa24),(2,sa65),(3,sa2),(6,sa67),(11,sa27),(12,sa2),(24,sa68),(25,sa2),(26,sa2)],[(6,sa69)]⟩
def jo.cp_r:Ck:=Ck.ofLoop (S:=(Int)×(List (List UInt8))) (T:=(Int)×(List (List UInt8))) jo.cp_s (fun X=>((q8 X).1,(q8 X).2.1)) (fun ρ X Q Z=>jo.cp_ (q4 X).2.2.1 (q4 X).2.2.2.1 Q.1 Q.2 Z) (fun ρ X V Z=>Z 4 (Shape.inj jo.cp_s (X.1,X.2.1,X.2.2.1,X.2.2.2.1,(q4 X).1,(q4 X).2.1,(q4 X).2.2.1,(q4 X).2.2.2.1,V.1,V.2,())))
def jo.cN_ (a_1:YN)(text:List UInt8)(Z:List UInt8→Option ρ):Option ρ:=
  br (decide (a_1.2>0))
   (bnd (strconv_Itoa a_1.2) fun y=>
    bnd (okIf (decide (List.length (Array.toList (ByteArray.data (ByteArray.mk #[47])))+y.length≤9223372036854775807))) fun y1=>
    bnd (okIf (decide (text.length+List.length (Array.toList (ByteArray.data (ByteArray.mk #[47]))++y)≤9223372036854775807))) fun y2=>
    Z (text++(Array.toList (ByteArray.data (ByteArray.mk #[47]))++y)))
   (Z text)
def jo.cN_s:Shape:=⟨[(0,sa23),(1,sa24),(2,sa65),(3,sa2),(6,sa67),(9,sa65),(11,sa27),(12,sa2),(24,sa68),(25,sa2),(26,sa2)],[(6,sa69)]⟩
def jo.cN_r:Ck:=Ck.of (T:=List UInt8) jo.cN_s (fun ρ X Z=>jo.cN_ X.2.1 (q4 X).1 Z) (fun ρ X V Z=>Z 0 (Shape.inj jo.cN_s (X.1,X.2.1,X.2.2.1,X.2.2.2.1,V,(q4 X).2)))
def jo (a:YN):Option (List UInt8):=
  bnd (iter (fun s↦jo.ca_ s.1 a.1 s.2 some) ((0:Int),(0:Int))) fun y=>
  bnd (okIf (decide ((0:Int)≤i64.wrap (y.1+1))&&decide (i64.wrap (y.1+1)≤(↑(8:Nat):Int)))) fun y1=>
  bnd (iter (fun s↦jo.cp_ (List.take (Int.toNat (i64.wrap (y.1+1))) a.1) (↑(List.length (List.take (Int.toNat (i64.wrap (y.1+1))) a.1)):Int) s.1 s.2 some) ((0:Int),[])) fun y2=>
  bnd (strings_Join y2.2 (Array.toList (ByteArray.data (ByteArray.mk #[44])))) fun y3=>
  bnd (jo.cN_ a y3 some) fun y4=>
  some y4
def jo.ce:Go.Ql.Callee:=⟨[(.st (.pair (.ar 8 (.st (.pair .bool (.sl (.int .u32))))) (.int .i64)))],[.str],fun X=>jo X⟩
def jo.G:Env:=⟨48,tab,[(60,whole_Int_Sign.ce),(61,whole_Int_Text.ce),(62,strings_Join.ce),(63,strconv_Itoa.ce)],[0,1,2,3,4,5,6,8,9,11,12,13,18,24,25,26,27,40],[6,8000001],[],[(261445,jo.cN_r),(100010,jo.cp_r),(100003,jo.ca_r),(216392,jo.ch_r)],[],jI,[]⟩
theorem jo.p0:PcA jo.G Tryz.f26 0:=
  Jf (s:=jo.ca_r) (by kernel_rfl) (by kernel_rfl) (jW (sh:=jo.ch_s) (I:=fun X Q=>(X.1,X.2.1,X.2.2.1,Q.1,(q4 X).1,Q.2,())) (fun X=>rfl) (fun ρ X Q Z=>(jg (jb fun _=>jc) jc)) (fun ρ X t k=>(by kernel_rfl)) (fun X s=>by kernel_rfl))
theorem jo.p1:PcA jo.G Tryz.f26 1:=
  JR (s:=jo.ch_r) (by kernel_rfl) (by kernel_rfl) (jp (sh:=jo.ch_s) (fun ρ X Z=>(jb fun _=>(jb fun _=>(jg jc jc)))) (fun ρ X t k=>(by kernel_rfl)) (fun X=>by kernel_rfl))
theorem jo.p2:PcA jo.G Tryz.f26 2:=
  Jf (s:=jo.cp_r) (by kernel_rfl) (by kernel_rfl) (jW (sh:=jo.cp_s) (I:=fun X Q=>(X.1,X.2.1,X.2.2.1,X.2.2.2.1,(q4 X).1,(q4 X).2.1,(q4 X).2.2.1,(q4 X).2.2.2.1,Q.1,Q.2,())) (fun X=>rfl) (fun ρ X Q Z=>(jg (jb fun _=>(jb fun _=>(jb fun _=>jc))) jc)) (fun ρ X t k=>(by kernel_rfl)) (fun X s=>by kernel_rfl))
theorem jo.p3:PcA jo.G Tryz.f26 3:=
  JR (s:=jo.cN_r) (by kernel_rfl) (by kernel_rfl) (jp (sh:=jo.cN_s) (fun ρ X Z=>(jg (jb fun _=>(jb fun _=>(jb fun _=>jc))) jc)) (fun ρ X t k=>(by kernel_rfl)) (fun X=>by kernel_rfl))
theorem jo.ok:CalleeOk Tryz.prog 26 jo.ce:=fn_ok (G:=jo.G) jX mixed Tryz.func26 ⟨(jn whole_Int_Sign.ok (jn whole_Int_Text.ok (jn strings_Join.ok (jn strconv_Itoa.ok jK)))),jE,jq,jD⟩ (m:=4) (by kernel_rfl) ⟨⟨⟨⟨trivial,jo.p0⟩,jo.p1⟩,jo.p2⟩,jo.p3⟩ (by kernel_rfl) (fun _=>by kernel_rfl)
abbrev sa70:SD:=.one (.val (.sl .str))
abbrev sa71:SD:=.one (.own 8 0)
def jO.pre:Shape:=⟨[(0,sa40)],[(2000000,sa28)]⟩
def jO.post:Shape:=⟨[(0,sa70)],[(2000000,sa28)]⟩
def jO.ca_ (t9lo:Int)(t9n:Int)(t10:Int)(t11:Int)(t8:List (List UInt8))(uf:List YN)(Z:((Int)×(List (List UInt8)))⊕((Int)×(List (List UInt8)))→Option ρ):Option ρ:=
  br (decide (t11<t10))
   (bnd (okIf (decide ((0:Ty.den (Ty.int IntKind.i64))≤t11)&&decide (t11<t9n))) fun y=>
    bnd (idx uf (t9lo+t11)) fun y1=>
    bnd (jo y1) fun y2=>
    bnd (inR (t8.length) t11) fun y3=>
    bnd (idx t8 t11) fun y4=>
    Z (.inl ((i64.wrap (t11+1)),(List.set t8 (Int.toNat t11) y2))))
   (Z (.inr (t11,t8)))
def jO.ca_s:Shape:=⟨[(0,sa40),(2,sa70),(3,sa71),(9,sa40),(10,sa2),(11,sa2)],[(8,sa69),(2000000,sa28)]⟩
def jO.ca_r:Ck:=Ck.ofLoop (S:=(Int)×(List (List UInt8))) (T:=(Int)×(List (List UInt8))) jO.ca_s (fun X=>((q4 X).2.2.1,(q4 X).2.2.2.1)) (fun ρ X Q Z=>jO.ca_ X.2.2.2.1 (q4 X).1 (q4 X).2.1 Q.1 Q.2 (q8 X).1 Z) (fun ρ X V Z=>Z 2 (Shape.inj jO.ca_s (X.1,X.2.1,X.2.2.1,X.2.2.2.1,(q4 X).1,(q4 X).2.1,V.1,V.2,(q8 X))))
def jO (vlo:Int) (vn:Int) (uf:List YN):Option ((List (List UInt8))×(List YN)×Unit):=
  bnd (okIf (decide ((0:Int)≤(↑(List.length (part vlo vn uf)):Int))&&decide ((↑(List.length (part vlo vn uf)):Int)≤(↑(List.length (part vlo vn uf)):Int))&&decide ((↑(List.length (part vlo vn uf)):Int)*(↑(16:Nat):Int)≤140737488355328)&&decide ((↑(List.length (part vlo vn uf)):Int)≤140737488355328))) fun y=>
  bnd (iter (fun s↦jO.ca_ vlo vn (↑(List.length (part vlo vn uf)):Int) s.1 s.2 uf some) ((0:Int),List.replicate (Int.toNat (↑(List.length (part vlo vn uf)):Int)) [])) fun y1=>
  some (y1.2,uf,())
def jO.mc:MCallee:=⟨29,jO.pre,jO.post,fun X=>jO X.1 X.2.1 X.2.2.1⟩
def jO.G:Env:=⟨23,tab,[(26,jo.ce)],[0,2,3,4,5,9,10,11,12],[5,8,2000000],[],[(100003,jO.ca_r)],[],jI,[]⟩
theorem jO.p0:PcA jO.G Tryz.f29 0:=
  Jf (s:=jO.ca_r) (by kernel_rfl) (by kernel_rfl) (jW (sh:=jO.ca_s) (I:=fun X Q=>(X.1,X.2.1,X.2.2.1,X.2.2.2.1,(q4 X).1,(q4 X).2.1,Q.1,Q.2,(q8 X))) (fun X=>rfl) (fun ρ X Q Z=>(jg (jb fun _=>(jb fun _=>(jb fun _=>(jb fun _=>(jb fun _=>jc))))) jc)) (fun ρ X t k=>(by kernel_rfl)) (fun X s=>by kernel_rfl))
theorem jO.ok:MOk Tryz.prog 29 jO.mc:=YU (mc:=jO.mc) (G:=jO.G) jX mixed Tryz.func29 ⟨(jn jo.ok jK),jE,jq,jD⟩ (m:=1) (by kernel_rfl) ⟨trivial,jO.p0⟩ (by kernel_rfl) (fun _=>by kernel_rfl)
def ki (code:Int) (t1:Int):Option ((Int)×(Int)):=
  some (code,t1)
def ki.ce:Go.Ql.Callee:=⟨[(.int .i64),(.int .i64)],[(.st (.pair (.int .i64) (.int .i64)))],fun X=>ki X.1 X.2⟩
def ki.G:Env:=⟨8,tab,[],[0,1,4],[],[],[],[],jI,[]⟩
theorem ki.ok:CalleeOk Tryz.prog 35 ki.ce:=fn_ok (G:=ki.G) jX mixed Tryz.func35 ⟨jK,jE,jq,jD⟩ (m:=0) (by kernel_rfl) trivial (by kernel_rfl) (fun _=>by kernel_rfl)
def JN.cc_ (l:List (Int))(x:Int)(i:Int)(Z:(Int)⊕((Int)⊕(Int))→Option ρ):Option ρ:=
  br (decide (i<(l.length:Int)))
   (bnd (idx l i) fun y=>
    br (y==x)
     (Z (.inr (.inl i)))
     (Z (.inl (i64.wrap (i+1)))))
   (Z (.inr (.inr i)))
def JN.cc_s:Shape:=⟨[(0,sa0),(1,sa2),(4,sa11),(5,sa2)],[]⟩
def JN.cc_r:Ck:=Ck.ofLoop (S:=Int) (T:=(Int)⊕(Int)) JN.cc_s (fun X=>X.2.2.2.1) (fun ρ X Q Z=>JN.cc_ X.1 X.2.1 Q Z) (fun ρ X V Z=>sel V (fun V=>Z 1 (Shape.inj JN.cc_s (X.1,X.2.1,true,V,()))) (fun V=>Z 2 (Shape.inj JN.cc_s (X.1,X.2.1,X.2.2.1,V,()))))
def JN (l:List (Int)) (x:Int):Option Bool:=
  bnd (iter (fun s↦JN.cc_ l x s some) (0:Int)) fun y=>
  sel y
   (fun u=>some true)
   (fun v=>some false)
def JN.ce:Go.Ql.Callee:=⟨[(.sl (.int .i64)),(.int .i64)],[.bool],fun X=>JN X.1 X.2⟩
def JN.G:Env:=⟨18,tab,[],[0,1,4,5,9,17],[],[],[(100002,JN.cc_r)],[],jI,[]⟩
theorem JN.p0:PcA JN.G Tryz.f54 0:=
  Jf (s:=JN.cc_r) (by kernel_rfl) (by kernel_rfl) (jW (sh:=JN.cc_s) (I:=fun X Q=>(X.1,X.2.1,X.2.2.1,Q,())) (fun X=>rfl) (fun ρ X Q Z=>(jg (jb fun _=>(jg jc jc)) jc)) (fun ρ X t k=>(kr (fun _=>(by kernel_rfl)) (fun _=>(by kernel_rfl)))) (fun X s=>by kernel_rfl))
theorem JN.ok:CalleeOk Tryz.prog 54 JN.ce:=fn_ok (G:=JN.G) jX mixed Tryz.func54 ⟨jK,jE,jq,jD⟩ (m:=1) (by kernel_rfl) ⟨trivial,JN.p0⟩ (by kernel_rfl) (fun _=>by kernel_rfl)
def jf.c1 (o0:Int)(Z:Bool→Option ρ):Option ρ:=
  br (decide (o0<1))
   (Z true)
   (Z (decide (o0>6)))
def jf.c1s:Shape:=⟨[(0,sa12),(1,sa2),(2,sa2),(3,sa7),(6,sa2)],[(3,sa14)]⟩
def jf.c1x0:Shape:=⟨[(0,sa12),(1,sa2),(2,sa2),(3,sa7),(6,sa2),(17,sa11)],[(3,sa14)]⟩
def jf.c1r:Ck:=Ck.of (T:=Bool) jf.c1s (fun ρ X Z=>jf.c1 (q4 X).1 Z) (fun ρ X V Z=>Z 0 (Shape.inj jf.c1x0 (X.1,X.2.1,X.2.2.1,X.2.2.2.1,V,(q4 X))))
def jf.c3 (o0:Int)(Z:Bool→Option ρ):Option ρ:=
  br (o0==1)
   (Z true)
   (Z (o0==4))
def jf.c3x0:Shape:=⟨[(0,sa12),(1,sa2),(2,sa2),(3,sa7),(6,sa2),(7,sa11)],[(3,sa14)]⟩
def jf.c3r:Ck:=Ck.of (T:=Bool) jf.c1s (fun ρ X Z=>jf.c3 (q4 X).1 Z) (fun ρ X V Z=>Z 0 (Shape.inj jf.c3x0 (X.1,X.2.1,X.2.2.1,X.2.2.2.1,V,(q4 X))))
def jf.c4 (angle:Bool)(o1:Int)(Z:Bool→Option ρ):Option ρ:=
  br (decide (o1<0))
   (Z true)
   (br (decide (o1>15))
     (Z true)
     (br (decide (o1>0))
       (Z (!angle))
       (Z false)))
def jf.c4x0:Shape:=⟨[(0,sa12),(1,sa2),(2,sa2),(3,sa7),(6,sa2),(7,sa11),(42,sa11)],[(3,sa14)]⟩
def jf.c4r:Ck:=Ck.of (T:=Bool) jf.c3x0 (fun ρ X Z=>jf.c4 (q4 X).1 (q4 X).2.2.1 Z) (fun ρ X V Z=>Z 0 (Shape.inj jf.c4x0 (X.1,X.2.1,X.2.2.1,X.2.2.2.1,(q4 X).1,V,(q4 X).2)))
def jf.c6 (qubits:Int)(o0:Int)(o3:Int)(Z:Bool→Option ρ):Option ρ:=
  br (decide (o3<0))
   (Z true)
   (br (decide (o3≥qubits))
     (Z true)
     (br (o0==1)
       (Z (decide (o3>0)))
       (Z false)))
def jf.c6x0:Shape:=⟨[(0,sa12),(1,sa2),(2,sa2),(3,sa7),(6,sa2),(7,sa11),(61,sa11)],[(3,sa14)]⟩
def jf.c6r:Ck:=Ck.of (T:=Bool) jf.c3x0 (fun ρ X Z=>jf.c6 X.2.1 (q4 X).2.1 (q8 X).1 Z) (fun ρ X V Z=>Z 0 (Shape.inj jf.c6x0 (X.1,X.2.1,X.2.2.1,X.2.2.2.1,(q4 X).1,V,(q4 X).2)))
def jf.c8 (o0:Int)(o2:List (Int))(Z:Bool→Option ρ):Option ρ:=
  br (decide ((o2.length:Int)>0))
   (br (o0 !=2)
     (br (o0 !=3)
       (Z (o0 !=4))
       (Z false))
     (Z false))
   (Z false)
def jf.c8x0:Shape:=⟨[(0,sa12),(1,sa2),(2,sa2),(3,sa7),(6,sa2),(7,sa11),(80,sa11)],[(3,sa14)]⟩
def jf.c8r:Ck:=Ck.of (T:=Bool) jf.c3x0 (fun ρ X Z=>jf.c8 (q4 X).2.1 (q4 X).2.2.2.1 Z) (fun ρ X V Z=>Z 0 (Shape.inj jf.c8x0 (X.1,X.2.1,X.2.2.1,X.2.2.2.1,(q4 X).1,V,(q4 X).2)))
def jf.c13 (qubits:Int)(i:Int)(o2:List (Int))(Z:Bool→Option ρ):Option ρ:=
  bnd (idx o2 i) fun y=>
  br (decide (y<0))
   (Z true)
   (bnd (idx o2 i) fun y1=>
    Z (decide (y1≥qubits)))
def jf.c13s:Shape:=⟨[(0,sa12),(1,sa2),(2,sa2),(3,sa7),(6,sa2),(7,sa11),(8,sa2)],[(3,sa14)]⟩
def jf.c13x0:Shape:=⟨[(0,sa12),(1,sa2),(2,sa2),(3,sa7),(6,sa2),(7,sa11),(8,sa2),(102,sa11)],[(3,sa14)]⟩
def jf.c13r:Ck:=Ck.of (T:=Bool) jf.c13s (fun ρ X Z=>jf.c13 X.2.1 (q4 X).2.1 (q8 X).1 Z) (fun ρ X V Z=>Z 0 (Shape.inj jf.c13x0 (X.1,X.2.1,X.2.2.1,X.2.2.2.1,(q4 X).1,(q4 X).2.1,V,(q4 X).2.2)))
def jf.c15 (i:Int)(o2:List (Int))(o3:Int)(Z:Bool→Option ρ):Option ρ:=
  bnd (idx o2 i) fun y=>
  br (y==o3)
   (Z true)
   (bnd (okIf (decide ((0:Int)≤i)&&decide (i≤(o2.length:Int)))) fun y1=>
    bnd (idx o2 i) fun y2=>
    bnd (JN (List.take (Int.toNat i) o2) y2) fun y3=>
    Z y3)
def jf.c15x0:Shape:=⟨[(0,sa12),(1,sa2),(2,sa2),(3,sa7),(6,sa2),(7,sa11),(8,sa2),(122,sa11)],[(3,sa14)]⟩
def jf.c15r:Ck:=Ck.of (T:=Bool) jf.c13s (fun ρ X Z=>jf.c15 (q4 X).2.1 (q8 X).1 (q8 X).2.1 Z) (fun ρ X V Z=>Z 0 (Shape.inj jf.c15x0 (X.1,X.2.1,X.2.2.1,X.2.2.2.1,(q4 X).1,(q4 X).2.1,V,(q4 X).2.2)))
def jf.cj_ (qubits:Int)(i:Int)(o2:List (Int))(o3:Int)(Z:(Int)⊕(((Int)×(Int))⊕(Int))→Option ρ):Option ρ:=
  br (decide (i<(o2.length:Int)))
   (bnd (jf.c13 qubits i o2 some) fun y=>
    br y
     (Z (.inr (.inl ((10:Int),i))))
     (bnd (jf.c15 i o2 o3 some) fun y1=>
      br y1
       (Z (.inr (.inl ((12:Int),i))))
       (Z (.inl (i64.wrap (i+1))))))
   (Z (.inr (.inr i)))
def jf.cj_r:Ck:=Ck.ofLoop (S:=Int) (T:=((Int)×(Int))⊕(Int)) jf.c13s (fun X=>(q4 X).2.1) (fun ρ X Q Z=>jf.cj_ X.2.1 Q (q8 X).1 (q8 X).2.1 Z) (fun ρ X V Z=>sel V (fun V=>Z 1 (Shape.inj jf.c13s (X.1,X.2.1,X.2.2.1,V.1,(q4 X).1,V.2,(q4 X).2.2))) (fun V=>Z 2 (Shape.inj jf.c13s (X.1,X.2.1,X.2.2.1,X.2.2.2.1,(q4 X).1,V,(q4 X).2.2))))
def jf.c18 (bits:Int)(o4:Int)(Z:Bool→Option ρ):Option ρ:=
  br (decide (o4<0))
   (Z true)
   (Z (decide (o4≥bits)))
def jf.c18x0:Shape:=⟨[(0,sa12),(1,sa2),(2,sa2),(3,sa7),(6,sa2),(7,sa11),(8,sa2),(134,sa11)],[(3,sa14)]⟩
def jf.c18r:Ck:=Ck.of (T:=Bool) jf.c13s (fun ρ X Z=>jf.c18 X.2.2.1 (q8 X).2.2.1 Z) (fun ρ X V Z=>Z 0 (Shape.inj jf.c18x0 (X.1,X.2.1,X.2.2.1,X.2.2.2.1,(q4 X).1,(q4 X).2.1,V,(q4 X).2.2)))
def jf.cy_ (bits:Int)(o0:Int)(o4:Int)(Z:(Unit)⊕(Unit)→Option ρ):Option ρ:=
  br (o0==5)
   (bnd (jf.c18 bits o4 some) fun y=>
    br y
     (Z (.inl ()))
     (Z (.inr ())))
   (br (o4 !=0)
     (Z (.inl ()))
     (Z (.inr ())))
def jf.cy_r:Ck:=Ck.of (T:=(Unit)⊕(Unit)) jf.c13s (fun ρ X Z=>jf.cy_ X.2.2.1 (q4 X).2.2.1 (q8 X).2.2.1 Z) (fun ρ X V Z=>sel V (fun V=>Z 1 (Shape.inj jf.c13s (X.1,X.2.1,X.2.2.1,(13:Int),(q4 X)))) (fun V=>Z 0 (Shape.inj jf.c13s X)))
def jf.c27 (bits:Int)(i_1:Int)(o5:List (Int))(Z:Bool→Option ρ):Option ρ:=
  bnd (idx o5 i_1) fun y=>
  br (y==0)
   (Z true)
   (bnd (idx o5 i_1) fun y1=>
    br (decide (y1>bits))
     (Z true)
     (bnd (idx o5 i_1) fun y2=>
      Z (decide (y2<i64.wrap ((0:Int)-bits)))))
def jf.c27s:Shape:=⟨[(0,sa12),(1,sa2),(2,sa2),(3,sa7),(6,sa2),(7,sa11),(8,sa2),(9,sa2)],[(3,sa14)]⟩
def jf.c27x0:Shape:=⟨[(0,sa12),(1,sa2),(2,sa2),(3,sa7),(6,sa2),(7,sa11),(8,sa2),(9,sa2),(173,sa11)],[(3,sa14)]⟩
def jf.c27r:Ck:=Ck.of (T:=Bool) jf.c27s (fun ρ X Z=>jf.c27 X.2.2.1 (q4 X).2.2.1 (q4 (q8 X)).1 Z) (fun ρ X V Z=>Z 0 (Shape.inj jf.c27x0 (X.1,X.2.1,X.2.2.1,X.2.2.2.1,(q4 X).1,(q4 X).2.1,(q4 X).2.2.1,V,(q4 X).2.2.2)))
def jf.cn_ (bits:Int)(i_1:Int)(o5:List (Int))(Z:(Int)⊕((Int)⊕(Int))→Option ρ):Option ρ:=
  br (decide (i_1<(o5.length:Int)))
   (bnd (jf.c27 bits i_1 o5 some) fun y=>
    br y
     (Z (.inr (.inl i_1)))
     (Z (.inl (i64.wrap (i_1+1)))))
   (Z (.inr (.inr i_1)))
def jf.cn_r:Ck:=Ck.ofLoop (S:=Int) (T:=(Int)⊕(Int)) jf.c27s (fun X=>(q4 X).2.2.1) (fun ρ X Q Z=>jf.cn_ X.2.2.1 Q (q4 (q8 X)).1 Z) (fun ρ X V Z=>sel V (fun V=>Z 1 (Shape.inj jf.c27s (X.1,X.2.1,X.2.2.1,(14:Int),(q4 X).1,(q4 X).2.1,V,(q4 X).2.2.2))) (fun V=>Z 4 (Shape.inj jf.c27s (X.1,X.2.1,X.2.2.1,X.2.2.2.1,(q4 X).1,(q4 X).2.1,V,(q4 X).2.2.2))))
def jf (o:YO) (qubits:Int) (bits:Int):Option (Int):=
  bnd (jf.c1 o.1 some) fun y=>
  br y
   (some (8:Int))
   (bnd (jf.c3 o.1 some) fun y1=>
    bnd (jf.c4 y1 o.2.1 some) fun y2=>
    br y2
     (some (9:Int))
     (bnd (jf.c6 qubits o.1 o.2.2.2.1 some) fun y3=>
      br y3
       (some (10:Int))
       (bnd (jf.c8 o.1 o.2.2.1 some) fun y4=>
        br y4
         (some (11:Int))
         (bnd (iter (fun s↦jf.cj_ qubits s o.2.2.1 o.2.2.2.1 some) (0:Int)) fun y5=>
          sel y5
           (fun u=>some u.1)
           (fun v=>bnd (jf.cy_ bits o.1 o.2.2.2.2.1 some) fun y6=>
            sel y6
             (fun u_1=>some (13:Int))
             (fun v_1=>br (decide ((↑(List.length o.2.2.2.2.2):Int)>24))
               (some (14:Int))
               (bnd (iter (fun s↦jf.cn_ bits s o.2.2.2.2.2 some) (0:Int)) fun y7=>
                sel y7
                 (fun u_2=>some (14:Int))
                 (fun v_2=>some (0:Int)))))))))
def jf.ce:Go.Ql.Callee:=⟨[(.st (.pair (.int .i64) (.pair (.int .i64) (.pair (.sl (.int .i64)) (.pair (.int .i64) (.pair (.int .i64) (.sl (.int .i64)))))))),(.int .i64),(.int .i64)],[(.int .i64)],fun X=>jf X.1 X.2.1 X.2.2⟩
def jf.G:Env:=⟨174,tab,[(54,JN.ce)],[0,1,2,3,6,7,8,9,17,42,61,80,85,102,122,125,134,137,141,146,173],[],[(15,[⟨[],[],[105,108,109],[]⟩,⟨[0],[],[105,108,109],[]⟩,⟨[],[],[103,104,108,109],[]⟩,⟨[1,0,2],[],[108,109],[]⟩,⟨[3,1,0,2],[],[108,109],[]⟩,⟨[],[],[103,104,105,106,107],[]⟩,⟨[5],[],[103,104,105,106,107],[]⟩,⟨[4,3,1,0,2,6,5],[],[],[]⟩,⟨[7,4,3,1,0,2,6,5],[],[],[]⟩,⟨[8,7,4,3,1,0,2,6,5],[],[114,116,117,118,119,120],[]⟩,⟨[9,8,7,4,3,1,0,2,6,5],[],[114,116,117,118,119,120],[]⟩,⟨[8,7,4,3,1,0,2,6,5],[],[112,113,116,117,118,119,120],[]⟩,⟨[10,9,8,7,4,3,1,0,2,6,5,11],[],[116,117,118,119,120],[]⟩,⟨[8,7,4,3,1,0,2,6,5],[],[112,113,114,115,118],[]⟩,⟨[13,8,7,4,3,1,0,2,6,5],[],[112,113,114,115,118],[]⟩,⟨[8,7,4,3,1,0,2,6,5],[],[112,113,114,115,116,117],[]⟩,⟨[14,13,8,7,4,3,1,0,2,6,5,15],[],[112,113,114,115],[]⟩,⟨[16,14,13,8,7,4,3,1,0,2,6,5,15],[],[112,113,114,115],[]⟩,⟨[12,10,9,8,7,4,3,1,0,2,6,5,11,17,16,14,13,15],[],[],[]⟩,⟨[8,7,4,3,1,0,2,6,5,18,12,10,9,11,17,16,14,13,15],[],[],[]⟩])],[(100025,jf.cn_r),(27,jf.c27r),(269649,jf.cy_r),(18,jf.c18r),(100011,jf.cj_r),(15,jf.c15r),(13,jf.c13r),(8,jf.c8r),(6,jf.c6r),(4,jf.c4r),(3,jf.c3r),(1,jf.c1r)],[],jI,[]⟩
theorem jf.p0:PcA jf.G Tryz.f68 0:=
  js (s:=jf.c1r) (by kernel_rfl) (by kernel_rfl) (jp (sh:=jf.c1s) (fun ρ X Z=>(jg jc jc)) (fun ρ X t k=>(by kernel_rfl)) (fun X=>by kernel_rfl))
theorem jf.p1:PcA jf.G Tryz.f68 1:=
  js (s:=jf.c3r) (by kernel_rfl) (by kernel_rfl) (jp (sh:=jf.c1s) (fun ρ X Z=>(jg jc jc)) (fun ρ X t k=>(by kernel_rfl)) (fun X=>by kernel_rfl))
theorem jf.p2:PcA jf.G Tryz.f68 2:=
  js (s:=jf.c4r) (by kernel_rfl) (by kernel_rfl) (jp (sh:=jf.c3x0) (fun ρ X Z=>(jg jc (jg jc (jg jc jc)))) (fun ρ X t k=>(by kernel_rfl)) (fun X=>by kernel_rfl))
theorem jf.p3:PcA jf.G Tryz.f68 3:=
  js (s:=jf.c6r) (by kernel_rfl) (by kernel_rfl) (jp (sh:=jf.c3x0) (fun ρ X Z=>(jg jc (jg jc (jg jc jc)))) (fun ρ X t k=>(by kernel_rfl)) (fun X=>by kernel_rfl))
theorem jf.p4:PcA jf.G Tryz.f68 4:=
  js (s:=jf.c8r) (by kernel_rfl) (by kernel_rfl) (jp (sh:=jf.c3x0) (fun ρ X Z=>(jg (jg (jg jc jc) jc) jc)) (fun ρ X t k=>(by kernel_rfl)) (fun X=>by kernel_rfl))
theorem jf.p5:PcA jf.G Tryz.f68 5:=
  Jf (s:=jf.cj_r) (by kernel_rfl) (by kernel_rfl) (jW (sh:=jf.c13s) (I:=fun X Q=>(X.1,X.2.1,X.2.2.1,X.2.2.2.1,(q4 X).1,Q,(q4 X).2.2)) (fun X=>rfl) (fun ρ X Q Z=>(jg (jb fun _=>(jg jc (jb fun _=>(jg jc jc)))) jc)) (fun ρ X t k=>(kr (fun _=>(by kernel_rfl)) (fun _=>(by kernel_rfl)))) (fun X s=>by kernel_rfl))
theorem jf.p6:PcA jf.G Tryz.f68 6:=
  js (s:=jf.c13r) (by kernel_rfl) (by kernel_rfl) (jp (sh:=jf.c13s) (fun ρ X Z=>(jb fun _=>(jg jc (jb fun _=>jc)))) (fun ρ X t k=>(by kernel_rfl)) (fun X=>by kernel_rfl))
theorem jf.p7:PcA jf.G Tryz.f68 7:=
  js (s:=jf.c15r) (by kernel_rfl) (by kernel_rfl) (jp (sh:=jf.c13s) (fun ρ X Z=>(jb fun _=>(jg jc (jb fun _=>(jb fun _=>(jb fun _=>jc)))))) (fun ρ X t k=>(by kernel_rfl)) (fun X=>by kernel_rfl))
theorem jf.p8:PcA jf.G Tryz.f68 8:=
  JR (s:=jf.cy_r) (by kernel_rfl) (by kernel_rfl) (jp (sh:=jf.c13s) (fun ρ X Z=>(jg (jb fun _=>(jg jc jc)) (jg jc jc))) (fun ρ X t k=>(kr (fun _=>(by kernel_rfl)) (fun _=>(by kernel_rfl)))) (fun X=>by kernel_rfl))
theorem jf.p9:PcA jf.G Tryz.f68 9:=
  js (s:=jf.c18r) (by kernel_rfl) (by kernel_rfl) (jp (sh:=jf.c13s) (fun ρ X Z=>(jg jc jc)) (fun ρ X t k=>(by kernel_rfl)) (fun X=>by kernel_rfl))
theorem jf.p10:PcA jf.G Tryz.f68 10:=
  Jf (s:=jf.cn_r) (by kernel_rfl) (by kernel_rfl) (jW (sh:=jf.c27s) (I:=fun X Q=>(X.1,X.2.1,X.2.2.1,X.2.2.2.1,(q4 X).1,(q4 X).2.1,Q,(q4 X).2.2.2)) (fun X=>rfl) (fun ρ X Q Z=>(jg (jb fun _=>(jg jc jc)) jc)) (fun ρ X t k=>(kr (fun _=>(by kernel_rfl)) (fun _=>(by kernel_rfl)))) (fun X s=>by kernel_rfl))
theorem jf.p11:PcA jf.G Tryz.f68 11:=
  js (s:=jf.c27r) (by kernel_rfl) (by kernel_rfl) (jp (sh:=jf.c27s) (fun ρ X Z=>(jb fun _=>(jg jc (jb fun _=>(jg jc (jb fun _=>jc)))))) (fun ρ X t k=>(by kernel_rfl)) (fun X=>by kernel_rfl))
theorem jf.ok:CalleeOk Tryz.prog 68 jf.ce:=fn_ok (G:=jf.G) jX mixed Tryz.func68 ⟨(jn JN.ok jK),jE,jq,jD⟩ (m:=12) (by kernel_rfl) ⟨⟨⟨⟨⟨⟨⟨⟨⟨⟨⟨⟨trivial,jf.p0⟩,jf.p1⟩,jf.p2⟩,jf.p3⟩,jf.p4⟩,jf.p5⟩,jf.p6⟩,jf.p7⟩,jf.p8⟩,jf.p9⟩,jf.p10⟩,jf.p11⟩ (by kernel_rfl) (fun _=>by kernel_rfl)
def Ja.c1 (c0:Int)(Z:Bool→Option ρ):Option ρ:=
  br (decide (c0<1))
   (Z true)
   (Z (decide (c0>12)))
def Ja.c1s:Shape:=⟨[(0,sa4),(1,sa5),(2,sa6)],[(1,sa8),(2,sa17)]⟩
def Ja.c1x0:Shape:=⟨[(0,sa4),(1,sa5),(2,sa6),(12,sa11)],[(1,sa8),(2,sa17)]⟩
def Ja.c1r:Ck:=Ck.of (T:=Bool) Ja.c1s (fun ρ X Z=>Ja.c1 X.2.1 Z) (fun ρ X V Z=>Z 0 (Shape.inj Ja.c1x0 (X.1,V,X.2)))
def Ja.c3 (c1:Int)(Z:Bool→Option ρ):Option ρ:=
  br (decide (c1<0))
   (Z true)
   (Z (decide (c1>12)))
def Ja.c3x0:Shape:=⟨[(0,sa4),(1,sa5),(2,sa6),(21,sa11)],[(1,sa8),(2,sa17)]⟩
def Ja.c3r:Ck:=Ck.of (T:=Bool) Ja.c1s (fun ρ X Z=>Ja.c3 X.2.2.1 Z) (fun ρ X V Z=>Z 0 (Shape.inj Ja.c3x0 (X.1,V,X.2)))
def Ja.c10 (i:Int)(c0:Int)(c1:Int)(c2:List YO)(Z:Int→Option ρ):Option ρ:=
  bnd (idx c2 i) fun y=>
  bnd (jf y c0 c1) fun y1=>
  Z y1
def Ja.c10s:Shape:=⟨[(0,sa4),(1,sa5),(2,sa6),(3,sa2)],[(1,sa8),(2,sa17)]⟩
def Ja.c10x0:Shape:=⟨[(0,sa4),(1,sa5),(2,sa6),(3,sa2),(4,sa2)],[(1,sa8),(2,sa17)]⟩
def Ja.c10r:Ck:=Ck.of (T:=Int) Ja.c10s (fun ρ X Z=>Ja.c10 X.2.1 X.2.2.1 X.2.2.2.1 (q4 X).1 Z) (fun ρ X V Z=>Z 0 (Shape.inj Ja.c10x0 (X.1,X.2.1,V,X.2.2)))
def Ja.cf_ (i:Int)(c0:Int)(c1:Int)(c2:List YO)(Z:(Int)⊕(((Int)×(Int)×(Int))⊕(Int))→Option ρ):Option ρ:=
  br (decide (i<(c2.length:Int)))
   (bnd (Ja.c10 i c0 c1 c2 some) fun y=>
    br (y !=0)
     (bnd (ki y i) fun y1=>
      Z (.inr (.inl (i,y1.1,y1.2))))
     (Z (.inl (i64.wrap (i+1)))))
   (Z (.inr (.inr i)))
def Ja.cf_r:Ck:=Ck.ofLoop (S:=Int) (T:=((Int)×(Int)×(Int))⊕(Int)) Ja.c10s (fun X=>X.2.1) (fun ρ X Q Z=>Ja.cf_ Q X.2.2.1 X.2.2.2.1 (q4 X).1 Z) (fun ρ X V Z=>sel V (fun V=>Z 1 (Shape.inj Ja.c10s (X.1,V.1,X.2.2.1,X.2.2.2.1,(q4 X).1,V.2.1,V.2.2,()))) (fun V=>Z 2 (Shape.inj Ja.c10s (X.1,V,X.2.2))))
def Ja (c:(Int)×((Int)×(List YO))):Option ((Int)×(Int)):=
  bnd (Ja.c1 c.1 some) fun y=>
  br y
   (bnd (ki (6:Int) (0:Int)) fun y1=>
    some (y1.1,y1.2))
   (bnd (Ja.c3 c.2.1 some) fun y2=>
    br y2
     (bnd (ki (7:Int) (0:Int)) fun y3=>
      some (y3.1,y3.2))
     (br (decide ((↑(List.length c.2.2):Int)>4096))
       (bnd (ki (2:Int) (0:Int)) fun y4=>
        some (y4.1,y4.2))
       (bnd (iter (fun s↦Ja.cf_ s c.1 c.2.1 c.2.2 some) (0:Int)) fun y5=>
        sel y5
         (fun u=>some (u.2.1,u.2.2))
         (fun v=>some ((0:Int),(0:Int))))))
def Ja.ce:Go.Ql.Callee:=⟨[(.st (.pair (.int .i64) (.pair (.int .i64) (.sl (.st (.pair (.int .i64) (.pair (.int .i64) (.pair (.sl (.int .i64)) (.pair (.int .i64) (.pair (.int .i64) (.sl (.int .i64))))))))))))],[(.st (.pair (.int .i64) (.int .i64)))],fun X=>Ja X⟩
def Ja.G:Env:=⟨51,tab,[(35,ki.ce),(68,jf.ce)],[0,1,2,3,4,12,21,26,32,46],[],[(10,[⟨[],[],[37,40,41,42,43],[]⟩,⟨[0],[],[37,40,41,42,43],[]⟩,⟨[],[],[35,36,40,41,42,43],[]⟩,⟨[1,0,2],[],[40,41,42,43],[]⟩,⟨[3,1,0,2],[],[40,41,42,43],[]⟩,⟨[],[],[35,36,37,38,39,42,43],[]⟩,⟨[5],[],[35,36,37,38,39,42,43],[]⟩,⟨[],[],[35,36,37,38,39,40,41],[]⟩,⟨[7],[],[35,36,37,38,39,40,41],[]⟩,⟨[4,3,1,0,2,6,5,8,7],[],[],[]⟩,⟨[9,4,3,1,0,2,6,5,8,7],[],[],[]⟩])],[(100008,Ja.cf_r),(10,Ja.c10r),(3,Ja.c3r),(1,Ja.c1r)],[],jI,[]⟩
theorem Ja.p0:PcA Ja.G Tryz.f34 0:=
  js (s:=Ja.c1r) (by kernel_rfl) (by kernel_rfl) (jp (sh:=Ja.c1s) (fun ρ X Z=>(jg jc jc)) (fun ρ X t k=>(by kernel_rfl)) (fun X=>by kernel_rfl))
theorem Ja.p1:PcA Ja.G Tryz.f34 1:=
  js (s:=Ja.c3r) (by kernel_rfl) (by kernel_rfl) (jp (sh:=Ja.c1s) (fun ρ X Z=>(jg jc jc)) (fun ρ X t k=>(by kernel_rfl)) (fun X=>by kernel_rfl))
theorem Ja.p2:PcA Ja.G Tryz.f34 2:=
  Jf (s:=Ja.cf_r) (by kernel_rfl) (by kernel_rfl) (jW (sh:=Ja.c10s) (I:=fun X Q=>(X.1,Q,X.2.2)) (fun X=>rfl) (fun ρ X Q Z=>(jg (jb fun _=>(jg (jb fun _=>jc) jc)) jc)) (fun ρ X t k=>(kr (fun _=>(by kernel_rfl)) (fun _=>(by kernel_rfl)))) (fun X s=>by kernel_rfl))
theorem Ja.p3:PcA Ja.G Tryz.f34 3:=
  js (s:=Ja.c10r) (by kernel_rfl) (by kernel_rfl) (jp (sh:=Ja.c10s) (fun ρ X Z=>(jb fun _=>(jb fun _=>jc))) (fun ρ X t k=>(by kernel_rfl)) (fun X=>by kernel_rfl))
theorem Ja.ok:CalleeOk Tryz.prog 34 Ja.ce:=fn_ok (G:=Ja.G) jX mixed Tryz.func34 ⟨(jn ki.ok (jn jf.ok jK)),jE,jq,jD⟩ (m:=4) (by kernel_rfl) ⟨⟨⟨⟨trivial,Ja.p0⟩,Ja.p1⟩,Ja.p2⟩,Ja.p3⟩ (by kernel_rfl) (fun _=>by kernel_rfl)
abbrev sa72:SO:=.box [.val .bool,.val (.sl (.int .i64))]
def Jm.c2 (d:List (Int))(n:Int)(Z:Bool→Option ρ):Option ρ:=
  br (decide (n>0))
   (bnd (idx d (i64.wrap (n-1))) fun y=>
    Z (y==0))
   (Z false)
def Jm.c2s:Shape:=⟨[(0,sa11),(1,sa0),(4,sa20),(5,sa2)],[(4,sa72)]⟩
def Jm.c2x0:Shape:=⟨[(0,sa11),(1,sa0),(4,sa20),(5,sa2),(17,sa11)],[(4,sa72)]⟩
def Jm.c2r:Ck:=Ck.of (T:=Bool) Jm.c2s (fun ρ X Z=>Jm.c2 X.2.1 X.2.2.1 Z) (fun ρ X V Z=>Z 0 (Shape.inj Jm.c2x0 (X.1,X.2.1,X.2.2.1,V,X.2.2.2)))
def Jm.cc_ (d:List (Int))(n:Int)(Z:(Int)⊕(Int)→Option ρ):Option ρ:=
  bnd (Jm.c2 d n some) fun y=>
  br y
   (Z (.inl (i64.wrap (n-1))))
   (Z (.inr n))
def Jm.cc_r:Ck:=Ck.ofLoop (S:=Int) (T:=Int) Jm.c2s (fun X=>X.2.2.1) (fun ρ X Q Z=>Jm.cc_ X.2.1 Q Z) (fun ρ X V Z=>Z 2 (Shape.inj Jm.c2s (X.1,X.2.1,V,X.2.2.2)))
def Jm (neg:Bool) (d:List (Int)):Option (Bool×(List Int)):=
  bnd (iter (fun s↦Jm.cc_ d s some) ↑(d.length)) fun y=>
  br (y==0)
   (some (false,[]))
   (bnd (okIf (decide ((0:Int)≤y)&&decide (y≤(d.length:Int)))) fun y1=>
    some (neg,List.take (Int.toNat y) d))
def Jm.ce:Go.Ql.Callee:=⟨[.bool,(.sl (.int .i64))],[(.st (.pair .bool (.sl (.int .i64))))],fun X=>Jm X.1 X.2⟩
def Jm.G:Env:=⟨28,tab,[],[0,1,4,5,17,21],[],[],[(100002,Jm.cc_r),(2,Jm.c2r)],[],jI,[]⟩
theorem Jm.p0:PcA Jm.G Tryz.f74 0:=
  Jf (s:=Jm.cc_r) (by kernel_rfl) (by kernel_rfl) (jW (sh:=Jm.c2s) (I:=fun X Q=>(X.1,X.2.1,Q,X.2.2.2)) (fun X=>rfl) (fun ρ X Q Z=>(jb fun _=>(jg jc jc))) (fun ρ X t k=>(by kernel_rfl)) (fun X s=>by kernel_rfl))
theorem Jm.p1:PcA Jm.G Tryz.f74 1:=
  js (s:=Jm.c2r) (by kernel_rfl) (by kernel_rfl) (jp (sh:=Jm.c2s) (fun ρ X Z=>(jg (jb fun _=>jc) jc)) (fun ρ X t k=>(by kernel_rfl)) (fun X=>by kernel_rfl))
theorem Jm.ok:CalleeOk Tryz.prog 74 Jm.ce:=fn_ok (G:=Jm.G) jX mixed Tryz.func74 ⟨jK,jE,jq,jD⟩ (m:=2) (by kernel_rfl) ⟨⟨trivial,Jm.p0⟩,Jm.p1⟩ (by kernel_rfl) (fun _=>by kernel_rfl)
def JQ.cm_ (n:Int)(u:Int)(Z:Int→Option ρ):Option ρ:=
  br (decide (n<0))
   (Z (u64.wrap ((0:Int)-u)))
   (Z u)
def JQ.cm_s:Shape:=⟨[(0,sa2),(2,sa6),(3,sa22)],[(2,sa72)]⟩
def JQ.cm_r:Ck:=Ck.of (T:=Int) JQ.cm_s (fun ρ X Z=>JQ.cm_ X.1 X.2.1 Z) (fun ρ X V Z=>Z 0 (Shape.inj JQ.cm_s (X.1,V,X.2.2)))
def JQ.cg_ (u:Int)(d:List (Int))(Z:((Int)×(List Int))⊕((Int)×(List Int))→Option ρ):Option ρ:=
  br (decide (u>0))
   (bnd (okIf (decide ((d.length+1)*8≤140737488355328)&&decide (d.length+1≤140737488355328))) fun y=>
    Z (.inl ((u64.wrap (Int.tdiv u (10000:Int))),(d++[i64.wrap (Int.tmod u (10000:Int))]))))
   (Z (.inr (u,d)))
def JQ.cg_s:Shape:=⟨[(0,sa2),(2,sa6),(3,sa22),(4,sa44)],[(2,sa72),(4,sa3)]⟩
def JQ.cg_r:Ck:=Ck.ofLoop (S:=(Int)×(List Int)) (T:=(Int)×(List Int)) JQ.cg_s (fun X=>(X.2.1,(q4 X).1)) (fun ρ X Q Z=>JQ.cg_ Q.1 Q.2 Z) (fun ρ X V Z=>Z 2 (Shape.inj JQ.cg_s (X.1,V.1,X.2.2.1,X.2.2.2.1,V.2,())))
def JQ (n:Int):Option (Bool×(List Int)):=
  bnd (JQ.cm_ n (IntKind.wrap IntKind.u64 n) some) fun y=>
  bnd (iter (fun s↦JQ.cg_ s.1 s.2 some) (y,[])) fun y1=>
  bnd (Jm (decide (n<0)) y1.2) fun y2=>
  some (y2.1,y2.2)
def JQ.ce:Go.Ql.Callee:=⟨[(.int .i64)],[(.st (.pair .bool (.sl (.int .i64))))],fun X=>JQ X⟩
def JQ.G:Env:=⟨25,tab,[(74,Jm.ce)],[0,2,3,4,8,12],[4],[],[(100005,JQ.cg_r),(208197,JQ.cm_r)],[],jI,[]⟩
theorem JQ.p0:PcA JQ.G Tryz.f41 0:=
  JR (s:=JQ.cm_r) (by kernel_rfl) (by kernel_rfl) (jp (sh:=JQ.cm_s) (fun ρ X Z=>(jg jc jc)) (fun ρ X t k=>(by kernel_rfl)) (fun X=>by kernel_rfl))
theorem JQ.p1:PcA JQ.G Tryz.f41 1:=
  Jf (s:=JQ.cg_r) (by kernel_rfl) (by kernel_rfl) (jW (sh:=JQ.cg_s) (I:=fun X Q=>(X.1,Q.1,X.2.2.1,X.2.2.2.1,Q.2,())) (fun X=>rfl) (fun ρ X Q Z=>(jg (jb fun _=>jc) jc)) (fun ρ X t k=>(by kernel_rfl)) (fun X s=>by kernel_rfl))
theorem JQ.ok:CalleeOk Tryz.prog 41 JQ.ce:=fn_ok (G:=JQ.G) jX mixed Tryz.func41 ⟨(jn Jm.ok jK),jE,jq,jD⟩ (m:=2) (by kernel_rfl) ⟨⟨trivial,JQ.p0⟩,JQ.p1⟩ (by kernel_rfl) (fun _=>by kernel_rfl)
def Yx (n:Bool×(List Int)):Option YN:=
  bnd (idx (List.replicate (8:Nat) (false,([]:List (Ty.den (Ty.int IntKind.i64))))) (0:Int)) fun y=>
  some (List.set (List.replicate (8:Nat) (false,([]:List (Ty.den (Ty.int IntKind.i64))))) (0:Nat) (n.1,n.2),(0:Int))
def Yx.ce:Go.Ql.Callee:=⟨[(.st (.pair .bool (.sl (.int .i64))))],[(.st (.pair (.ar 8 (.st (.pair .bool (.sl (.int .i64))))) (.int .i64)))],fun X=>Yx X⟩
def Yx.G:Env:=⟨9,tab,[],[0,1,2,3],[2,3,4],[],[],[],jI,[]⟩
theorem Yx.ok:CalleeOk Tryz.prog 69 Yx.ce:=fn_ok (G:=Yx.G) jX mixed Tryz.func69 ⟨jK,jE,jq,jD⟩ (m:=0) (by kernel_rfl) trivial (by kernel_rfl) (fun _=>by kernel_rfl)
def Yb (qubits:Int) (t1:Int):Option (List YN):=
  bnd (okIf (decide ((0:Int)≤qubits))) fun y=>
  bnd (okIf (decide ((0:Int)≤i64.wrap ((1:Int)*2^Min.min (Int.toNat qubits) (64:Nat)))&&decide (i64.wrap ((1:Int)*2^Min.min (Int.toNat qubits) (64:Nat))≤i64.wrap ((1:Int)*2^Min.min (Int.toNat qubits) (64:Nat)))&&decide (i64.wrap ((1:Int)*2^Min.min (Int.toNat qubits) (64:Nat))*(↑(264:Nat):Int)≤140737488355328)&&decide (i64.wrap ((1:Int)*2^Min.min (Int.toNat qubits) (64:Nat))≤140737488355328))) fun y1=>
  bnd (JQ (1:Int)) fun y2=>
  bnd (Yx y2) fun y3=>
  bnd (inR (List.length (List.replicate (Int.toNat (i64.wrap ((1:Int)*2^Min.min (Int.toNat qubits) (64:Nat)))) (List.replicate (8:Nat) (false,([]:List (Ty.den (Ty.int IntKind.i64)))),(0:Int)))) t1) fun y4=>
  bnd (idx (List.replicate (Int.toNat (i64.wrap ((1:Int)*2^Min.min (Int.toNat qubits) (64:Nat)))) (List.replicate (8:Nat) (false,([]:List (Ty.den (Ty.int IntKind.i64)))),(0:Int))) t1) fun y5=>
  some (List.set (List.replicate (Int.toNat (i64.wrap ((1:Int)*2^Min.min (Int.toNat qubits) (64:Nat)))) (List.replicate (8:Nat) (false,([]:List (Ty.den (Ty.int IntKind.i64)))),(0:Int))) (Int.toNat t1) y3)
def Yb.ce:Go.Ql.Callee:=⟨[(.int .i64),(.int .i64)],[(.sl (.st (.pair (.ar 8 (.st (.pair .bool (.sl (.int .i64))))) (.int .i64))))],fun X=>Yb X.1 X.2⟩
def Yb.G:Env:=⟨15,tab,[(41,JQ.ce),(69,Yx.ce)],[0,1,4,5],[8],[],[],[],jI,[]⟩
theorem Yb.ok:CalleeOk Tryz.prog 36 Yb.ce:=fn_ok (G:=Yb.G) jX mixed Tryz.func36 ⟨(jn JQ.ok (jn Yx.ok jK)),jE,jq,jD⟩ (m:=0) (by kernel_rfl) trivial (by kernel_rfl) (fun _=>by kernel_rfl)
def jG.c4 (bits:List (Int))(i:Int)(o5:List (Int))(Z:Bool→Option ρ):Option ρ:=
  bnd (idx o5 i) fun y=>
  br (decide (y>0))
   (bnd (idx o5 i) fun y1=>
    bnd (idx bits (i64.wrap (y1-1))) fun y2=>
    Z (y2 !=1))
   (Z false)
def jG.c4s:Shape:=⟨[(0,sa12),(1,sa0),(2,sa6),(4,sa11),(5,sa2)],[(2,sa14)]⟩
def jG.c4x0:Shape:=⟨[(0,sa12),(1,sa0),(2,sa6),(4,sa11),(5,sa2),(30,sa11)],[(2,sa14)]⟩
def jG.c4r:Ck:=Ck.of (T:=Bool) jG.c4s (fun ρ X Z=>jG.c4 X.2.1 X.2.2.2.1 (q8 X).2.1 Z) (fun ρ X V Z=>Z 0 (Shape.inj jG.c4x0 (X.1,X.2.1,X.2.2.1,X.2.2.2.1,V,(q4 X))))
def jG.c6 (bits:List (Int))(i:Int)(o5:List (Int))(Z:Bool→Option ρ):Option ρ:=
  bnd (idx o5 i) fun y=>
  br (decide (y<0))
   (bnd (idx o5 i) fun y1=>
    bnd (idx bits (i64.wrap (i64.wrap ((0:Int)-y1)-1))) fun y2=>
    Z (y2 !=0))
   (Z false)
def jG.c6x0:Shape:=⟨[(0,sa12),(1,sa0),(2,sa6),(4,sa11),(5,sa2),(49,sa11)],[(2,sa14)]⟩
def jG.c6r:Ck:=Ck.of (T:=Bool) jG.c4s (fun ρ X Z=>jG.c6 X.2.1 X.2.2.2.1 (q8 X).2.1 Z) (fun ρ X V Z=>Z 0 (Shape.inj jG.c6x0 (X.1,X.2.1,X.2.2.1,X.2.2.2.1,V,(q4 X))))
def jG.cc_ (bits:List (Int))(i:Int)(o5:List (Int))(Z:(Int)⊕((Int)⊕(Int))→Option ρ):Option ρ:=
  br (decide (i<(o5.length:Int)))
   (bnd (jG.c4 bits i o5 some) fun y=>
    br y
     (Z (.inr (.inl i)))
     (bnd (jG.c6 bits i o5 some) fun y1=>
      br y1
       (Z (.inr (.inl i)))
       (Z (.inl (i64.wrap (i+1))))))
   (Z (.inr (.inr i)))
def jG.cc_r:Ck:=Ck.ofLoop (S:=Int) (T:=(Int)⊕(Int)) jG.c4s (fun X=>X.2.2.2.1) (fun ρ X Q Z=>jG.cc_ X.2.1 Q (q8 X).2.1 Z) (fun ρ X V Z=>sel V (fun V=>Z 1 (Shape.inj jG.c4s (X.1,X.2.1,false,V,(q4 X)))) (fun V=>Z 2 (Shape.inj jG.c4s (X.1,X.2.1,X.2.2.1,V,(q4 X)))))
def jG (o:YO) (bits:List (Int)):Option Bool:=
  bnd (iter (fun s↦jG.cc_ bits s o.2.2.2.2.2 some) (0:Int)) fun y=>
  sel y
   (fun u=>some false)
   (fun v=>some true)
def jG.ce:Go.Ql.Callee:=⟨[(.st (.pair (.int .i64) (.pair (.int .i64) (.pair (.sl (.int .i64)) (.pair (.int .i64) (.pair (.int .i64) (.sl (.int .i64)))))))),(.sl (.int .i64))],[.bool],fun X=>jG X.1 X.2⟩
def jG.G:Env:=⟨50,tab,[],[0,1,2,4,5,10,30,49],[],[],[(100002,jG.cc_r),(6,jG.c6r),(4,jG.c4r)],[],jI,[]⟩
theorem jG.p0:PcA jG.G Tryz.f37 0:=
  Jf (s:=jG.cc_r) (by kernel_rfl) (by kernel_rfl) (jW (sh:=jG.c4s) (I:=fun X Q=>(X.1,X.2.1,X.2.2.1,Q,(q4 X))) (fun X=>rfl) (fun ρ X Q Z=>(jg (jb fun _=>(jg jc (jb fun _=>(jg jc jc)))) jc)) (fun ρ X t k=>(kr (fun _=>(by kernel_rfl)) (fun _=>(by kernel_rfl)))) (fun X s=>by kernel_rfl))
theorem jG.p1:PcA jG.G Tryz.f37 1:=
  js (s:=jG.c4r) (by kernel_rfl) (by kernel_rfl) (jp (sh:=jG.c4s) (fun ρ X Z=>(jb fun _=>(jg (jb fun _=>(jb fun _=>jc)) jc))) (fun ρ X t k=>(by kernel_rfl)) (fun X=>by kernel_rfl))
theorem jG.p2:PcA jG.G Tryz.f37 2:=
  js (s:=jG.c6r) (by kernel_rfl) (by kernel_rfl) (jp (sh:=jG.c4s) (fun ρ X Z=>(jb fun _=>(jg (jb fun _=>(jb fun _=>jc)) jc))) (fun ρ X t k=>(by kernel_rfl)) (fun X=>by kernel_rfl))
theorem jG.ok:CalleeOk Tryz.prog 37 jG.ce:=fn_ok (G:=jG.G) jX mixed Tryz.func37 ⟨jK,jE,jq,jD⟩ (m:=3) (by kernel_rfl) ⟨⟨⟨trivial,jG.p0⟩,jG.p1⟩,jG.p2⟩ (by kernel_rfl) (fun _=>by kernel_rfl)
abbrev sa73:SD:=.one (.val (.st (.pair (.ar 8 (.st (.pair .bool (.sl (.int .i64))))) (.int .i64))))
abbrev sa74:SD:=.one (.fptr (.st (.pair (.ar 8 (.st (.pair .bool (.sl (.int .i64))))) (.int .i64))))
def Jv.cc_ (a_1:YN)(i:Int)(Z:(Int)⊕((Int)⊕(Int))→Option ρ):Option ρ:=
  br (decide (i<8))
   (bnd (idx a_1.1 i) fun y=>
    br (decide ((↑(List.length y.2):Int)>0))
     (Z (.inr (.inl i)))
     (Z (.inl (i64.wrap (i+1)))))
   (Z (.inr (.inr i)))
def Jv.cc_s:Shape:=⟨[(0,sa73),(1,sa74),(2,sa11),(3,sa2)],[]⟩
def Jv.cc_r:Ck:=Ck.ofLoop (S:=Int) (T:=(Int)⊕(Int)) Jv.cc_s (fun X=>X.2.2.2.1) (fun ρ X Q Z=>Jv.cc_ X.2.1 Q Z) (fun ρ X V Z=>sel V (fun V=>Z 1 (Shape.inj Jv.cc_s (X.1,X.2.1,false,V,()))) (fun V=>Z 2 (Shape.inj Jv.cc_s (X.1,X.2.1,X.2.2.1,V,()))))
def Jv (a:YN):Option Bool:=
  bnd (iter (fun s↦Jv.cc_ a s some) (0:Int)) fun y=>
  sel y
   (fun u=>some false)
   (fun v=>some true)
def Jv.ce:Go.Ql.Callee:=⟨[(.st (.pair (.ar 8 (.st (.pair .bool (.sl (.int .i64))))) (.int .i64)))],[.bool],fun X=>Jv X⟩
def Jv.G:Env:=⟨15,tab,[],[0,1,2,3,5,14],[8000001],[],[(100002,Jv.cc_r)],[],jI,[]⟩
theorem Jv.p0:PcA Jv.G Tryz.f42 0:=
  Jf (s:=Jv.cc_r) (by kernel_rfl) (by kernel_rfl) (jW (sh:=Jv.cc_s) (I:=fun X Q=>(X.1,X.2.1,X.2.2.1,Q,())) (fun X=>rfl) (fun ρ X Q Z=>(jg (jb fun _=>(jg jc jc)) jc)) (fun ρ X t k=>(kr (fun _=>(by kernel_rfl)) (fun _=>(by kernel_rfl)))) (fun X s=>by kernel_rfl))
theorem Jv.ok:CalleeOk Tryz.prog 42 Jv.ce:=fn_ok (G:=Jv.G) jX mixed Tryz.func42 ⟨jK,jE,jq,jD⟩ (m:=1) (by kernel_rfl) ⟨trivial,Jv.p0⟩ (by kernel_rfl) (fun _=>by kernel_rfl)
def kz (x:Int) (q:Int):Option (Int):=
  bnd (okIf (decide ((0:Int)≤q))) fun y=>
  some (ibits BinOp.and IntKind.i64 (Int.fdiv x ((2:Int)^Min.min (Int.toNat q) (64:Nat))) (1:Int))
def kz.ce:Go.Ql.Callee:=⟨[(.int .i64),(.int .i64)],[(.int .i64)],fun X=>kz X.1 X.2⟩
def kz.G:Env:=⟨9,tab,[],[0,1,4],[],[],[],[],jI,[]⟩
theorem kz.ok:CalleeOk Tryz.prog 55 kz.ce:=fn_ok (G:=kz.G) jX mixed Tryz.func55 ⟨jK,jE,jq,jD⟩ (m:=0) (by kernel_rfl) trivial (by kernel_rfl) (fun _=>by kernel_rfl)
def JM.cc_ (x:Int)(qs:List (Int))(i:Int)(Z:(Int)⊕((Int)⊕(Int))→Option ρ):Option ρ:=
  br (decide (i<(qs.length:Int)))
   (bnd (idx qs i) fun y=>
    bnd (kz x y) fun y1=>
    br (y1==0)
     (Z (.inr (.inl i)))
     (Z (.inl (i64.wrap (i+1)))))
   (Z (.inr (.inr i)))
def JM.cc_s:Shape:=⟨[(0,sa2),(1,sa0),(4,sa11),(5,sa2)],[]⟩
def JM.cc_r:Ck:=Ck.ofLoop (S:=Int) (T:=(Int)⊕(Int)) JM.cc_s (fun X=>X.2.2.2.1) (fun ρ X Q Z=>JM.cc_ X.1 X.2.1 Q Z) (fun ρ X V Z=>sel V (fun V=>Z 1 (Shape.inj JM.cc_s (X.1,X.2.1,false,V,()))) (fun V=>Z 2 (Shape.inj JM.cc_s (X.1,X.2.1,X.2.2.1,V,()))))
def JM (x:Int) (qs:List (Int)):Option Bool:=
  bnd (iter (fun s↦JM.cc_ x qs s some) (0:Int)) fun y=>
  sel y
   (fun u=>some false)
   (fun v=>some true)
def JM.ce:Go.Ql.Callee:=⟨[(.int .i64),(.sl (.int .i64))],[.bool],fun X=>JM X.1 X.2⟩
def JM.G:Env:=⟨19,tab,[(55,kz.ce)],[0,1,4,5,9,18],[],[],[(100002,JM.cc_r)],[],jI,[]⟩
theorem JM.p0:PcA JM.G Tryz.f70 0:=
  Jf (s:=JM.cc_r) (by kernel_rfl) (by kernel_rfl) (jW (sh:=JM.cc_s) (I:=fun X Q=>(X.1,X.2.1,X.2.2.1,Q,())) (fun X=>rfl) (fun ρ X Q Z=>(jg (jb fun _=>(jb fun _=>(jg jc jc))) jc)) (fun ρ X t k=>(kr (fun _=>(by kernel_rfl)) (fun _=>(by kernel_rfl)))) (fun X s=>by kernel_rfl))
theorem JM.ok:CalleeOk Tryz.prog 70 JM.ce:=fn_ok (G:=JM.G) jX mixed Tryz.func70 ⟨(jn kz.ok jK),jE,jq,jD⟩ (m:=1) (by kernel_rfl) ⟨trivial,JM.p0⟩ (by kernel_rfl) (fun _=>by kernel_rfl)
abbrev sa75:SD:=.one (.val (.st (.pair .bool (.sl (.int .i64)))))
abbrev sa76:SD:=.one (.own 17 0)
def jV.c7 (c:Int)(j:Int)(b1:List (Int))(Z:Bool→Option ρ):Option ρ:=
  br (decide (j<(b1.length:Int)))
   (Z true)
   (Z (decide (c>0)))
def jV.c7s:Shape:=⟨[(0,sa75),(1,sa75),(2,sa6),(3,sa7),(4,sa20),(5,sa76),(6,sa2),(7,sa2),(8,sa2)],[(2,sa72),(3,sa72),(4,sa72),(17,sa3)]⟩
def jV.c7x0:Shape:=⟨[(0,sa75),(1,sa75),(2,sa6),(3,sa7),(4,sa20),(5,sa76),(6,sa2),(7,sa2),(8,sa2),(33,sa11)],[(2,sa72),(3,sa72),(4,sa72),(17,sa3)]⟩
def jV.c7r:Ck:=Ck.of (T:=Bool) jV.c7s (fun ρ X Z=>jV.c7 X.2.2.2.1 (q4 X).1 (q8 X).1 Z) (fun ρ X V Z=>Z 0 (Shape.inj jV.c7x0 (X.1,X.2.1,X.2.2.1,X.2.2.2.1,(q4 X).1,V,(q4 X).2)))
def jV.c11 (i:Int)(c:Int)(j:Int)(a1:List (Int))(b1:List (Int))(Z:Int→Option ρ):Option ρ:=
  bnd (idx a1 i) fun y=>
  bnd (idx b1 j) fun y1=>
  Z (i64.wrap (c+i64.wrap (y*y1)))
def jV.c11r:Ck:=Ck.of (T:=Int) jV.c7s (fun ρ X Z=>jV.c11 X.2.2.1 X.2.2.2.1 (q4 X).1 (q4 X).2.2.1 (q8 X).1 Z) (fun ρ X V Z=>Z 0 (Shape.inj jV.c7s (X.1,X.2.1,X.2.2.1,V,(q4 X))))
def jV.cr_ (i:Int)(c:Int)(j:Int)(a1:List (Int))(b1:List (Int))(Z:Int→Option ρ):Option ρ:=
  br (decide (j<(b1.length:Int)))
   (bnd (jV.c11 i c j a1 b1 some) fun y=>
    Z y)
   (Z c)
def jV.cr_r:Ck:=Ck.of (T:=Int) jV.c7s (fun ρ X Z=>jV.cr_ X.2.2.1 X.2.2.2.1 (q4 X).1 (q4 X).2.2.1 (q8 X).1 Z) (fun ρ X V Z=>Z 0 (Shape.inj jV.c7s (X.1,X.2.1,X.2.2.1,V,(q4 X))))
def jV.cd_ (i:Int)(c:Int)(j:Int)(a1:List (Int))(b1:List (Int))(t17:List (Int))(Z:((Int)×(Int)×(List Int))⊕((Int)×(Int)×(List Int))→Option ρ):Option ρ:=
  bnd (jV.c7 c j b1 some) fun y=>
  br y
   (bnd (inR (t17.length) (i64.wrap (i+j))) fun y1=>
    bnd (idx t17 (i64.wrap (i+j))) fun y2=>
    bnd (jV.cr_ i (i64.wrap (c+y2)) j a1 b1 some) fun y3=>
    bnd (inR (t17.length) (i64.wrap (i+j))) fun y4=>
    bnd (idx t17 (i64.wrap (i+j))) fun y5=>
    Z (.inl ((i64.wrap (Int.tdiv y3 (10000:Int))),(i64.wrap (j+1)),(List.set t17 (Int.toNat (i64.wrap (i+j))) (Int.tmod y3 (10000:Int))))))
   (Z (.inr (c,j,t17)))
def jV.cd_r:Ck:=Ck.ofLoop (S:=(Int)×(Int)×(List Int)) (T:=(Int)×(Int)×(List Int)) jV.c7s (fun X=>(X.2.2.2.1,(q4 X).1,(q8 X).2.2.2.1)) (fun ρ X Q Z=>jV.cd_ X.2.2.1 Q.1 Q.2.1 (q4 X).2.2.1 (q8 X).1 Q.2.2 Z) (fun ρ X V Z=>Z 4 (Shape.inj jV.c7s (X.1,X.2.1,X.2.2.1,V.1,V.2.1,(q4 X).2.1,(q4 X).2.2.1,(q4 X).2.2.2.1,(q8 X).1,(q8 X).2.1,(q8 X).2.2.1,V.2.2,())))
def jV.ca_ (i:Int)(a1:List (Int))(b1:List (Int))(t17:List (Int))(Z:((Int)×(List Int))⊕((Int)×(List Int))→Option ρ):Option ρ:=
  br (decide (i<(a1.length:Int)))
   (bnd (iter (fun s↦jV.cd_ i s.1 s.2.1 a1 b1 s.2.2 some) ((0:Int),(0:Int),t17)) fun y=>
    Z (.inl ((i64.wrap (i+1)),y.2.2)))
   (Z (.inr (i,t17)))
def jV.ca_s:Shape:=⟨[(0,sa75),(1,sa75),(2,sa6),(3,sa7),(4,sa20),(5,sa76),(6,sa2)],[(2,sa72),(3,sa72),(4,sa72),(17,sa3)]⟩
def jV.ca_r:Ck:=Ck.ofLoop (S:=(Int)×(List Int)) (T:=(Int)×(List Int)) jV.ca_s (fun X=>(X.2.2.1,(q8 X).2.1)) (fun ρ X Q Z=>jV.ca_ Q.1 (q4 X).1 (q4 X).2.2.1 Q.2 Z) (fun ρ X V Z=>Z 2 (Shape.inj jV.ca_s (X.1,X.2.1,V.1,X.2.2.2.1,(q4 X).1,(q4 X).2.1,(q4 X).2.2.1,(q4 X).2.2.2.1,(q8 X).1,V.2,())))
def jV (a:Bool×(List Int)) (b:Bool×(List Int)):Option (Bool×(List Int)):=
  bnd (okIf (decide ((0:Int)≤i64.wrap (i64.wrap ((↑(List.length a.2):Int)+(↑(List.length b.2):Int))+1))&&decide (i64.wrap (i64.wrap ((↑(List.length a.2):Int)+(↑(List.length b.2):Int))+1)≤i64.wrap (i64.wrap ((↑(List.length a.2):Int)+(↑(List.length b.2):Int))+1))&&decide (i64.wrap (i64.wrap ((↑(List.length a.2):Int)+(↑(List.length b.2):Int))+1)*(↑(8:Nat):Int)≤140737488355328)&&decide (i64.wrap (i64.wrap ((↑(List.length a.2):Int)+(↑(List.length b.2):Int))+1)≤140737488355328))) fun y=>
  bnd (iter (fun s↦jV.ca_ s.1 a.2 b.2 s.2 some) ((0:Int),List.replicate (Int.toNat (i64.wrap (i64.wrap ((↑(List.length a.2):Int)+(↑(List.length b.2):Int))+1))) (0:Int))) fun y1=>
  bnd (Jm (!a.1==b.1) y1.2) fun y2=>
  some (y2.1,y2.2)
def jV.ce:Go.Ql.Callee:=⟨[(.st (.pair .bool (.sl (.int .i64)))),(.st (.pair .bool (.sl (.int .i64))))],[(.st (.pair .bool (.sl (.int .i64))))],fun X=>jV X.1 X.2⟩
def jV.G:Env:=⟨78,tab,[(74,Jm.ce)],[0,1,2,3,4,5,6,7,8,22,33,48],[17],[(11,[⟨[],[],[50,51,52,53,54,55,56,57,58,59,60],[]⟩,⟨[],[],[49,52,55,56,57,58,59],[]⟩,⟨[1],[],[49,52,55,56,57,58,59],[]⟩,⟨[],[],[49,50,51,55,56,57,58,59],[]⟩,⟨[2,1,3],[],[49,55,56,57,58,59],[]⟩,⟨[4,2,1,3],[],[49,55,56,57,58,59],[]⟩,⟨[],[],[49,50,51,52,53,54,57],[]⟩,⟨[6],[],[49,50,51,52,53,54,57],[]⟩,⟨[],[],[49,50,51,52,53,54,55,56],[]⟩,⟨[7,6,8],[],[49,50,51,52,53,54],[]⟩,⟨[9,7,6,8],[],[49,50,51,52,53,54],[]⟩,⟨[5,4,2,1,3,10,9,7,6,8],[],[49],[]⟩,⟨[0,11,5,4,2,1,3,10,9,7,6,8],[],[],[]⟩,⟨[12,0,11,5,4,2,1,3,10,9,7,6,8],[],[],[]⟩])],[(100003,jV.ca_r),(100007,jV.cd_r),(240965,jV.cr_r),(11,jV.c11r),(7,jV.c7r)],[],jI,[]⟩
theorem jV.p0:PcA jV.G Tryz.f84 0:=
  Jf (s:=jV.ca_r) (by kernel_rfl) (by kernel_rfl) (jW (sh:=jV.ca_s) (I:=fun X Q=>(X.1,X.2.1,Q.1,X.2.2.2.1,(q4 X).1,(q4 X).2.1,(q4 X).2.2.1,(q4 X).2.2.2.1,(q8 X).1,Q.2,())) (fun X=>rfl) (fun ρ X Q Z=>(jg (jb fun _=>jc) jc)) (fun ρ X t k=>(by kernel_rfl)) (fun X s=>by kernel_rfl))
theorem jV.p1:PcA jV.G Tryz.f84 1:=
  Jf (s:=jV.cd_r) (by kernel_rfl) (by kernel_rfl) (jW (sh:=jV.c7s) (I:=fun X Q=>(X.1,X.2.1,X.2.2.1,Q.1,Q.2.1,(q4 X).2.1,(q4 X).2.2.1,(q4 X).2.2.2.1,(q8 X).1,(q8 X).2.1,(q8 X).2.2.1,Q.2.2,())) (fun X=>rfl) (fun ρ X Q Z=>(jb fun _=>(jg (jb fun _=>(jb fun _=>(jb fun _=>(jb fun _=>(jb fun _=>jc))))) jc))) (fun ρ X t k=>(by kernel_rfl)) (fun X s=>by kernel_rfl))
theorem jV.p2:PcA jV.G Tryz.f84 2:=
  js (s:=jV.c7r) (by kernel_rfl) (by kernel_rfl) (jp (sh:=jV.c7s) (fun ρ X Z=>(jg jc jc)) (fun ρ X t k=>(by kernel_rfl)) (fun X=>by kernel_rfl))
theorem jV.p3:PcA jV.G Tryz.f84 3:=
  JR (s:=jV.cr_r) (by kernel_rfl) (by kernel_rfl) (jp (sh:=jV.c7s) (fun ρ X Z=>(jg (jb fun _=>jc) jc)) (fun ρ X t k=>(by kernel_rfl)) (fun X=>by kernel_rfl))
theorem jV.p4:PcA jV.G Tryz.f84 4:=
  js (s:=jV.c11r) (by kernel_rfl) (by kernel_rfl) (jp (sh:=jV.c7s) (fun ρ X Z=>(jb fun _=>(jb fun _=>jc))) (fun ρ X t k=>(by kernel_rfl)) (fun X=>by kernel_rfl))
theorem jV.ok:CalleeOk Tryz.prog 84 jV.ce:=fn_ok (G:=jV.G) jX mixed Tryz.func84 ⟨(jn Jm.ok jK),jE,jq,jD⟩ (m:=5) (by kernel_rfl) ⟨⟨⟨⟨⟨trivial,jV.p0⟩,jV.p1⟩,jV.p2⟩,jV.p3⟩,jV.p4⟩ (by kernel_rfl) (fun _=>by kernel_rfl)
def JD.cq_ (n:Int)(out0:Bool)(out1:List (Int))(t40:Bool)(t41:List (Int))(Z:Bool×(List Int)→Option ρ):Option ρ:=
  br (Int.tmod n (2:Int)==1)
   (bnd (jV (out0,out1) (t40,t41)) fun y=>
    Z (y.1,y.2))
   (Z (out0,out1))
def JD.cq_s:Shape:=⟨[(0,sa2),(2,sa6),(3,sa7),(4,sa20)],[(2,sa72),(3,sa72),(4,sa72)]⟩
def JD.cq_r:Ck:=Ck.of (T:=Bool×(List Int)) JD.cq_s (fun ρ X Z=>JD.cq_ X.1 X.2.2.2.1 (q4 X).1 (q4 X).2.1 (q4 X).2.2.1 Z) (fun ρ X V Z=>Z 0 (Shape.inj JD.cq_s (X.1,X.2.1,X.2.2.1,V.1,V.2,(q4 X).2)))
def JD.ca_ (n:Int)(out0:Bool)(out1:List (Int))(t40:Bool)(t41:List (Int))(Z:((Int)×Bool×(List Int)×Bool×(List Int))⊕((Int)×Bool×(List Int)×Bool×(List Int))→Option ρ):Option ρ:=
  br (decide (n>0))
   (bnd (JD.cq_ n out0 out1 t40 t41 some) fun y=>
    bnd (jV (t40,t41) (t40,t41)) fun y1=>
    Z (.inl ((i64.wrap (Int.tdiv n (2:Int))),y.1,y.2,y1.1,y1.2)))
   (Z (.inr (n,out0,out1,t40,t41)))
def JD.ca_r:Ck:=Ck.ofLoop (S:=(Int)×Bool×(List Int)×Bool×(List Int)) (T:=(Int)×Bool×(List Int)×Bool×(List Int)) JD.cq_s (fun X=>(X.1,X.2.2.2.1,(q4 X).1,(q4 X).2.1,(q4 X).2.2.1)) (fun ρ X Q Z=>JD.ca_ Q.1 Q.2.1 Q.2.2.1 Q.2.2.2.1 Q.2.2.2.2 Z) (fun ρ X V Z=>Z 2 (Shape.inj JD.cq_s (V.1,X.2.1,X.2.2.1,V.2.1,V.2.2.1,V.2.2.2.1,V.2.2.2.2,())))
def JD (n:Int):Option (Bool×(List Int)):=
  bnd (JQ (1:Int)) fun y=>
  bnd (JQ (2:Int)) fun y1=>
  bnd (iter (fun s↦JD.ca_ s.1 s.2.1 s.2.2.1 s.2.2.2.1 s.2.2.2.2 some) (n,y.1,y.2,y1.1,y1.2)) fun y2=>
  some (y2.2.1,y2.2.2.1)
def JD.ce:Go.Ql.Callee:=⟨[(.int .i64)],[(.st (.pair .bool (.sl (.int .i64))))],fun X=>JD X⟩
def JD.G:Env:=⟨21,tab,[(41,JQ.ce),(84,jV.ce)],[0,2,3,4,8,11],[],[],[(100003,JD.ca_r),(216389,JD.cq_r)],[],jI,[]⟩
theorem JD.p0:PcA JD.G Tryz.f104 0:=
  Jf (s:=JD.ca_r) (by kernel_rfl) (by kernel_rfl) (jW (sh:=JD.cq_s) (I:=fun X Q=>(Q.1,X.2.1,X.2.2.1,Q.2.1,Q.2.2.1,Q.2.2.2.1,Q.2.2.2.2,())) (fun X=>rfl) (fun ρ X Q Z=>(jg (jb fun _=>(jb fun _=>jc)) jc)) (fun ρ X t k=>(by kernel_rfl)) (fun X s=>by kernel_rfl))
theorem JD.p1:PcA JD.G Tryz.f104 1:=
  JR (s:=JD.cq_r) (by kernel_rfl) (by kernel_rfl) (jp (sh:=JD.cq_s) (fun ρ X Z=>(jg (jb fun _=>jc) jc)) (fun ρ X t k=>(by kernel_rfl)) (fun X=>by kernel_rfl))
theorem JD.ok:CalleeOk Tryz.prog 104 JD.ce:=fn_ok (G:=JD.G) jX mixed Tryz.func104 ⟨(jn JQ.ok (jn jV.ok jK)),jE,jq,jD⟩ (m:=2) (by kernel_rfl) ⟨⟨trivial,JD.p0⟩,JD.p1⟩ (by kernel_rfl) (fun _=>by kernel_rfl)
abbrev sa77:SO:=.arr 0 false 48 (.st (.pair (.ar 8 (.st (.pair .bool (.sl (.int .i64))))) (.int .i64)))
def JF.c6 (i:Int)(a_1:List YN)(t50:Bool)(t51:List (Int))(Z:List YN→Option ρ):Option ρ:=
  bnd (inR (a_1.length) (0:Int)) fun y=>
  bnd (okIf (decide ((0:Ty.den (Ty.int IntKind.i64))≤i)&&decide (i<(↑(8:Nat):Int)))) fun y1=>
  bnd (idx a_1 (0:Int)) fun y2=>
  bnd (idx y2.1 i) fun y3=>
  bnd (jV y3 (t50,t51)) fun y4=>
  bnd (inR (a_1.length) (0:Int)) fun y5=>
  bnd (okIf (decide ((0:Ty.den (Ty.int IntKind.i64))≤i)&&decide (i<(↑(8:Nat):Int)))) fun y6=>
  bnd (idx a_1 (0:Int)) fun y7=>
  bnd (idx y7.1 i) fun y8=>
  Z (List.set a_1 (0:Nat) (List.set y7.1 (Int.toNat i) y4,y7.2))
def JF.c6s:Shape:=⟨[(0,sa73),(1,sa2),(2,sa54),(4,sa25),(5,sa34),(6,sa2)],[(2,sa77),(4,sa77),(5,sa72)]⟩
def JF.c6r:Ck:=Ck.of (T:=List YN) JF.c6s (fun ρ X Z=>JF.c6 X.2.2.1 X.2.2.2.1 (q4 X).2.1 (q4 X).2.2.1 Z) (fun ρ X V Z=>Z 0 (Shape.inj JF.c6s (X.1,X.2.1,X.2.2.1,V,(q4 X))))
def JF.cb_ (i:Int)(a_1:List YN)(t50:Bool)(t51:List (Int))(Z:((Int)×(List YN))⊕((Int)×(List YN))→Option ρ):Option ρ:=
  br (decide (i<8))
   (bnd (JF.c6 i a_1 t50 t51 some) fun y=>
    Z (.inl ((i64.wrap (i+1)),y)))
   (Z (.inr (i,a_1)))
def JF.cb_r:Ck:=Ck.ofLoop (S:=(Int)×(List YN)) (T:=(Int)×(List YN)) JF.c6s (fun X=>(X.2.2.1,X.2.2.2.1)) (fun ρ X Q Z=>JF.cb_ Q.1 Q.2 (q4 X).2.1 (q4 X).2.2.1 Z) (fun ρ X V Z=>Z 2 (Shape.inj JF.c6s (X.1,X.2.1,V.1,V.2,(q4 X))))
def JF.cG_ (e:Int)(a_1:List YN)(Z:List YN→Option ρ):Option ρ:=
  bnd (inR (a_1.length) (0:Int)) fun y=>
  bnd (idx a_1 (0:Int)) fun y1=>
  br (decide (y1.2<e))
   (bnd (inR (a_1.length) (0:Int)) fun y2=>
    bnd (idx a_1 (0:Int)) fun y3=>
    bnd (JD (i64.wrap (e-y3.2))) fun y4=>
    bnd (iter (fun s↦JF.cb_ s.1 s.2 y4.1 y4.2 some) ((0:Int),a_1)) fun y5=>
    bnd (inR (List.length y5.2) (0:Int)) fun y6=>
    bnd (idx y5.2 (0:Int)) fun y7=>
    Z (List.set y5.2 (0:Nat) (y7.1,e)))
   (Z a_1)
def JF.cG_s:Shape:=⟨[(0,sa73),(1,sa2),(2,sa54),(4,sa25)],[(2,sa77),(4,sa77)]⟩
def JF.cG_r:Ck:=Ck.of (T:=List YN) JF.cG_s (fun ρ X Z=>JF.cG_ X.2.1 X.2.2.1 Z) (fun ρ X V Z=>Z 0 (Shape.inj JF.cG_s (X.1,X.2.1,V,X.2.2.2)))
def JF (a:YN) (e:Int):Option YN:=
  bnd (JF.cG_ e [a] some) fun y=>
  bnd (idx y (0:Int)) fun y1=>
  some y1
def JF.ce:Go.Ql.Callee:=⟨[(.st (.pair (.ar 8 (.st (.pair .bool (.sl (.int .i64))))) (.int .i64))),(.int .i64)],[(.st (.pair (.ar 8 (.st (.pair .bool (.sl (.int .i64))))) (.int .i64)))],fun X=>JF X.1 X.2⟩
def JF.G:Env:=⟨32,tab,[(104,JD.ce),(84,jV.ce)],[0,1,2,4,5,6,10,17],[2,4],[(6,[⟨[],[],[21,22,23,24,25,26,27],[]⟩,⟨[],[],[20,22,25,27],[]⟩,⟨[],[],[20,21,25,27],[]⟩,⟨[2,1],[],[20,25,27],[]⟩,⟨[3,2,1],[],[20,25,27],[]⟩,⟨[],[],[20,21,22,23,24,27],[]⟩,⟨[4,3,2,1,5],[],[20,27],[]⟩,⟨[],[],[20,21,22,23,24,25,26],[]⟩,⟨[7,0,1,2,3,4,5,6],[],[],[]⟩,⟨[8,7,0,1,2,3,4,5,6],[2],[],[]⟩])],[(204118,JF.cG_r),(100004,JF.cb_r),(6,JF.c6r)],[],jI,[]⟩
theorem JF.p0:PcA JF.G Tryz.f75 0:=
  JR (s:=JF.cG_r) (by kernel_rfl) (by kernel_rfl) (jp (sh:=JF.cG_s) (fun ρ X Z=>(jb fun _=>(jb fun _=>(jg (jb fun _=>(jb fun _=>(jb fun _=>(jb fun _=>(jb fun _=>(jb fun _=>jc)))))) jc)))) (fun ρ X t k=>(by kernel_rfl)) (fun X=>by kernel_rfl))
theorem JF.p1:PcA JF.G Tryz.f75 1:=
  Jf (s:=JF.cb_r) (by kernel_rfl) (by kernel_rfl) (jW (sh:=JF.c6s) (I:=fun X Q=>(X.1,X.2.1,Q.1,Q.2,(q4 X))) (fun X=>rfl) (fun ρ X Q Z=>(jg (jb fun _=>jc) jc)) (fun ρ X t k=>(by kernel_rfl)) (fun X s=>by kernel_rfl))
theorem JF.p2:PcA JF.G Tryz.f75 2:=
  js (s:=JF.c6r) (by kernel_rfl) (by kernel_rfl) (jp (sh:=JF.c6s) (fun ρ X Z=>(jb fun _=>(jb fun _=>(jb fun _=>(jb fun _=>(jb fun _=>(jb fun _=>(jb fun _=>(jb fun _=>(jb fun _=>jc)))))))))) (fun ρ X t k=>(by kernel_rfl)) (fun X=>by kernel_rfl))
theorem JF.ok:CalleeOk Tryz.prog 75 JF.ce:=fn_ok (G:=JF.G) jX mixed Tryz.func75 ⟨(jn JD.ok (jn jV.ok jK)),jE,jq,jD⟩ (m:=3) (by kernel_rfl) ⟨⟨⟨trivial,JF.p0⟩,JF.p1⟩,JF.p2⟩ (by kernel_rfl) (fun _=>by kernel_rfl)
abbrev sa78:SD:=.one (.own 5 0)
def Jg.c4 (a:List (Int))(b:List (Int))(c:Int)(i:Int)(Z:Bool→Option ρ):Option ρ:=
  br (decide (i<(a.length:Int)))
   (Z true)
   (br (decide (i<(b.length:Int)))
     (Z true)
     (Z (decide (c>0))))
def Jg.c4s:Shape:=⟨[(0,sa0),(1,sa0),(4,sa0),(5,sa78),(6,sa2),(7,sa2)],[(5,sa3)]⟩
def Jg.c4x0:Shape:=⟨[(0,sa0),(1,sa0),(4,sa0),(5,sa78),(6,sa2),(7,sa2),(21,sa11)],[(5,sa3)]⟩
def Jg.c4r:Ck:=Ck.of (T:=Bool) Jg.c4s (fun ρ X Z=>Jg.c4 X.1 X.2.1 X.2.2.2.1 (q4 X).1 Z) (fun ρ X V Z=>Z 0 (Shape.inj Jg.c4x0 (X.1,X.2.1,X.2.2.1,X.2.2.2.1,(q4 X).1,V,(q4 X).2)))
def Jg.cs_ (a:List (Int))(c:Int)(i:Int)(Z:Int→Option ρ):Option ρ:=
  br (decide (i<(a.length:Int)))
   (bnd (idx a i) fun y=>
    Z (i64.wrap (c+y)))
   (Z c)
def Jg.cs_r:Ck:=Ck.of (T:=Int) Jg.c4s (fun ρ X Z=>Jg.cs_ X.1 X.2.2.2.1 (q4 X).1 Z) (fun ρ X V Z=>Z 0 (Shape.inj Jg.c4s (X.1,X.2.1,X.2.2.1,V,(q4 X))))
def Jg.cI_ (b:List (Int))(c:Int)(i:Int)(Z:Int→Option ρ):Option ρ:=
  br (decide (i<(b.length:Int)))
   (bnd (idx b i) fun y=>
    Z (i64.wrap (c+y)))
   (Z c)
def Jg.cI_r:Ck:=Ck.of (T:=Int) Jg.c4s (fun ρ X Z=>Jg.cI_ X.2.1 X.2.2.2.1 (q4 X).1 Z) (fun ρ X V Z=>Z 0 (Shape.inj Jg.c4s (X.1,X.2.1,X.2.2.1,V,(q4 X))))
def Jg.cb_ (a:List (Int))(b:List (Int))(c:Int)(i:Int)(out:List (Int))(Z:((Int)×(Int)×(List Int))⊕((Int)×(Int)×(List Int))→Option ρ):Option ρ:=
  bnd (Jg.c4 a b c i some) fun y=>
  br y
   (bnd (Jg.cs_ a c i some) fun y1=>
    bnd (Jg.cI_ b y1 i some) fun y2=>
    bnd (okIf (decide ((out.length+1)*8≤140737488355328)&&decide (out.length+1≤140737488355328))) fun y3=>
    Z (.inl ((i64.wrap (Int.tdiv y2 (10000:Int))),(i64.wrap (i+1)),(out++[Int.tmod y2 (10000:Int)]))))
   (Z (.inr (c,i,out)))
def Jg.cb_r:Ck:=Ck.ofLoop (S:=(Int)×(Int)×(List Int)) (T:=(Int)×(Int)×(List Int)) Jg.c4s (fun X=>(X.2.2.2.1,(q4 X).1,(q4 X).2.1)) (fun ρ X Q Z=>Jg.cb_ X.1 X.2.1 Q.1 Q.2.1 Q.2.2 Z) (fun ρ X V Z=>Z 2 (Shape.inj Jg.c4s (X.1,X.2.1,X.2.2.1,V.1,V.2.1,V.2.2,())))
def Jg (a:List (Int)) (b:List (Int)):Option (List Int):=
  bnd (iter (fun s↦Jg.cb_ a b s.1 s.2.1 s.2.2 some) ((0:Int),(0:Int),[])) fun y=>
  some y.2.2
def Jg.ce:Go.Ql.Callee:=⟨[(.sl (.int .i64)),(.sl (.int .i64))],[(.sl (.int .i64))],fun X=>Jg X.1 X.2⟩
def Jg.G:Env:=⟨52,tab,[],[0,1,4,5,6,7,21,27,37],[5],[],[(100004,Jg.cb_r),(232773,Jg.cI_r),(224581,Jg.cs_r),(4,Jg.c4r)],[],jI,[]⟩
theorem Jg.p0:PcA Jg.G Tryz.f105 0:=
  Jf (s:=Jg.cb_r) (by kernel_rfl) (by kernel_rfl) (jW (sh:=Jg.c4s) (I:=fun X Q=>(X.1,X.2.1,X.2.2.1,Q.1,Q.2.1,Q.2.2,())) (fun X=>rfl) (fun ρ X Q Z=>(jb fun _=>(jg (jb fun _=>(jb fun _=>(jb fun _=>jc))) jc))) (fun ρ X t k=>(by kernel_rfl)) (fun X s=>by kernel_rfl))
theorem Jg.p1:PcA Jg.G Tryz.f105 1:=
  js (s:=Jg.c4r) (by kernel_rfl) (by kernel_rfl) (jp (sh:=Jg.c4s) (fun ρ X Z=>(jg jc (jg jc jc))) (fun ρ X t k=>(by kernel_rfl)) (fun X=>by kernel_rfl))
theorem Jg.p2:PcA Jg.G Tryz.f105 2:=
  JR (s:=Jg.cs_r) (by kernel_rfl) (by kernel_rfl) (jp (sh:=Jg.c4s) (fun ρ X Z=>(jg (jb fun _=>jc) jc)) (fun ρ X t k=>(by kernel_rfl)) (fun X=>by kernel_rfl))
theorem Jg.p3:PcA Jg.G Tryz.f105 3:=
  JR (s:=Jg.cI_r) (by kernel_rfl) (by kernel_rfl) (jp (sh:=Jg.c4s) (fun ρ X Z=>(jg (jb fun _=>jc) jc)) (fun ρ X t k=>(by kernel_rfl)) (fun X=>by kernel_rfl))
theorem Jg.ok:CalleeOk Tryz.prog 105 Jg.ce:=fn_ok (G:=Jg.G) jX mixed Tryz.func105 ⟨jK,jE,jq,jD⟩ (m:=4) (by kernel_rfl) ⟨⟨⟨⟨trivial,Jg.p0⟩,Jg.p1⟩,Jg.p2⟩,Jg.p3⟩ (by kernel_rfl) (fun _=>by kernel_rfl)
def Jt.c8 (a:List (Int))(b:List (Int))(i:Int)(Z:Bool→Option ρ):Option ρ:=
  bnd (idx a i) fun y=>
  bnd (idx b i) fun y1=>
  Z (decide (y<y1))
def Jt.c8s:Shape:=⟨[(0,sa0),(1,sa0),(4,sa2),(5,sa2)],[]⟩
def Jt.c8x0:Shape:=⟨[(0,sa0),(1,sa0),(4,sa2),(5,sa2),(31,sa11)],[]⟩
def Jt.c8r:Ck:=Ck.of (T:=Bool) Jt.c8s (fun ρ X Z=>Jt.c8 X.1 X.2.1 X.2.2.2.1 Z) (fun ρ X V Z=>Z 0 (Shape.inj Jt.c8x0 (X.1,X.2.1,X.2.2.1,X.2.2.2.1,V,())))
def Jt.c10 (a:List (Int))(b:List (Int))(i:Int)(Z:Bool→Option ρ):Option ρ:=
  bnd (idx a i) fun y=>
  bnd (idx b i) fun y1=>
  Z (decide (y>y1))
def Jt.c10x0:Shape:=⟨[(0,sa0),(1,sa0),(4,sa2),(5,sa2),(40,sa11)],[]⟩
def Jt.c10r:Ck:=Ck.of (T:=Bool) Jt.c8s (fun ρ X Z=>Jt.c10 X.1 X.2.1 X.2.2.2.1 Z) (fun ρ X V Z=>Z 0 (Shape.inj Jt.c10x0 (X.1,X.2.1,X.2.2.1,X.2.2.2.1,V,())))
def Jt.ci_ (a:List (Int))(b:List (Int))(i:Int)(Z:(Int)⊕(((Int)×(Int))⊕(Int))→Option ρ):Option ρ:=
  br (decide (i≥0))
   (bnd (Jt.c8 a b i some) fun y=>
    br y
     (Z (.inr (.inl ((-1:Int),i))))
     (bnd (Jt.c10 a b i some) fun y1=>
      br y1
       (Z (.inr (.inl ((1:Int),i))))
       (Z (.inl (i64.wrap (i-1))))))
   (Z (.inr (.inr i)))
def Jt.ci_r:Ck:=Ck.ofLoop (S:=Int) (T:=((Int)×(Int))⊕(Int)) Jt.c8s (fun X=>X.2.2.2.1) (fun ρ X Q Z=>Jt.ci_ X.1 X.2.1 Q Z) (fun ρ X V Z=>sel V (fun V=>Z 1 (Shape.inj Jt.c8s (X.1,X.2.1,V.1,V.2,()))) (fun V=>Z 2 (Shape.inj Jt.c8s (X.1,X.2.1,X.2.2.1,V,()))))
def Jt (a:List (Int)) (b:List (Int)):Option (Int):=
  br ((a.length:Int) !=(b.length:Int))
   (br (decide ((a.length:Int)<(b.length:Int)))
     (some (-1:Int))
     (some (1:Int)))
   (bnd (iter (fun s↦Jt.ci_ a b s some) (i64.wrap ((a.length:Int)-1))) fun y=>
    sel y
     (fun u=>some u.1)
     (fun v=>some (0:Int)))
def Jt.ce:Go.Ql.Callee:=⟨[(.sl (.int .i64)),(.sl (.int .i64))],[(.int .i64)],fun X=>Jt X.1 X.2⟩
def Jt.G:Env:=⟨41,tab,[],[0,1,4,5,10,15,20,31,40],[],[(10,[⟨[],[],[33,36,37,38,39],[]⟩,⟨[],[],[32,36,37,38,39],[]⟩,⟨[0,1],[],[36,37,38,39],[]⟩,⟨[2,0,1],[],[36,37,38,39],[]⟩,⟨[],[],[32,33,34,35,37],[]⟩,⟨[],[],[32,33,34,35,36],[]⟩,⟨[4,5],[],[32,33,34,35],[]⟩,⟨[6,4,5],[],[32,33,34,35],[]⟩,⟨[3,2,0,1,7,6,4,5],[],[],[]⟩]),
  (8,[⟨[],[],[24,27,28,29,30],[]⟩,⟨[],[],[23,27,28,29,30],[]⟩,⟨[0,1],[],[27,28,29,30],[]⟩,⟨[2,0,1],[],[27,28,29,30],[]⟩,⟨[],[],[23,24,25,26,28],[]⟩,⟨[],[],[23,24,25,26,27],[]⟩,⟨[4,5],[],[23,24,25,26],[]⟩,⟨[6,4,5],[],[23,24,25,26],[]⟩,⟨[3,2,0,1,7,6,4,5],[],[],[]⟩])],[(100006,Jt.ci_r),(10,Jt.c10r),(8,Jt.c8r)],[],jI,[]⟩
theorem Jt.p0:PcA Jt.G Tryz.f106 0:=
  Jf (s:=Jt.ci_r) (by kernel_rfl) (by kernel_rfl) (jW (sh:=Jt.c8s) (I:=fun X Q=>(X.1,X.2.1,X.2.2.1,Q,())) (fun X=>rfl) (fun ρ X Q Z=>(jg (jb fun _=>(jg jc (jb fun _=>(jg jc jc)))) jc)) (fun ρ X t k=>(kr (fun _=>(by kernel_rfl)) (fun _=>(by kernel_rfl)))) (fun X s=>by kernel_rfl))
theorem Jt.p1:PcA Jt.G Tryz.f106 1:=
  js (s:=Jt.c8r) (by kernel_rfl) (by kernel_rfl) (jp (sh:=Jt.c8s) (fun ρ X Z=>(jb fun _=>(jb fun _=>jc))) (fun ρ X t k=>(by kernel_rfl)) (fun X=>by kernel_rfl))
theorem Jt.p2:PcA Jt.G Tryz.f106 2:=
  js (s:=Jt.c10r) (by kernel_rfl) (by kernel_rfl) (jp (sh:=Jt.c8s) (fun ρ X Z=>(jb fun _=>(jb fun _=>jc))) (fun ρ X t k=>(by kernel_rfl)) (fun X=>by kernel_rfl))
theorem Jt.ok:CalleeOk Tryz.prog 106 Jt.ce:=fn_ok (G:=Jt.G) jX mixed Tryz.func106 ⟨jK,jE,jq,jD⟩ (m:=3) (by kernel_rfl) ⟨⟨⟨trivial,Jt.p0⟩,Jt.p1⟩,Jt.p2⟩ (by kernel_rfl) (fun _=>by kernel_rfl)
def Jw.cl_ (b:List (Int))(i:Int)(x:Int)(Z:Int→Option ρ):Option ρ:=
  br (decide (i<(b.length:Int)))
   (bnd (idx b i) fun y=>
    Z (i64.wrap (x-y)))
   (Z x)
def Jw.cl_s:Shape:=⟨[(0,sa0),(1,sa0),(4,sa0),(5,sa78),(6,sa2),(7,sa2),(8,sa2)],[(5,sa3)]⟩
def Jw.cl_r:Ck:=Ck.of (T:=Int) Jw.cl_s (fun ρ X Z=>Jw.cl_ X.2.1 (q4 X).1 (q4 X).2.1 Z) (fun ρ X V Z=>Z 0 (Shape.inj Jw.cl_s (X.1,X.2.1,X.2.2.1,X.2.2.2.1,(q4 X).1,V,(q4 X).2.2)))
def Jw.cJ_ (c:Int)(x:Int)(Z:(Int)×(Int)→Option ρ):Option ρ:=
  br (decide (x<0))
   (Z ((1:Int),(i64.wrap (x+10000))))
   (Z (c,x))
def Jw.cJ_r:Ck:=Ck.of (T:=(Int)×(Int)) Jw.cl_s (fun ρ X Z=>Jw.cJ_ X.2.2.2.1 (q4 X).2.1 Z) (fun ρ X V Z=>Z 0 (Shape.inj Jw.cl_s (X.1,X.2.1,X.2.2.1,V.1,(q4 X).1,V.2,(q4 X).2.2)))
def Jw.cb_ (a:List (Int))(b:List (Int))(c:Int)(i:Int)(out:List (Int))(Z:((Int)×(Int)×(List Int))⊕((Int)×(Int)×(List Int))→Option ρ):Option ρ:=
  br (decide (i<(a.length:Int)))
   (bnd (idx a i) fun y=>
    bnd (Jw.cl_ b i (i64.wrap (y-c)) some) fun y1=>
    bnd (Jw.cJ_ (0:Int) y1 some) fun y2=>
    bnd (okIf (decide ((out.length+1)*8≤140737488355328)&&decide (out.length+1≤140737488355328))) fun y3=>
    Z (.inl (y2.1,(i64.wrap (i+1)),(out++[y2.2]))))
   (Z (.inr (c,i,out)))
def Jw.cb_s:Shape:=⟨[(0,sa0),(1,sa0),(4,sa0),(5,sa78),(6,sa2),(7,sa2)],[(5,sa3)]⟩
def Jw.cb_r:Ck:=Ck.ofLoop (S:=(Int)×(Int)×(List Int)) (T:=(Int)×(Int)×(List Int)) Jw.cb_s (fun X=>(X.2.2.2.1,(q4 X).1,(q4 X).2.1)) (fun ρ X Q Z=>Jw.cb_ X.1 X.2.1 Q.1 Q.2.1 Q.2.2 Z) (fun ρ X V Z=>Z 2 (Shape.inj Jw.cb_s (X.1,X.2.1,X.2.2.1,V.1,V.2.1,V.2.2,())))
def Jw (a:List (Int)) (b:List (Int)):Option (List Int):=
  bnd (iter (fun s↦Jw.cb_ a b s.1 s.2.1 s.2.2 some) ((0:Int),(0:Int),[])) fun y=>
  some y.2.2
def Jw.ce:Go.Ql.Callee:=⟨[(.sl (.int .i64)),(.sl (.int .i64))],[(.sl (.int .i64))],fun X=>Jw X.1 X.2⟩
def Jw.G:Env:=⟨40,tab,[],[0,1,4,5,6,7,8,12,24,32],[5],[],[(100004,Jw.cb_r),(240967,Jw.cJ_r),(228677,Jw.cl_r)],[],jI,[]⟩
theorem Jw.p0:PcA Jw.G Tryz.f107 0:=
  Jf (s:=Jw.cb_r) (by kernel_rfl) (by kernel_rfl) (jW (sh:=Jw.cb_s) (I:=fun X Q=>(X.1,X.2.1,X.2.2.1,Q.1,Q.2.1,Q.2.2,())) (fun X=>rfl) (fun ρ X Q Z=>(jg (jb fun _=>(jb fun _=>(jb fun _=>(jb fun _=>jc)))) jc)) (fun ρ X t k=>(by kernel_rfl)) (fun X s=>by kernel_rfl))
theorem Jw.p1:PcA Jw.G Tryz.f107 1:=
  JR (s:=Jw.cl_r) (by kernel_rfl) (by kernel_rfl) (jp (sh:=Jw.cl_s) (fun ρ X Z=>(jg (jb fun _=>jc) jc)) (fun ρ X t k=>(by kernel_rfl)) (fun X=>by kernel_rfl))
theorem Jw.p2:PcA Jw.G Tryz.f107 2:=
  JR (s:=Jw.cJ_r) (by kernel_rfl) (by kernel_rfl) (jp (sh:=Jw.cl_s) (fun ρ X Z=>(jg jc jc)) (fun ρ X t k=>(by kernel_rfl)) (fun X=>by kernel_rfl))
theorem Jw.ok:CalleeOk Tryz.prog 107 Jw.ce:=fn_ok (G:=Jw.G) jX mixed Tryz.func107 ⟨jK,jE,jq,jD⟩ (m:=3) (by kernel_rfl) ⟨⟨⟨trivial,Jw.p0⟩,Jw.p1⟩,Jw.p2⟩ (by kernel_rfl) (fun _=>by kernel_rfl)
def Jq.c6 (a0:Bool)(a1:List (Int))(b1:List (Int))(Z:Bool×(List Int)→Option ρ):Option ρ:=
  bnd (Jg a1 b1) fun y=>
  bnd (Jm a0 y) fun y1=>
  Z (y1.1,y1.2)
def Jq.c6s:Shape:=⟨[(0,sa75),(1,sa75),(2,sa6),(3,sa7),(4,sa20)],[(2,sa72),(3,sa72),(4,sa72)]⟩
def Jq.c6r:Ck:=Ck.of (T:=Bool×(List Int)) Jq.c6s (fun ρ X Z=>Jq.c6 X.2.2.1 X.2.2.2.1 (q4 X).2.1 Z) (fun ρ X V Z=>Z 0 (Shape.inj Jq.c6s (X.1,X.2.1,X.2.2.1,X.2.2.2.1,(q4 X).1,(q4 X).2.1,V.1,V.2,())))
def Jq.c8 (a0:Bool)(a1:List (Int))(b1:List (Int))(Z:Bool×(List Int)→Option ρ):Option ρ:=
  bnd (Jw a1 b1) fun y=>
  bnd (Jm a0 y) fun y1=>
  Z (y1.1,y1.2)
def Jq.c8r:Ck:=Ck.of (T:=Bool×(List Int)) Jq.c6s (fun ρ X Z=>Jq.c8 X.2.2.1 X.2.2.2.1 (q4 X).2.1 Z) (fun ρ X V Z=>Z 0 (Shape.inj Jq.c6s (X.1,X.2.1,X.2.2.1,X.2.2.2.1,(q4 X).1,(q4 X).2.1,V.1,V.2,())))
def Jq.c9 (a1:List (Int))(b0:Bool)(b1:List (Int))(Z:Bool×(List Int)→Option ρ):Option ρ:=
  bnd (Jw b1 a1) fun y=>
  bnd (Jm b0 y) fun y1=>
  Z (y1.1,y1.2)
def Jq.c9r:Ck:=Ck.of (T:=Bool×(List Int)) Jq.c6s (fun ρ X Z=>Jq.c9 X.2.2.2.1 (q4 X).1 (q4 X).2.1 Z) (fun ρ X V Z=>Z 0 (Shape.inj Jq.c6s (X.1,X.2.1,X.2.2.1,X.2.2.2.1,(q4 X).1,(q4 X).2.1,V.1,V.2,())))
def Jq (a:Bool×(List Int)) (b:Bool×(List Int)):Option (Bool×(List Int)):=
  br ((↑(List.length a.2):Int)==0)
   (some (b.1,b.2))
   (br ((↑(List.length b.2):Int)==0)
     (some (a.1,a.2))
     (br (a.1==b.1)
       (bnd (Jq.c6 a.1 a.2 b.2 some) fun y=>
        some (y.1,y.2))
       (bnd (Jt a.2 b.2) fun y1=>
        br (decide (y1≥0))
         (bnd (Jq.c8 a.1 a.2 b.2 some) fun y2=>
          some (y2.1,y2.2))
         (bnd (Jq.c9 a.2 b.1 b.2 some) fun y3=>
          some (y3.1,y3.2)))))
def Jq.ce:Go.Ql.Callee:=⟨[(.st (.pair .bool (.sl (.int .i64)))),(.st (.pair .bool (.sl (.int .i64))))],[(.st (.pair .bool (.sl (.int .i64))))],fun X=>Jq X.1 X.2⟩
def Jq.G:Env:=⟨50,tab,[(105,Jg.ce),(74,Jm.ce),(106,Jt.ce),(107,Jw.ce)],[0,1,2,3,4,8,13,19,33],[],[(9,[⟨[],[],[44,45,46,47,48],[]⟩,⟨[0],[],[44,45,46,47,48],[]⟩,⟨[],[],[42,43,46,47],[]⟩,⟨[2],[],[42,43,46,47],[]⟩,⟨[],[],[42,43,44,45],[]⟩,⟨[4],[],[42,43,44,45],[]⟩,⟨[3,2,5,4],[],[42,43],[]⟩,⟨[1,0,6,3,2,5,4],[],[],[]⟩,⟨[7,1,0,6,3,2,5,4],[4],[],[]⟩]),
  (8,[⟨[],[],[36,37,38,39,40],[]⟩,⟨[0],[],[36,37,38,39,40],[]⟩,⟨[],[],[34,35,38,39],[]⟩,⟨[2],[],[34,35,38,39],[]⟩,⟨[],[],[34,35,36,37],[]⟩,⟨[4],[],[34,35,36,37],[]⟩,⟨[3,2,5,4],[],[34,35],[]⟩,⟨[1,0,6,3,2,5,4],[],[],[]⟩,⟨[7,1,0,6,3,2,5,4],[4],[],[]⟩]),
  (6,[⟨[],[],[22,23,24,25,26],[]⟩,⟨[0],[],[22,23,24,25,26],[]⟩,⟨[],[],[20,21,24,25],[]⟩,⟨[2],[],[20,21,24,25],[]⟩,⟨[],[],[20,21,22,23],[]⟩,⟨[4],[],[20,21,22,23],[]⟩,⟨[3,2,5,4],[],[20,21],[]⟩,⟨[1,0,6,3,2,5,4],[],[],[]⟩,⟨[7,1,0,6,3,2,5,4],[4],[],[]⟩])],[(9,Jq.c9r),(8,Jq.c8r),(6,Jq.c6r)],[],jI,[]⟩
theorem Jq.p0:PcA Jq.G Tryz.f76 0:=
  js (s:=Jq.c6r) (by kernel_rfl) (by kernel_rfl) (jp (sh:=Jq.c6s) (fun ρ X Z=>(jb fun _=>(jb fun _=>jc))) (fun ρ X t k=>(by kernel_rfl)) (fun X=>by kernel_rfl))
theorem Jq.p1:PcA Jq.G Tryz.f76 1:=
  js (s:=Jq.c8r) (by kernel_rfl) (by kernel_rfl) (jp (sh:=Jq.c6s) (fun ρ X Z=>(jb fun _=>(jb fun _=>jc))) (fun ρ X t k=>(by kernel_rfl)) (fun X=>by kernel_rfl))
theorem Jq.p2:PcA Jq.G Tryz.f76 2:=
  js (s:=Jq.c9r) (by kernel_rfl) (by kernel_rfl) (jp (sh:=Jq.c6s) (fun ρ X Z=>(jb fun _=>(jb fun _=>jc))) (fun ρ X t k=>(by kernel_rfl)) (fun X=>by kernel_rfl))
theorem Jq.ok:CalleeOk Tryz.prog 76 Jq.ce:=fn_ok (G:=Jq.G) jX mixed Tryz.func76 ⟨(jn Jg.ok (jn Jm.ok (jn Jt.ok (jn Jw.ok jK)))),jE,jq,jD⟩ (m:=3) (by kernel_rfl) ⟨⟨⟨trivial,Jq.p0⟩,Jq.p1⟩,Jq.p2⟩ (by kernel_rfl) (fun _=>by kernel_rfl)
def ko.c1 (a1:List (Int))(Z:Bool→Option ρ):Option ρ:=
  br (decide ((a1.length:Int)>0))
   (bnd (idx a1 (0:Int)) fun y=>
    Z (Int.tmod y (2:Int)==1))
   (Z false)
def ko.c1s:Shape:=⟨[(0,sa75),(1,sa5),(2,sa11)],[(1,sa72)]⟩
def ko.c1r:Ck:=Ck.of (T:=Bool) ko.c1s (fun ρ X Z=>ko.c1 X.2.2.2.1 Z) (fun ρ X V Z=>Z 0 (Shape.inj ko.c1s (X.1,V,X.2.2)))
def ko (a:Bool×(List Int)):Option Bool:=
  bnd (ko.c1 a.2 some) fun y=>
  some y
def ko.ce:Go.Ql.Callee:=⟨[(.st (.pair .bool (.sl (.int .i64))))],[.bool],fun X=>ko X⟩
def ko.G:Env:=⟨15,tab,[],[0,1,2],[],[],[(1,ko.c1r)],[],jI,[]⟩
theorem ko.p0:PcA ko.G Tryz.f108 0:=
  js (s:=ko.c1r) (by kernel_rfl) (by kernel_rfl) (jp (sh:=ko.c1s) (fun ρ X Z=>(jg (jb fun _=>jc) jc)) (fun ρ X t k=>(by kernel_rfl)) (fun X=>by kernel_rfl))
theorem ko.ok:CalleeOk Tryz.prog 108 ko.ce:=fn_ok (G:=ko.G) jX mixed Tryz.func108 ⟨jK,jE,jq,jD⟩ (m:=1) (by kernel_rfl) ⟨trivial,ko.p0⟩ (by kernel_rfl) (fun _=>by kernel_rfl)
abbrev sa79:SD:=.one (.own 10 0)
def ka.cb_ (c:Int)(i:Int)(a1:List (Int))(t10:List (Int))(Z:((Int)×(Int)×(List Int))⊕((Int)×(Int)×(List Int))→Option ρ):Option ρ:=
  br (decide (i≥0))
   (bnd (idx a1 i) fun y=>
    bnd (inR (t10.length) i) fun y1=>
    bnd (idx t10 i) fun y2=>
    Z (.inl ((Int.tmod (i64.wrap (i64.wrap (c*10000)+y)) (2:Int)),(i64.wrap (i-1)),(List.set t10 (Int.toNat i) (i64.wrap (Int.tdiv (i64.wrap (i64.wrap (c*10000)+y)) (2:Int)))))))
   (Z (.inr (c,i,t10)))
def ka.cb_s:Shape:=⟨[(0,sa75),(1,sa5),(2,sa6),(3,sa11),(4,sa79),(5,sa2),(6,sa2)],[(1,sa72),(2,sa72),(10,sa3)]⟩
def ka.cb_r:Ck:=Ck.ofLoop (S:=(Int)×(Int)×(List Int)) (T:=(Int)×(Int)×(List Int)) ka.cb_s (fun X=>(X.2.2.1,X.2.2.2.1,(q8 X).1)) (fun ρ X Q Z=>ka.cb_ Q.1 Q.2.1 (q4 X).2.1 Q.2.2 Z) (fun ρ X V Z=>Z 2 (Shape.inj ka.cb_s (X.1,X.2.1,V.1,V.2.1,(q4 X).1,(q4 X).2.1,(q4 X).2.2.1,(q4 X).2.2.2.1,V.2.2,())))
def ka (a:Bool×(List Int)):Option ((Bool×(List Int))×Bool):=
  bnd (okIf (decide ((0:Int)≤(↑(List.length a.2):Int))&&decide ((↑(List.length a.2):Int)≤(↑(List.length a.2):Int))&&decide ((↑(List.length a.2):Int)*(↑(8:Nat):Int)≤140737488355328)&&decide ((↑(List.length a.2):Int)≤140737488355328))) fun y=>
  bnd (iter (fun s↦ka.cb_ s.1 s.2.1 a.2 s.2.2 some) ((0:Int),i64.wrap ((↑(List.length a.2):Int)-1),List.replicate (Int.toNat (↑(List.length a.2):Int)) (0:Int))) fun y1=>
  bnd (Jm a.1 y1.2.2) fun y2=>
  some ((y2.1,y2.2),decide (y1.1>0))
def ka.ce:Go.Ql.Callee:=⟨[(.st (.pair .bool (.sl (.int .i64))))],[(.st (.pair .bool (.sl (.int .i64)))),.bool],fun X=>ka X⟩
def ka.G:Env:=⟨40,tab,[(74,Jm.ce)],[0,1,2,3,4,5,6,16],[10],[],[(100004,ka.cb_r)],[],jI,[]⟩
theorem ka.p0:PcA ka.G Tryz.f109 0:=
  Jf (s:=ka.cb_r) (by kernel_rfl) (by kernel_rfl) (jW (sh:=ka.cb_s) (I:=fun X Q=>(X.1,X.2.1,Q.1,Q.2.1,(q4 X).1,(q4 X).2.1,(q4 X).2.2.1,(q4 X).2.2.2.1,Q.2.2,())) (fun X=>rfl) (fun ρ X Q Z=>(jg (jb fun _=>(jb fun _=>(jb fun _=>jc))) jc)) (fun ρ X t k=>(by kernel_rfl)) (fun X s=>by kernel_rfl))
theorem ka.ok:CalleeOk Tryz.prog 109 ka.ce:=fn_ok (G:=ka.G) jX mixed Tryz.func109 ⟨(jn Jm.ok jK),jE,jq,jD⟩ (m:=1) (by kernel_rfl) ⟨trivial,ka.p0⟩ (by kernel_rfl) (fun _=>by kernel_rfl)
abbrev sa80:SD:=.one (.aptr 1 0)
def jQ.ca_ (i:Int)(a_1:List YN)(t2:List YN)(Z:(Int)⊕(((Int)×(List YN))⊕(Int))→Option ρ):Option ρ:=
  br (decide (i<8))
   (bnd (inR (a_1.length) (0:Int)) fun y=>
    bnd (okIf (decide ((0:Ty.den (Ty.int IntKind.i64))≤i)&&decide (i<(↑(8:Nat):Int)))) fun y1=>
    bnd (idx a_1 (0:Int)) fun y2=>
    bnd (idx y2.1 i) fun y3=>
    bnd (ko y3) fun y4=>
    br y4
     (bnd (idx a_1 (0:Int)) fun y5=>
      bnd (idx t2 (0:Int)) fun y6=>
      Z (.inr (.inl (i,(List.set t2 (0:Nat) y5)))))
     (Z (.inl (i64.wrap (i+1)))))
   (Z (.inr (.inr i)))
def jQ.ca_s:Shape:=⟨[(0,sa73),(1,sa80),(2,sa54),(3,sa2)],[(1,sa77),(2,sa77)]⟩
def jQ.ca_r:Ck:=Ck.ofLoop (S:=Int) (T:=((Int)×(List YN))⊕(Int)) jQ.ca_s (fun X=>X.2.1) (fun ρ X Q Z=>jQ.ca_ Q X.2.2.1 X.2.2.2.1 Z) (fun ρ X V Z=>sel V (fun V=>Z 1 (Shape.inj jQ.ca_s (X.1,V.1,X.2.2.1,V.2,()))) (fun V=>Z 4 (Shape.inj jQ.ca_s (X.1,V,X.2.2))))
def jQ.cf_ (i_1:Int)(a_1:List YN)(Z:((Int)×(List YN))⊕((Int)×(List YN))→Option ρ):Option ρ:=
  br (decide (i_1<8))
   (bnd (inR (a_1.length) (0:Int)) fun y=>
    bnd (okIf (decide ((0:Ty.den (Ty.int IntKind.i64))≤i_1)&&decide (i_1<(↑(8:Nat):Int)))) fun y1=>
    bnd (idx a_1 (0:Int)) fun y2=>
    bnd (idx y2.1 i_1) fun y3=>
    bnd (ka y3) fun y4=>
    bnd (inR (a_1.length) (0:Int)) fun y5=>
    bnd (okIf (decide ((0:Ty.den (Ty.int IntKind.i64))≤i_1)&&decide (i_1<(↑(8:Nat):Int)))) fun y6=>
    bnd (idx a_1 (0:Int)) fun y7=>
    bnd (idx y7.1 i_1) fun y8=>
    Z (.inl ((i64.wrap (i_1+1)),(List.set a_1 (0:Nat) (List.set y7.1 (Int.toNat i_1) y4.1,y7.2)))))
   (Z (.inr (i_1,a_1)))
def jQ.cf_s:Shape:=⟨[(0,sa73),(1,sa80),(2,sa54),(3,sa2),(4,sa2)],[(1,sa77),(2,sa77)]⟩
def jQ.cf_r:Ck:=Ck.ofLoop (S:=(Int)×(List YN)) (T:=(Int)×(List YN)) jQ.cf_s (fun X=>(X.2.2.1,X.2.2.2.1)) (fun ρ X Q Z=>jQ.cf_ Q.1 Q.2 Z) (fun ρ X V Z=>Z 6 (Shape.inj jQ.cf_s (X.1,X.2.1,V.1,V.2,(q4 X))))
def jQ.ce_ (a_1:List YN)(t2:List YN)(Z:(List YN)⊕(((List YN)×(List YN))⊕(List YN))→Option ρ):Option ρ:=
  bnd (inR (a_1.length) (0:Int)) fun y=>
  bnd (idx a_1 (0:Int)) fun y1=>
  br (decide (y1.2>0))
   (bnd (iter (fun s↦jQ.ca_ s a_1 t2 some) (0:Int)) fun y2=>
    sel y2
     (fun u=>Z (.inr (.inl (a_1,u.2))))
     (fun v=>bnd (iter (fun s↦jQ.cf_ s.1 s.2 some) ((0:Int),a_1)) fun y3=>
      bnd (idx y3.2 (0:Int)) fun y4=>
      bnd (Jv y4) fun y5=>
      br y5
       (bnd (idx t2 (0:Int)) fun y6=>
        Z (.inr (.inl (y3.2,(List.set t2 (0:Nat) (List.replicate (8:Nat) (false,[]),(0:Int)))))))
       (bnd (inR (List.length y3.2) (0:Int)) fun y7=>
        bnd (idx y3.2 (0:Int)) fun y8=>
        bnd (inR (List.length y3.2) (0:Int)) fun y9=>
        bnd (idx y3.2 (0:Int)) fun y10=>
        Z (.inl (List.set y3.2 (0:Nat) (y10.1,i64.wrap (y8.2-1)))))))
   (Z (.inr (.inr a_1)))
def jQ.ce_s:Shape:=⟨[(0,sa73),(1,sa80),(2,sa54)],[(1,sa77),(2,sa77)]⟩
def jQ.ce_r:Ck:=Ck.ofLoop (S:=List YN) (T:=((List YN)×(List YN))⊕(List YN)) jQ.ce_s (fun X=>X.2.1) (fun ρ X Q Z=>jQ.ce_ Q X.2.2.1 Z) (fun ρ X V Z=>sel V (fun V=>Z 1 (Shape.inj jQ.ce_s (X.1,V.1,V.2,()))) (fun V=>Z 2 (Shape.inj jQ.ce_s (X.1,V,X.2.2))))
def jQ (a:YN):Option YN:=
  bnd (iter (fun s↦jQ.ce_ s [(List.replicate (8:Nat) (false,[]),(0:Int))] some) [a]) fun y=>
  sel y
   (fun u=>bnd (idx u.2 (0:Int)) fun y1=>
    some y1)
   (fun v=>bnd (idx v (0:Int)) fun y2=>
    some y2)
def jQ.ce:Go.Ql.Callee:=⟨[(.st (.pair (.ar 8 (.st (.pair .bool (.sl (.int .i64))))) (.int .i64)))],[(.st (.pair (.ar 8 (.st (.pair .bool (.sl (.int .i64))))) (.int .i64)))],fun X=>jQ X⟩
def jQ.G:Env:=⟨41,tab,[(108,ko.ce),(109,ka.ce),(42,Jv.ce)],[0,1,2,3,4,7,9,16,19,34],[1,2,35],[],[(100001,jQ.ce_r),(100008,jQ.cf_r),(100003,jQ.ca_r)],[],jI,[]⟩
theorem jQ.p0:PcA jQ.G Tryz.f77 0:=
  Jf (s:=jQ.ce_r) (by kernel_rfl) (by kernel_rfl) (jW (sh:=jQ.ce_s) (I:=fun X Q=>(X.1,Q,X.2.2)) (fun X=>rfl) (fun ρ X Q Z=>(jb fun _=>(jb fun _=>(jg (jb fun _=>(kr (fun _=>jc) (fun _=>(jb fun _=>(jb fun _=>(jb fun _=>(jg (jb fun _=>jc) (jb fun _=>(jb fun _=>(jb fun _=>(jb fun _=>jc))))))))))) jc)))) (fun ρ X t k=>(kr (fun _=>(by kernel_rfl)) (fun _=>(by kernel_rfl)))) (fun X s=>by kernel_rfl))
theorem jQ.p1:PcA jQ.G Tryz.f77 1:=
  Jf (s:=jQ.ca_r) (by kernel_rfl) (by kernel_rfl) (jW (sh:=jQ.ca_s) (I:=fun X Q=>(X.1,Q,X.2.2)) (fun X=>rfl) (fun ρ X Q Z=>(jg (jb fun _=>(jb fun _=>(jb fun _=>(jb fun _=>(jb fun _=>(jg (jb fun _=>(jb fun _=>jc)) jc)))))) jc)) (fun ρ X t k=>(kr (fun _=>(by kernel_rfl)) (fun _=>(by kernel_rfl)))) (fun X s=>by kernel_rfl))
theorem jQ.p2:PcA jQ.G Tryz.f77 2:=
  Jf (s:=jQ.cf_r) (by kernel_rfl) (by kernel_rfl) (jW (sh:=jQ.cf_s) (I:=fun X Q=>(X.1,X.2.1,Q.1,Q.2,(q4 X))) (fun X=>rfl) (fun ρ X Q Z=>(jg (jb fun _=>(jb fun _=>(jb fun _=>(jb fun _=>(jb fun _=>(jb fun _=>(jb fun _=>(jb fun _=>(jb fun _=>jc))))))))) jc)) (fun ρ X t k=>(by kernel_rfl)) (fun X s=>by kernel_rfl))
theorem jQ.ok:CalleeOk Tryz.prog 77 jQ.ce:=fn_ok (G:=jQ.G) jX mixed Tryz.func77 ⟨(jn ko.ok (jn ka.ok (jn Jv.ok jK))),jE,jq,jD⟩ (m:=3) (by kernel_rfl) ⟨⟨⟨trivial,jQ.p0⟩,jQ.p1⟩,jQ.p2⟩ (by kernel_rfl) (fun _=>by kernel_rfl)
def Jy.c10 (i:Int)(a_1:List YN)(b_1:List YN)(Z:List YN→Option ρ):Option ρ:=
  bnd (inR (a_1.length) (0:Int)) fun y=>
  bnd (okIf (decide ((0:Ty.den (Ty.int IntKind.i64))≤i)&&decide (i<(↑(8:Nat):Int)))) fun y1=>
  bnd (idx a_1 (0:Int)) fun y2=>
  bnd (idx y2.1 i) fun y3=>
  bnd (inR (b_1.length) (0:Int)) fun y4=>
  bnd (okIf (decide ((0:Ty.den (Ty.int IntKind.i64))≤i)&&decide (i<(↑(8:Nat):Int)))) fun y5=>
  bnd (idx b_1 (0:Int)) fun y6=>
  bnd (idx y6.1 i) fun y7=>
  bnd (Jq y3 y7) fun y8=>
  bnd (inR (a_1.length) (0:Int)) fun y9=>
  bnd (okIf (decide ((0:Ty.den (Ty.int IntKind.i64))≤i)&&decide (i<(↑(8:Nat):Int)))) fun y10=>
  bnd (idx a_1 (0:Int)) fun y11=>
  bnd (idx y11.1 i) fun y12=>
  Z (List.set a_1 (0:Nat) (List.set y11.1 (Int.toNat i) y8,y11.2))
def Jy.c10s:Shape:=⟨[(0,sa73),(1,sa73),(2,sa54),(3,sa55),(4,sa25),(5,sa2)],[(2,sa77),(3,sa77),(4,sa77)]⟩
def Jy.c10r:Ck:=Ck.of (T:=List YN) Jy.c10s (fun ρ X Z=>Jy.c10 X.2.2.1 X.2.2.2.1 (q4 X).1 Z) (fun ρ X V Z=>Z 0 (Shape.inj Jy.c10s (X.1,X.2.1,X.2.2.1,V,(q4 X))))
def Jy.cf_ (i:Int)(a_1:List YN)(b_1:List YN)(Z:((Int)×(List YN))⊕((Int)×(List YN))→Option ρ):Option ρ:=
  br (decide (i<8))
   (bnd (Jy.c10 i a_1 b_1 some) fun y=>
    Z (.inl ((i64.wrap (i+1)),y)))
   (Z (.inr (i,a_1)))
def Jy.cf_r:Ck:=Ck.ofLoop (S:=(Int)×(List YN)) (T:=(Int)×(List YN)) Jy.c10s (fun X=>(X.2.2.1,X.2.2.2.1)) (fun ρ X Q Z=>Jy.cf_ Q.1 Q.2 (q4 X).1 Z) (fun ρ X V Z=>Z 2 (Shape.inj Jy.c10s (X.1,X.2.1,V.1,V.2,(q4 X))))
def Jy (a:YN) (b:YN):Option YN:=
  bnd (Jv a) fun y=>
  br y
   (some b)
   (bnd (Jv b) fun y1=>
    br y1
     (some a)
     (bnd (JF a b.2) fun y2=>
      bnd (JF b y2.2) fun y3=>
      bnd (iter (fun s↦Jy.cf_ s.1 s.2 [y3] some) ((0:Int),[y2])) fun y4=>
      bnd (idx y4.2 (0:Int)) fun y5=>
      bnd (Jv y5) fun y6=>
      br y6
       (some (List.replicate (8:Nat) (false,[]),(0:Int)))
       (bnd (idx y4.2 (0:Int)) fun y7=>
        bnd (jQ y7) fun y8=>
        some y8)))
def Jy.ce:Go.Ql.Callee:=⟨[(.st (.pair (.ar 8 (.st (.pair .bool (.sl (.int .i64))))) (.int .i64))),(.st (.pair (.ar 8 (.st (.pair .bool (.sl (.int .i64))))) (.int .i64)))],[(.st (.pair (.ar 8 (.st (.pair .bool (.sl (.int .i64))))) (.int .i64)))],fun X=>Jy X.1 X.2⟩
def Jy.G:Env:=⟨41,tab,[(42,Jv.ce),(75,JF.ce),(76,Jq.ce),(77,jQ.ce)],[0,1,2,3,4,5,7,10,21,37],[2,3,4,38],[(10,[⟨[],[],[25,26,27,28,29,30,31,32,33,34],[]⟩,⟨[],[],[24,26,29,30,31,32,34],[]⟩,⟨[],[],[24,25,29,30,31,32,34],[]⟩,⟨[2,1],[],[24,29,30,31,32,34],[]⟩,⟨[3,2,1],[],[24,29,30,31,32,34],[]⟩,⟨[],[],[24,25,26,27,28,30,34],[]⟩,⟨[],[],[24,25,26,27,28,29,34],[]⟩,⟨[6,5],[],[24,25,26,27,28,34],[]⟩,⟨[7,6,5],[],[24,25,26,27,28,34],[]⟩,⟨[4,3,2,1,8,7,6,5],[],[24,34],[]⟩,⟨[],[],[24,25,26,27,28,29,30,31,32,33],[]⟩,⟨[10,0,1,2,3,4,5,6,7,8,9],[],[],[]⟩,⟨[11,10,0,1,2,3,4,5,6,7,8,9],[2],[],[]⟩])],[(100008,Jy.cf_r),(10,Jy.c10r)],[],jI,[]⟩
theorem Jy.p0:PcA Jy.G Tryz.f43 0:=
  Jf (s:=Jy.cf_r) (by kernel_rfl) (by kernel_rfl) (jW (sh:=Jy.c10s) (I:=fun X Q=>(X.1,X.2.1,Q.1,Q.2,(q4 X))) (fun X=>rfl) (fun ρ X Q Z=>(jg (jb fun _=>jc) jc)) (fun ρ X t k=>(by kernel_rfl)) (fun X s=>by kernel_rfl))
theorem Jy.p1:PcA Jy.G Tryz.f43 1:=
  js (s:=Jy.c10r) (by kernel_rfl) (by kernel_rfl) (jp (sh:=Jy.c10s) (fun ρ X Z=>(jb fun _=>(jb fun _=>(jb fun _=>(jb fun _=>(jb fun _=>(jb fun _=>(jb fun _=>(jb fun _=>(jb fun _=>(jb fun _=>(jb fun _=>(jb fun _=>(jb fun _=>jc)))))))))))))) (fun ρ X t k=>(by kernel_rfl)) (fun X=>by kernel_rfl))
theorem Jy.ok:CalleeOk Tryz.prog 43 Jy.ce:=fn_ok (G:=Jy.G) jX mixed Tryz.func43 ⟨(jn Jv.ok (jn JF.ok (jn Jq.ok (jn jQ.ok jK)))),jE,jq,jD⟩ (m:=2) (by kernel_rfl) ⟨⟨trivial,Jy.p0⟩,Jy.p1⟩ (by kernel_rfl) (fun _=>by kernel_rfl)
def kT (a:Bool×(List Int)):Option (Bool×(List Int)):=
  bnd (Jm (!a.1) a.2) fun y=>
  some (y.1,y.2)
def kT.ce:Go.Ql.Callee:=⟨[(.st (.pair .bool (.sl (.int .i64))))],[(.st (.pair .bool (.sl (.int .i64))))],fun X=>kT X⟩
def kT.G:Env:=⟨9,tab,[(74,Jm.ce)],[0,1,2],[],[],[],[],jI,[]⟩
theorem kT.ok:CalleeOk Tryz.prog 102 kT.ce:=fn_ok (G:=kT.G) jX mixed Tryz.func102 ⟨(jn Jm.ok jK),jE,jq,jD⟩ (m:=0) (by kernel_rfl) trivial (by kernel_rfl) (fun _=>by kernel_rfl)
def Je.cm_ (t1:Int)(Z:Int→Option ρ):Option ρ:=
  br (decide (t1<0))
   (Z (i64.wrap (t1+16)))
   (Z t1)
def Je.cm_s:Shape:=⟨[(0,sa73),(1,sa2),(2,sa74),(4,sa25)],[(4,sa77)]⟩
def Je.cm_r:Ck:=Ck.of (T:=Int) Je.cm_s (fun ρ X Z=>Je.cm_ X.2.1 Z) (fun ρ X V Z=>Z 0 (Shape.inj Je.cm_s (X.1,V,X.2.2)))
def Je.cw_ (t1:Int)(a_1:YN)(i:Int)(out:List YN)(Z:List YN→Option ρ):Option ρ:=
  br (decide (Int.tmod (i64.wrap (i+t1)) (16:Int)<8))
   (bnd (idx a_1.1 i) fun y=>
    bnd (inR (out.length) (0:Int)) fun y1=>
    bnd (okIf (decide ((0:Ty.den (Ty.int IntKind.i64))≤Int.tmod (i64.wrap (i+t1)) (16:Int))&&decide (Int.tmod (i64.wrap (i+t1)) (16:Int)<(↑(8:Nat):Int)))) fun y2=>
    bnd (idx out (0:Int)) fun y3=>
    bnd (idx y3.1 (Int.tmod (i64.wrap (i+t1)) (16:Int))) fun y4=>
    Z (List.set out (0:Nat) (List.set y3.1 (Int.toNat (Int.tmod (i64.wrap (i+t1)) (16:Int))) y,y3.2)))
   (bnd (idx a_1.1 i) fun y5=>
    bnd (kT y5) fun y6=>
    bnd (inR (out.length) (0:Int)) fun y7=>
    bnd (okIf (decide ((0:Ty.den (Ty.int IntKind.i64))≤i64.wrap (Int.tmod (i64.wrap (i+t1)) (16:Int)-8))&&decide (i64.wrap (Int.tmod (i64.wrap (i+t1)) (16:Int)-8)<(↑(8:Nat):Int)))) fun y8=>
    bnd (idx out (0:Int)) fun y9=>
    bnd (idx y9.1 (i64.wrap (Int.tmod (i64.wrap (i+t1)) (16:Int)-8))) fun y10=>
    Z (List.set out (0:Nat) (List.set y9.1 (Int.toNat (i64.wrap (Int.tmod (i64.wrap (i+t1)) (16:Int)-8))) y6,y9.2)))
def Je.cw_s:Shape:=⟨[(0,sa73),(1,sa2),(2,sa74),(4,sa25),(5,sa15),(6,sa2)],[(4,sa77),(5,sa77)]⟩
def Je.cw_r:Ck:=Ck.of (T:=List YN) Je.cw_s (fun ρ X Z=>Je.cw_ X.2.1 X.2.2.1 X.2.2.2.1 (q4 X).2.1 Z) (fun ρ X V Z=>Z 0 (Shape.inj Je.cw_s (X.1,X.2.1,X.2.2.1,X.2.2.2.1,(q4 X).1,V,())))
def Je.cd_ (t1:Int)(a_1:YN)(i:Int)(out:List YN)(Z:((Int)×(List YN))⊕((Int)×(List YN))→Option ρ):Option ρ:=
  br (decide (i<8))
   (bnd (Je.cw_ t1 a_1 i out some) fun y=>
    Z (.inl ((i64.wrap (i+1)),y)))
   (Z (.inr (i,out)))
def Je.cd_r:Ck:=Ck.ofLoop (S:=(Int)×(List YN)) (T:=(Int)×(List YN)) Je.cw_s (fun X=>(X.2.2.2.1,(q4 X).2.1)) (fun ρ X Q Z=>Je.cd_ X.2.1 X.2.2.1 Q.1 Q.2 Z) (fun ρ X V Z=>Z 2 (Shape.inj Je.cw_s (X.1,X.2.1,X.2.2.1,V.1,(q4 X).1,V.2,())))
def Je (a:YN) (t1:Int):Option YN:=
  bnd (Je.cm_ (Int.tmod t1 (16:Int)) some) fun y=>
  bnd (iter (fun s↦Je.cd_ y a s.1 s.2 some) ((0:Int),[(List.replicate (8:Nat) (false,[]),a.2)])) fun y1=>
  bnd (idx y1.2 (0:Int)) fun y2=>
  some y2
def Je.ce:Go.Ql.Callee:=⟨[(.st (.pair (.ar 8 (.st (.pair .bool (.sl (.int .i64))))) (.int .i64))),(.int .i64)],[(.st (.pair (.ar 8 (.st (.pair .bool (.sl (.int .i64))))) (.int .i64)))],fun X=>Je X.1 X.2⟩
def Je.G:Env:=⟨45,tab,[(102,kT.ce)],[0,1,2,4,5,6,7,11,19,27],[4,5,14,8000002],[],[(100007,Je.cd_r),(236872,Je.cw_r),(208197,Je.cm_r)],[],jI,[]⟩
theorem Je.p0:PcA Je.G Tryz.f71 0:=
  JR (s:=Je.cm_r) (by kernel_rfl) (by kernel_rfl) (jp (sh:=Je.cm_s) (fun ρ X Z=>(jg jc jc)) (fun ρ X t k=>(by kernel_rfl)) (fun X=>by kernel_rfl))
theorem Je.p1:PcA Je.G Tryz.f71 1:=
  Jf (s:=Je.cd_r) (by kernel_rfl) (by kernel_rfl) (jW (sh:=Je.cw_s) (I:=fun X Q=>(X.1,X.2.1,X.2.2.1,Q.1,(q4 X).1,Q.2,())) (fun X=>rfl) (fun ρ X Q Z=>(jg (jb fun _=>jc) jc)) (fun ρ X t k=>(by kernel_rfl)) (fun X s=>by kernel_rfl))
theorem Je.p2:PcA Je.G Tryz.f71 2:=
  JR (s:=Je.cw_r) (by kernel_rfl) (by kernel_rfl) (jp (sh:=Je.cw_s) (fun ρ X Z=>(jg (jb fun _=>(jb fun _=>(jb fun _=>(jb fun _=>(jb fun _=>jc))))) (jb fun _=>(jb fun _=>(jb fun _=>(jb fun _=>(jb fun _=>(jb fun _=>jc)))))))) (fun ρ X t k=>(by kernel_rfl)) (fun X=>by kernel_rfl))
theorem Je.ok:CalleeOk Tryz.prog 71 Je.ce:=fn_ok (G:=Je.G) jX mixed Tryz.func71 ⟨(jn kT.ok jK),jE,jq,jD⟩ (m:=3) (by kernel_rfl) ⟨⟨⟨trivial,Je.p0⟩,Je.p1⟩,Je.p2⟩ (by kernel_rfl) (fun _=>by kernel_rfl)
def kc.cc_ (i:Int)(a_1:List YN)(Z:((Int)×(List YN))⊕((Int)×(List YN))→Option ρ):Option ρ:=
  br (decide (i<8))
   (bnd (inR (a_1.length) (0:Int)) fun y=>
    bnd (okIf (decide ((0:Ty.den (Ty.int IntKind.i64))≤i)&&decide (i<(↑(8:Nat):Int)))) fun y1=>
    bnd (idx a_1 (0:Int)) fun y2=>
    bnd (idx y2.1 i) fun y3=>
    bnd (kT y3) fun y4=>
    bnd (inR (a_1.length) (0:Int)) fun y5=>
    bnd (okIf (decide ((0:Ty.den (Ty.int IntKind.i64))≤i)&&decide (i<(↑(8:Nat):Int)))) fun y6=>
    bnd (idx a_1 (0:Int)) fun y7=>
    bnd (idx y7.1 i) fun y8=>
    Z (.inl ((i64.wrap (i+1)),(List.set a_1 (0:Nat) (List.set y7.1 (Int.toNat i) y4,y7.2)))))
   (Z (.inr (i,a_1)))
def kc.cc_s:Shape:=⟨[(0,sa73),(1,sa80),(2,sa54),(3,sa2)],[(1,sa77),(2,sa77)]⟩
def kc.cc_r:Ck:=Ck.ofLoop (S:=(Int)×(List YN)) (T:=(Int)×(List YN)) kc.cc_s (fun X=>(X.2.1,X.2.2.1)) (fun ρ X Q Z=>kc.cc_ Q.1 Q.2 Z) (fun ρ X V Z=>Z 2 (Shape.inj kc.cc_s (X.1,V.1,V.2,X.2.2.2)))
def kc (a:YN):Option YN:=
  bnd (iter (fun s↦kc.cc_ s.1 s.2 some) ((0:Int),[a])) fun y=>
  bnd (idx y.2 (0:Int)) fun y1=>
  some y1
def kc.ce:Go.Ql.Callee:=⟨[(.st (.pair (.ar 8 (.st (.pair .bool (.sl (.int .i64))))) (.int .i64)))],[(.st (.pair (.ar 8 (.st (.pair .bool (.sl (.int .i64))))) (.int .i64)))],fun X=>kc X⟩
def kc.G:Env:=⟨17,tab,[(102,kT.ce)],[0,1,2,3,5],[1,2],[],[(100002,kc.cc_r)],[],jI,[]⟩
theorem kc.p0:PcA kc.G Tryz.f73 0:=
  Jf (s:=kc.cc_r) (by kernel_rfl) (by kernel_rfl) (jW (sh:=kc.cc_s) (I:=fun X Q=>(X.1,Q.1,Q.2,X.2.2.2)) (fun X=>rfl) (fun ρ X Q Z=>(jg (jb fun _=>(jb fun _=>(jb fun _=>(jb fun _=>(jb fun _=>(jb fun _=>(jb fun _=>(jb fun _=>(jb fun _=>jc))))))))) jc)) (fun ρ X t k=>(by kernel_rfl)) (fun X s=>by kernel_rfl))
theorem kc.ok:CalleeOk Tryz.prog 73 kc.ce:=fn_ok (G:=kc.G) jX mixed Tryz.func73 ⟨(jn kT.ok jK),jE,jq,jD⟩ (m:=1) (by kernel_rfl) ⟨trivial,kc.p0⟩ (by kernel_rfl) (fun _=>by kernel_rfl)
def km.c1 (a_1:YN)(b_1:YN)(t4:List YN)(Z:List YN→Option ρ):Option ρ:=
  bnd (kc b_1) fun y=>
  bnd (Jy a_1 y) fun y1=>
  bnd (idx t4 (0:Int)) fun y2=>
  Z (List.set t4 (0:Nat) y1)
def km.c1s:Shape:=⟨[(0,sa73),(1,sa73),(2,sa74),(3,sa74),(4,sa25)],[(4,sa77)]⟩
def km.c1r:Ck:=Ck.of (T:=List YN) km.c1s (fun ρ X Z=>km.c1 X.2.2.1 X.2.2.2.1 (q4 X).1 Z) (fun ρ X V Z=>Z 0 (Shape.inj km.c1s (X.1,X.2.1,X.2.2.1,X.2.2.2.1,V,())))
def km (a:YN) (b:YN):Option YN:=
  bnd (km.c1 a b [(List.replicate (8:Nat) (false,[]),(0:Int))] some) fun y=>
  bnd (idx y (0:Int)) fun y1=>
  some y1
def km.ce:Go.Ql.Callee:=⟨[(.st (.pair (.ar 8 (.st (.pair .bool (.sl (.int .i64))))) (.int .i64))),(.st (.pair (.ar 8 (.st (.pair .bool (.sl (.int .i64))))) (.int .i64)))],[(.st (.pair (.ar 8 (.st (.pair .bool (.sl (.int .i64))))) (.int .i64)))],fun X=>km X.1 X.2⟩
def km.G:Env:=⟨9,tab,[(73,kc.ce),(43,Jy.ce)],[0,1,2,3,4],[4,8000002,8000003],[(1,[⟨[],[],[6,7],[]⟩,⟨[],[],[5],[]⟩,⟨[1],[],[5],[]⟩,⟨[0,2,1],[],[],[]⟩,⟨[3,0,2,1],[4],[],[]⟩])],[(1,km.c1r)],[],jI,[]⟩
theorem km.p0:PcA km.G Tryz.f103 0:=
  js (s:=km.c1r) (by kernel_rfl) (by kernel_rfl) (jp (sh:=km.c1s) (fun ρ X Z=>(jb fun _=>(jb fun _=>(jb fun _=>jc)))) (fun ρ X t k=>(by kernel_rfl)) (fun X=>by kernel_rfl))
theorem km.ok:CalleeOk Tryz.prog 103 km.ce:=fn_ok (G:=km.G) jX mixed Tryz.func103 ⟨(jn kc.ok (jn Jy.ok jK)),jE,jq,jD⟩ (m:=1) (by kernel_rfl) ⟨trivial,km.p0⟩ (by kernel_rfl) (fun _=>by kernel_rfl)
def ke.c1 (a_1:YN)(Z:List YN→Option ρ):Option ρ:=
  bnd (Je a_1 (2:Int)) fun y=>
  bnd (Je a_1 (6:Int)) fun y1=>
  bnd (km y y1) fun y2=>
  Z [y2]
def ke.c1s:Shape:=⟨[(0,sa73),(1,sa74),(2,sa54)],[(2,sa77)]⟩
def ke.c1x0:Shape:=⟨[(0,sa73),(1,sa74),(2,sa54),(3,sa55)],[(2,sa77),(3,sa77)]⟩
def ke.c1r:Ck:=Ck.of (T:=List YN) ke.c1s (fun ρ X Z=>ke.c1 X.2.1 Z) (fun ρ X V Z=>Z 0 (Shape.inj ke.c1x0 (X.1,X.2.1,X.2.2.1,V,())))
def ke (a:YN):Option YN:=
  bnd (ke.c1 a some) fun y=>
  bnd (idx y (0:Int)) fun y1=>
  bnd (Jv y1) fun y2=>
  br y2
   (bnd (idx y (0:Int)) fun y3=>
    some y3)
   (bnd (inR (y.length) (0:Int)) fun y4=>
    bnd (idx y (0:Int)) fun y5=>
    bnd (inR (y.length) (0:Int)) fun y6=>
    bnd (idx y (0:Int)) fun y7=>
    bnd (idx (List.set y (0:Nat) (y7.1,i64.wrap (y5.2+1))) (0:Int)) fun y8=>
    bnd (jQ y8) fun y9=>
    some y9)
def ke.ce:Go.Ql.Callee:=⟨[(.st (.pair (.ar 8 (.st (.pair .bool (.sl (.int .i64))))) (.int .i64)))],[(.st (.pair (.ar 8 (.st (.pair .bool (.sl (.int .i64))))) (.int .i64)))],fun X=>ke X⟩
def ke.G:Env:=⟨18,tab,[(71,Je.ce),(103,km.ce),(42,Jv.ce),(77,jQ.ce)],[0,1,2,3,10],[2,3,8000001],[(1,[⟨[],[],[6,3],[3]⟩,⟨[0],[],[6,3],[3]⟩,⟨[],[],[4,5,3],[3]⟩,⟨[2,1,0],[],[3],[3]⟩,⟨[1,0,3,2],[],[3],[3]⟩,⟨[],[3],[4,5,6,7,8],[]⟩,⟨[5,4,1,0,3,2],[3],[],[]⟩])],[(1,ke.c1r)],[],jI,[]⟩
theorem ke.p0:PcA ke.G Tryz.f72 0:=
  js (s:=ke.c1r) (by kernel_rfl) (by kernel_rfl) (jp (sh:=ke.c1s) (fun ρ X Z=>(jb fun _=>(jb fun _=>(jb fun _=>jc)))) (fun ρ X t k=>(by kernel_rfl)) (fun X=>by kernel_rfl))
theorem ke.ok:CalleeOk Tryz.prog 72 ke.ce:=fn_ok (G:=ke.G) jX mixed Tryz.func72 ⟨(jn Je.ok (jn km.ok (jn Jv.ok (jn jQ.ok jK)))),jE,jq,jD⟩ (m:=1) (by kernel_rfl) ⟨trivial,ke.p0⟩ (by kernel_rfl) (fun _=>by kernel_rfl)
abbrev sa81:SD:=.one (.val (.sl (.st (.pair (.ar 8 (.st (.pair .bool (.sl (.int .i64))))) (.int .i64)))))
abbrev sa82:SD:=.one (.own 11 0)
abbrev sa83:SD:=.one (.aptr 8 0)
def jw.c7 (v:List YN)(x:Int)(t11:List YN)(Z:List YN→Option ρ):Option ρ:=
  bnd (inR (t11.length) x) fun y=>
  bnd (idx t11 x) fun y1=>
  bnd (idx v x) fun y2=>
  bnd (Jy y1 y2) fun y3=>
  bnd (inR (t11.length) x) fun y4=>
  bnd (idx t11 x) fun y5=>
  Z (List.set t11 (Int.toNat x) y3)
def jw.c7s:Shape:=⟨[(0,sa81),(1,sa12),(3,sa7),(4,sa81),(5,sa82),(6,sa2)],[(3,sa14),(11,sa77)]⟩
def jw.c7r:Ck:=Ck.of (T:=List YN) jw.c7s (fun ρ X Z=>jw.c7 X.1 X.2.2.2.1 (q8 X).2.2.1 Z) (fun ρ X V Z=>Z 0 (Shape.inj jw.c7s (X.1,X.2.1,X.2.2.1,X.2.2.2.1,(q4 X).1,(q4 X).2.1,(q4 X).2.2.1,(q4 X).2.2.2.1,(q8 X).1,(q8 X).2.1,V,())))
def jw.c9 (x:Int)(o0:Int)(o3:Int)(Z:Bool→Option ρ):Option ρ:=
  br (o0==1)
   (Z true)
   (br (o0==4)
     (bnd (kz x o3) fun y=>
      Z (y==1))
     (Z false))
def jw.c9s:Shape:=⟨[(0,sa81),(1,sa12),(3,sa7),(4,sa81),(5,sa82),(6,sa2),(7,sa2)],[(3,sa14),(11,sa77)]⟩
def jw.c9x0:Shape:=⟨[(0,sa81),(1,sa12),(3,sa7),(4,sa81),(5,sa82),(6,sa2),(7,sa2),(59,sa11)],[(3,sa14),(11,sa77)]⟩
def jw.c9r:Ck:=Ck.of (T:=Bool) jw.c9s (fun ρ X Z=>jw.c9 X.2.2.2.1 (q4 X).2.1 (q8 X).1 Z) (fun ρ X V Z=>Z 0 (Shape.inj jw.c9x0 (X.1,X.2.1,X.2.2.1,X.2.2.2.1,(q4 X).1,V,(q4 X).2)))
def jw.c10 (v:List YN)(x:Int)(o1:Int)(t11:List YN)(Z:List YN→Option ρ):Option ρ:=
  bnd (idx v x) fun y=>
  bnd (Je y o1) fun y1=>
  bnd (inR (t11.length) x) fun y2=>
  bnd (idx t11 x) fun y3=>
  Z (List.set t11 (Int.toNat x) y1)
def jw.c10r:Ck:=Ck.of (T:=List YN) jw.c9s (fun ρ X Z=>jw.c10 X.1 X.2.2.2.1 (q4 X).2.2.1 (q8 X).2.2.2.1 Z) (fun ρ X V Z=>Z 0 (Shape.inj jw.c9s (X.1,X.2.1,X.2.2.1,X.2.2.2.1,(q4 X).1,(q4 X).2.1,(q4 X).2.2.1,(q4 X).2.2.2.1,(q8 X).1,(q8 X).2.1,(q8 X).2.2.1,V,())))
def jw.c16 (other:Int)(half:List YN)(t11:List YN)(Z:List YN→Option ρ):Option ρ:=
  bnd (inR (t11.length) other) fun y=>
  bnd (idx t11 other) fun y1=>
  bnd (idx half (0:Int)) fun y2=>
  bnd (Jy y1 y2) fun y3=>
  bnd (inR (t11.length) other) fun y4=>
  bnd (idx t11 other) fun y5=>
  Z (List.set t11 (Int.toNat other) y3)
def jw.c16s:Shape:=⟨[(0,sa81),(1,sa12),(3,sa7),(4,sa81),(5,sa82),(6,sa2),(7,sa2),(8,sa83)],[(3,sa14),(8,sa77),(11,sa77)]⟩
def jw.c16r:Ck:=Ck.of (T:=List YN) jw.c16s (fun ρ X Z=>jw.c16 (q4 X).1 (q8 X).2.2.2.1 (q4 (q8 X)).1 Z) (fun ρ X V Z=>Z 0 (Shape.inj jw.c16s (X.1,X.2.1,X.2.2.1,X.2.2.2.1,(q4 X).1,(q4 X).2.1,(q4 X).2.2.1,(q4 X).2.2.2.1,(q8 X).1,(q8 X).2.1,(q8 X).2.2.1,(q8 X).2.2.2.1,V,())))
def jw.cO_ (x:Int)(o3:Int)(half:List YN)(Z:List YN→Option ρ):Option ρ:=
  bnd (kz x o3) fun y=>
  br (y==1)
   (bnd (idx half (0:Int)) fun y1=>
    bnd (kc y1) fun y2=>
    bnd (idx half (0:Int)) fun y3=>
    Z (List.set half (0:Nat) y2))
   (Z half)
def jw.cO_r:Ck:=Ck.of (T:=List YN) jw.c16s (fun ρ X Z=>jw.cO_ X.2.2.2.1 (q8 X).1 (q8 X).2.2.2.1 Z) (fun ρ X V Z=>Z 0 (Shape.inj jw.c16s (X.1,X.2.1,X.2.2.1,X.2.2.2.1,(q4 X).1,(q4 X).2.1,(q4 X).2.2.1,(q4 X).2.2.2.1,(q8 X).1,(q8 X).2.1,(q8 X).2.2.1,V,(q4 (q8 X)))))
def jw.c19 (x:Int)(half:List YN)(t11:List YN)(Z:List YN→Option ρ):Option ρ:=
  bnd (inR (t11.length) x) fun y=>
  bnd (idx t11 x) fun y1=>
  bnd (idx half (0:Int)) fun y2=>
  bnd (Jy y1 y2) fun y3=>
  bnd (inR (t11.length) x) fun y4=>
  bnd (idx t11 x) fun y5=>
  Z (List.set t11 (Int.toNat x) y3)
def jw.c19r:Ck:=Ck.of (T:=List YN) jw.c16s (fun ρ X Z=>jw.c19 X.2.2.2.1 (q8 X).2.2.2.1 (q4 (q8 X)).1 Z) (fun ρ X V Z=>Z 0 (Shape.inj jw.c16s (X.1,X.2.1,X.2.2.1,X.2.2.2.1,(q4 X).1,(q4 X).2.1,(q4 X).2.2.1,(q4 X).2.2.2.1,(q8 X).1,(q8 X).2.1,(q8 X).2.2.1,(q8 X).2.2.2.1,V,())))
def jw.cH_ (v:List YN)(x:Int)(o0:Int)(o1:Int)(o2:List (Int))(o3:Int)(t11:List YN)(Z:List YN→Option ρ):Option ρ:=
  bnd (idx v x) fun y=>
  bnd (Jv y) fun y1=>
  br y1
   (Z t11)
   (bnd (JM x o2) fun y2=>
    br (!y2)
     (bnd (jw.c7 v x t11 some) fun y3=>
      Z y3)
     (bnd (okIf (decide ((0:Int)≤o3))) fun y4=>
      bnd (jw.c9 x o0 o3 some) fun y5=>
      br y5
       (bnd (jw.c10 v x o1 t11 some) fun y6=>
        Z y6)
       (br (o0==4)
         (bnd (idx v x) fun y7=>
          bnd (inR (t11.length) x) fun y8=>
          bnd (idx t11 x) fun y9=>
          Z (List.set t11 (Int.toNat x) y7))
         (br (o0==2)
           (bnd (idx v x) fun y10=>
            bnd (inR (t11.length) (ibits BinOp.xor IntKind.i64 x (i64.wrap ((1:Int)*2^Min.min (Int.toNat o3) (64:Nat))))) fun y11=>
            bnd (idx t11 (ibits BinOp.xor IntKind.i64 x (i64.wrap ((1:Int)*2^Min.min (Int.toNat o3) (64:Nat))))) fun y12=>
            Z (List.set t11 (Int.toNat (ibits BinOp.xor IntKind.i64 x (i64.wrap ((1:Int)*2^Min.min (Int.toNat o3) (64:Nat))))) y10))
           (bnd (idx v x) fun y13=>
            bnd (ke y13) fun y14=>
            bnd (jw.c16 (ibits BinOp.xor IntKind.i64 x (i64.wrap ((1:Int)*2^Min.min (Int.toNat o3) (64:Nat)))) [y14] t11 some) fun y15=>
            bnd (jw.cO_ x o3 [y14] some) fun y16=>
            bnd (jw.c19 x y16 y15 some) fun y17=>
            Z y17)))))
def jw.cH_r:Ck:=Ck.of (T:=List YN) jw.c7s (fun ρ X Z=>jw.cH_ X.1 X.2.2.2.1 (q4 X).1 (q4 X).2.1 (q4 X).2.2.1 (q4 X).2.2.2.1 (q8 X).2.2.1 Z) (fun ρ X V Z=>Z 0 (Shape.inj jw.c7s (X.1,X.2.1,X.2.2.1,X.2.2.2.1,(q4 X).1,(q4 X).2.1,(q4 X).2.2.1,(q4 X).2.2.2.1,(q8 X).1,(q8 X).2.1,V,())))
def jw.ca_ (v:List YN)(x:Int)(o0:Int)(o1:Int)(o2:List (Int))(o3:Int)(t11:List YN)(Z:((Int)×(List YN))⊕((Int)×(List YN))→Option ρ):Option ρ:=
  br (decide (x<(v.length:Int)))
   (bnd (jw.cH_ v x o0 o1 o2 o3 t11 some) fun y=>
    Z (.inl ((i64.wrap (x+1)),y)))
   (Z (.inr (x,t11)))
def jw.ca_r:Ck:=Ck.ofLoop (S:=(Int)×(List YN)) (T:=(Int)×(List YN)) jw.c7s (fun X=>(X.2.2.2.1,(q8 X).2.2.1)) (fun ρ X Q Z=>jw.ca_ X.1 Q.1 (q4 X).1 (q4 X).2.1 (q4 X).2.2.1 (q4 X).2.2.2.1 Q.2 Z) (fun ρ X V Z=>Z 2 (Shape.inj jw.c7s (X.1,X.2.1,X.2.2.1,V.1,(q4 X).1,(q4 X).2.1,(q4 X).2.2.1,(q4 X).2.2.2.1,(q8 X).1,(q8 X).2.1,V.2,())))
def jw (v:List YN) (o:YO):Option (List YN):=
  bnd (okIf (decide ((0:Int)≤(v.length:Int))&&decide ((v.length:Int)≤(v.length:Int))&&decide ((v.length:Int)*(↑(264:Nat):Int)≤140737488355328)&&decide ((v.length:Int)≤140737488355328))) fun y=>
  bnd (iter (fun s↦jw.ca_ v s.1 o.1 o.2.1 o.2.2.1 o.2.2.2.1 s.2 some) ((0:Int),List.replicate (Int.toNat (v.length:Int)) (List.replicate (8:Nat) (false,[]),(0:Int)))) fun y1=>
  some y1.2
def jw.ce:Go.Ql.Callee:=⟨[(.sl (.st (.pair (.ar 8 (.st (.pair .bool (.sl (.int .i64))))) (.int .i64)))),(.st (.pair (.int .i64) (.pair (.int .i64) (.pair (.sl (.int .i64)) (.pair (.int .i64) (.pair (.int .i64) (.sl (.int .i64))))))))],[(.sl (.st (.pair (.ar 8 (.st (.pair .bool (.sl (.int .i64))))) (.int .i64))))],fun X=>jw X.1 X.2⟩
def jw.G:Env:=⟨121,tab,[(42,Jv.ce),(70,JM.ce),(43,Jy.ce),(55,kz.ce),(71,Je.ce),(72,ke.ce),(73,kc.ce)],[0,1,3,4,5,6,7,8,15,22,27,59,72,82,108],[8,11],[(19,[⟨[],[],[112,113,114,115,116,117,118],[]⟩,⟨[],[],[111,113,114,115,116,117,118],[]⟩,⟨[],[],[111,112,114,117],[]⟩,⟨[],[],[111,112,113,117],[]⟩,⟨[2,3],[],[111,112,117],[]⟩,⟨[4,2,3],[],[111,112,117],[]⟩,⟨[],[],[111,112,113,114,115,116],[]⟩,⟨[5,4,2,3,6],[],[111,112],[]⟩,⟨[0,1,2,3,4,5,6,7],[],[],[]⟩,⟨[8,0,1,2,3,4,5,6,7],[11],[],[]⟩]),
  (16,[⟨[],[],[96,97,98,99,100,101,102],[]⟩,⟨[],[],[95,97,98,99,100,101,102],[]⟩,⟨[],[],[95,96,98,101],[]⟩,⟨[],[],[95,96,97,101],[]⟩,⟨[2,3],[],[95,96,101],[]⟩,⟨[4,2,3],[],[95,96,101],[]⟩,⟨[],[],[95,96,97,98,99,100],[]⟩,⟨[5,4,2,3,6],[],[95,96],[]⟩,⟨[0,1,2,3,4,5,6,7],[],[],[]⟩,⟨[8,0,1,2,3,4,5,6,7],[11],[],[]⟩]),
  (10,[⟨[],[],[61,62,63,64,65,66,67,68],[]⟩,⟨[],[],[60,62,63,64,65,66,67,68],[]⟩,⟨[],[],[60,61,63,66,67],[]⟩,⟨[],[],[60,61,62,66,67],[]⟩,⟨[2,3],[],[60,61,66,67],[]⟩,⟨[4,2,3],[],[60,61,66,67],[]⟩,⟨[],[],[60,61,62,63,64,65],[]⟩,⟨[6],[],[60,61,62,63,64,65],[]⟩,⟨[5,4,2,3,7,6],[],[60,61],[]⟩,⟨[0,1,2,3,4,5,6,7,8],[],[],[]⟩,⟨[9,0,1,2,3,4,5,6,7,8],[11],[],[]⟩]),
  (7,[⟨[],[],[29,30,31,32,33,34,35,36,37,38],[]⟩,⟨[],[],[28,30,31,32,33,34,35,36,37,38],[]⟩,⟨[],[],[28,29,31,34,35,36,37],[]⟩,⟨[],[],[28,29,30,34,35,36,37],[]⟩,⟨[2,3],[],[28,29,34,35,36,37],[]⟩,⟨[4,2,3],[],[28,29,34,35,36,37],[]⟩,⟨[],[],[28,29,30,31,32,33,35],[]⟩,⟨[],[],[28,29,30,31,32,33,34],[]⟩,⟨[6,7],[],[28,29,30,31,32,33],[]⟩,⟨[8,6,7],[],[28,29,30,31,32,33],[]⟩,⟨[5,4,2,3,9,8,6,7],[],[28,29],[]⟩,⟨[0,1,2,3,4,5,6,7,8,9,10],[],[],[]⟩,⟨[11,0,1,2,3,4,5,6,7,8,9,10],[11],[],[]⟩])],[(100003,jw.ca_r),(220520,jw.cH_r),(19,jw.c19r),(269637,jw.cO_r),(16,jw.c16r),(10,jw.c10r),(9,jw.c9r),(7,jw.c7r)],[],jI,[]⟩
theorem jw.p0:PcA jw.G Tryz.f38 0:=
  Jf (s:=jw.ca_r) (by kernel_rfl) (by kernel_rfl) (jW (sh:=jw.c7s) (I:=fun X Q=>(X.1,X.2.1,X.2.2.1,Q.1,(q4 X).1,(q4 X).2.1,(q4 X).2.2.1,(q4 X).2.2.2.1,(q8 X).1,(q8 X).2.1,Q.2,())) (fun X=>rfl) (fun ρ X Q Z=>(jg (jb fun _=>jc) jc)) (fun ρ X t k=>(by kernel_rfl)) (fun X s=>by kernel_rfl))
theorem jw.p1:PcA jw.G Tryz.f38 1:=
  JR (s:=jw.cH_r) (by kernel_rfl) (by kernel_rfl) (jp (sh:=jw.c7s) (fun ρ X Z=>(jb fun _=>(jb fun _=>(jg jc (jb fun _=>(jg (jb fun _=>jc) (jb fun _=>(jb fun _=>(jg (jb fun _=>jc) (jg (jb fun _=>(jb fun _=>(jb fun _=>jc))) (jg (jb fun _=>(jb fun _=>(jb fun _=>jc))) (jb fun _=>(jb fun _=>(jb fun _=>(jb fun _=>(jb fun _=>jc)))))))))))))))) (fun ρ X t k=>(by kernel_rfl)) (fun X=>by kernel_rfl))
theorem jw.p2:PcA jw.G Tryz.f38 2:=
  js (s:=jw.c7r) (by kernel_rfl) (by kernel_rfl) (jp (sh:=jw.c7s) (fun ρ X Z=>(jb fun _=>(jb fun _=>(jb fun _=>(jb fun _=>(jb fun _=>(jb fun _=>jc))))))) (fun ρ X t k=>(by kernel_rfl)) (fun X=>by kernel_rfl))
theorem jw.p3:PcA jw.G Tryz.f38 3:=
  js (s:=jw.c9r) (by kernel_rfl) (by kernel_rfl) (jp (sh:=jw.c9s) (fun ρ X Z=>(jg jc (jg (jb fun _=>jc) jc))) (fun ρ X t k=>(by kernel_rfl)) (fun X=>by kernel_rfl))
theorem jw.p4:PcA jw.G Tryz.f38 4:=
  js (s:=jw.c10r) (by kernel_rfl) (by kernel_rfl) (jp (sh:=jw.c9s) (fun ρ X Z=>(jb fun _=>(jb fun _=>(jb fun _=>(jb fun _=>jc))))) (fun ρ X t k=>(by kernel_rfl)) (fun X=>by kernel_rfl))
theorem jw.p5:PcA jw.G Tryz.f38 5:=
  js (s:=jw.c16r) (by kernel_rfl) (by kernel_rfl) (jp (sh:=jw.c16s) (fun ρ X Z=>(jb fun _=>(jb fun _=>(jb fun _=>(jb fun _=>(jb fun _=>(jb fun _=>jc))))))) (fun ρ X t k=>(by kernel_rfl)) (fun X=>by kernel_rfl))
theorem jw.p6:PcA jw.G Tryz.f38 6:=
  JR (s:=jw.cO_r) (by kernel_rfl) (by kernel_rfl) (jp (sh:=jw.c16s) (fun ρ X Z=>(jb fun _=>(jg (jb fun _=>(jb fun _=>(jb fun _=>jc))) jc))) (fun ρ X t k=>(by kernel_rfl)) (fun X=>by kernel_rfl))
theorem jw.p7:PcA jw.G Tryz.f38 7:=
  js (s:=jw.c19r) (by kernel_rfl) (by kernel_rfl) (jp (sh:=jw.c16s) (fun ρ X Z=>(jb fun _=>(jb fun _=>(jb fun _=>(jb fun _=>(jb fun _=>(jb fun _=>jc))))))) (fun ρ X t k=>(by kernel_rfl)) (fun X=>by kernel_rfl))
theorem jw.ok:CalleeOk Tryz.prog 38 jw.ce:=fn_ok (G:=jw.G) jX mixed Tryz.func38 ⟨(jn Jv.ok (jn JM.ok (jn Jy.ok (jn kz.ok (jn Je.ok (jn ke.ok (jn kc.ok jK))))))),jE,jq,jD⟩ (m:=8) (by kernel_rfl) ⟨⟨⟨⟨⟨⟨⟨⟨trivial,jw.p0⟩,jw.p1⟩,jw.p2⟩,jw.p3⟩,jw.p4⟩,jw.p5⟩,jw.p6⟩,jw.p7⟩ (by kernel_rfl) (fun _=>by kernel_rfl)
def Jj.ck_ (v:List YN)(q:Int)(b:Int)(x:Int)(t11:List YN)(Z:List YN→Option ρ):Option ρ:=
  bnd (kz x q) fun y=>
  br (y==b)
   (bnd (idx v x) fun y1=>
    bnd (inR (t11.length) x) fun y2=>
    bnd (idx t11 x) fun y3=>
    Z (List.set t11 (Int.toNat x) y1))
   (Z t11)
def Jj.ck_s:Shape:=⟨[(0,sa81),(1,sa2),(2,sa2),(6,sa81),(7,sa82),(8,sa2)],[(11,sa77)]⟩
def Jj.ck_r:Ck:=Ck.of (T:=List YN) Jj.ck_s (fun ρ X Z=>Jj.ck_ X.1 X.2.1 X.2.2.1 (q4 X).1 (q4 X).2.1 Z) (fun ρ X V Z=>Z 0 (Shape.inj Jj.ck_s (X.1,X.2.1,X.2.2.1,X.2.2.2.1,(q4 X).1,V,())))
def Jj.ca_ (v:List YN)(q:Int)(b:Int)(x:Int)(t11:List YN)(Z:((Int)×(List YN))⊕((Int)×(List YN))→Option ρ):Option ρ:=
  br (decide (x<(v.length:Int)))
   (bnd (Jj.ck_ v q b x t11 some) fun y=>
    Z (.inl ((i64.wrap (x+1)),y)))
   (Z (.inr (x,t11)))
def Jj.ca_r:Ck:=Ck.ofLoop (S:=(Int)×(List YN)) (T:=(Int)×(List YN)) Jj.ck_s (fun X=>((q4 X).1,(q4 X).2.1)) (fun ρ X Q Z=>Jj.ca_ X.1 X.2.1 X.2.2.1 Q.1 Q.2 Z) (fun ρ X V Z=>Z 2 (Shape.inj Jj.ck_s (X.1,X.2.1,X.2.2.1,X.2.2.2.1,V.1,V.2,())))
def Jj (v:List YN) (q:Int) (b:Int):Option (List YN):=
  bnd (okIf (decide ((0:Int)≤(v.length:Int))&&decide ((v.length:Int)≤(v.length:Int))&&decide ((v.length:Int)*(↑(264:Nat):Int)≤140737488355328)&&decide ((v.length:Int)≤140737488355328))) fun y=>
  bnd (iter (fun s↦Jj.ca_ v q b s.1 s.2 some) ((0:Int),List.replicate (Int.toNat (v.length:Int)) (List.replicate (8:Nat) (false,[]),(0:Int)))) fun y1=>
  some y1.2
def Jj.ce:Go.Ql.Callee:=⟨[(.sl (.st (.pair (.ar 8 (.st (.pair .bool (.sl (.int .i64))))) (.int .i64)))),(.int .i64),(.int .i64)],[(.sl (.st (.pair (.ar 8 (.st (.pair .bool (.sl (.int .i64))))) (.int .i64))))],fun X=>Jj X.1 X.2.1 X.2.2⟩
def Jj.G:Env:=⟨31,tab,[(55,kz.ce)],[0,1,2,6,7,8,15,22],[11],[],[(100003,Jj.ca_r),(220486,Jj.ck_r)],[],jI,[]⟩
theorem Jj.p0:PcA Jj.G Tryz.f39 0:=
  Jf (s:=Jj.ca_r) (by kernel_rfl) (by kernel_rfl) (jW (sh:=Jj.ck_s) (I:=fun X Q=>(X.1,X.2.1,X.2.2.1,X.2.2.2.1,Q.1,Q.2,())) (fun X=>rfl) (fun ρ X Q Z=>(jg (jb fun _=>jc) jc)) (fun ρ X t k=>(by kernel_rfl)) (fun X s=>by kernel_rfl))
theorem Jj.p1:PcA Jj.G Tryz.f39 1:=
  JR (s:=Jj.ck_r) (by kernel_rfl) (by kernel_rfl) (jp (sh:=Jj.ck_s) (fun ρ X Z=>(jb fun _=>(jg (jb fun _=>(jb fun _=>(jb fun _=>jc))) jc))) (fun ρ X t k=>(by kernel_rfl)) (fun X=>by kernel_rfl))
theorem Jj.ok:CalleeOk Tryz.prog 39 Jj.ce:=fn_ok (G:=Jj.G) jX mixed Tryz.func39 ⟨(jn kz.ok jK),jE,jq,jD⟩ (m:=2) (by kernel_rfl) ⟨⟨trivial,Jj.p0⟩,Jj.p1⟩ (by kernel_rfl) (fun _=>by kernel_rfl)
abbrev sa84:SD:=.one (.ref 9 0)
abbrev sa85:SD:=.one (.ref 10 0)
abbrev sa86:SD:=.one (.own 39 0)
abbrev sa87:SD:=.one (.ref 15 0)
def jR.c3  (Z:Unit→Option ρ):Option ρ:=
  Z ()
def jR.c3s:Shape:=⟨[(0,sa4),(1,sa2),(2,sa0),(3,sa7),(6,sa81),(7,sa0),(8,sa2),(9,sa84),(10,sa85)],[(3,sa8),(9,sa17),(10,sa17)]⟩
def jR.c3r:Ck:=Ck.of (T:=Unit) jR.c3s (fun ρ X Z=>jR.c3  Z) (fun ρ X V Z=>Z 0 (Shape.inj jR.c3s (X.1,X.2.1,X.2.2.1,[],[],(0:Int),(q4 X).2.2.1,(q4 X).2.2.2.1,(q8 X).1,(q8 X).2.2.2.1,(q4 (q8 X)).1,(q8 X).2.2.2)))
def jR.c4 (t1:Int)(c0:Int)(Z:Bool→Option ρ):Option ρ:=
  br (decide (t1<0))
   (Z true)
   (bnd (okIf (decide ((0:Int)≤c0))) fun y=>
    Z (decide (t1≥i64.wrap ((1:Int)*2^Min.min (Int.toNat c0) (64:Nat)))))
def jR.c4x0:Shape:=⟨[(0,sa4),(1,sa2),(2,sa0),(3,sa7),(6,sa81),(7,sa0),(8,sa2),(9,sa84),(10,sa85),(31,sa11)],[(3,sa8),(9,sa17),(10,sa17)]⟩
def jR.c4r:Ck:=Ck.of (T:=Bool) jR.c3s (fun ρ X Z=>jR.c4 X.2.1 (q4 X).2.2.1 Z) (fun ρ X V Z=>Z 0 (Shape.inj jR.c4x0 (X.1,X.2.1,X.2.2.1,X.2.2.2.1,(q4 X).1,(q4 X).2.1,V,(q4 X).2.2)))
def jR.c19 (b:Int)(Z:Bool→Option ρ):Option ρ:=
  br (b !=0)
   (Z (b !=1))
   (Z false)
def jR.c19s:Shape:=⟨[(0,sa4),(1,sa2),(2,sa0),(3,sa7),(6,sa81),(7,sa0),(8,sa2),(9,sa84),(10,sa85),(11,sa81),(12,sa86),(13,sa2),(14,sa2),(15,sa87),(16,sa2)],[(3,sa8),(9,sa17),(10,sa17),(15,sa14),(39,sa3)]⟩
def jR.c19x0:Shape:=⟨[(0,sa4),(1,sa2),(2,sa0),(3,sa7),(6,sa81),(7,sa0),(8,sa2),(9,sa84),(10,sa85),(11,sa81),(12,sa86),(13,sa2),(14,sa2),(15,sa87),(16,sa2),(77,sa11)],[(3,sa8),(9,sa17),(10,sa17),(15,sa14),(39,sa3)]⟩
def jR.c19r:Ck:=Ck.of (T:=Bool) jR.c19s (fun ρ X Z=>jR.c19 (q8 X).2.1 Z) (fun ρ X V Z=>Z 0 (Shape.inj jR.c19x0 (X.1,X.2.1,X.2.2.1,X.2.2.2.1,(q4 X).1,(q4 X).2.1,(q4 X).2.2.1,(q4 X).2.2.2.1,(q8 X).1,(q8 X).2.1,V,(q8 X).2.2)))
def jR.cu_ (tape:List (Int))(v:List YN)(used:Int)(i:Int)(c2:List YO)(t39:List (Int))(Z:((List YN)×(Int)×(List Int))⊕((Int)×(Int))→Option ρ):Option ρ:=
  bnd (idx c2 i) fun y=>
  bnd (jG (y.1,y.2.1,y.2.2.1,y.2.2.2.1,y.2.2.2.2.1,y.2.2.2.2.2) t39) fun y1=>
  br (!y1)
   (Z (.inl (v,used,t39)))
   (br (decide (y.1<5))
     (bnd (jw v (y.1,y.2.1,y.2.2.1,y.2.2.2.1,y.2.2.2.2.1,y.2.2.2.2.2)) fun y2=>
      Z (.inl (y2,used,t39)))
     (br (used==(tape.length:Int))
       (bnd (ki (19:Int) i) fun y3=>
        Z (.inr (y3.1,y3.2)))
       (bnd (idx tape used) fun y4=>
        bnd (jR.c19 y4 some) fun y5=>
        br y5
         (bnd (ki (20:Int) i) fun y6=>
          Z (.inr (y6.1,y6.2)))
         (bnd (Jj v y.2.2.2.1 y4) fun y7=>
          br (y.1==5)
           (bnd (inR (t39.length) y.2.2.2.2.1) fun y8=>
            bnd (idx t39 y.2.2.2.2.1) fun y9=>
            Z (.inl (y7,(i64.wrap (used+1)),(List.set t39 (Int.toNat y.2.2.2.2.1) y4))))
           (br (y4==1)
             (bnd (jw y7 ((2:Int),(0:Int),[],y.2.2.2.1,(0:Int),[])) fun y10=>
              Z (.inl (y10,(i64.wrap (used+1)),t39)))
             (Z (.inl (y7,(i64.wrap (used+1)),t39))))))))
def jR.cu_s:Shape:=⟨[(0,sa4),(1,sa2),(2,sa0),(3,sa7),(6,sa81),(7,sa0),(8,sa2),(9,sa84),(10,sa85),(11,sa81),(12,sa86),(13,sa2),(14,sa2)],[(3,sa8),(9,sa17),(10,sa17),(39,sa3)]⟩
def jR.cu_r:Ck:=Ck.of (T:=((List YN)×(Int)×(List Int))⊕((Int)×(Int))) jR.cu_s (fun ρ X Z=>jR.cu_ X.2.2.1 (q4 X).2.2.1 (q4 X).2.2.2.1 (q8 X).1 (q8 X).2.2.2.1 (q8 (q8 X)).1 Z) (fun ρ X V Z=>uP X fun c X=>uP X fun t1 X=>uP X fun tape X=>uP X fun t6 X=>uP X fun t7 X=>uP X fun t8 X=>uP X fun v X=>uP X fun used X=>uP X fun i X=>uP X fun c0 X=>uP X fun c1 X=>uP X fun c2 X=>uP X fun t90 X=>uP X fun t91 X=>uP X fun f0 X=>uP X fun f1 X=>uP X fun t39 X=>sel V (fun V=>Z 0 (Shape.inj jR.cu_s (c,t1,tape,t6,t7,t8,V.1,V.2.1,i,c0,c1,c2,t90,t91,f0,f1,V.2.2,()))) (fun V=>Z 1 (Shape.inj jR.cu_s (c,t1,tape,[],[],(0:Int),v,used,i,c0,c1,c2,V.1,V.2,f0,f1,t39,()))))
def jR.cp_ (tape:List (Int))(v:List YN)(used:Int)(i:Int)(c2:List YO)(t39:List (Int))(Z:((List YN)×(Int)×(Int)×(List Int))⊕(((List YN)×(Int)×(Int)×(Int)×(Int)×(List Int))⊕((List YN)×(Int)×(Int)×(List Int)))→Option ρ):Option ρ:=
  br (decide (i<(c2.length:Int)))
   (bnd (jR.cu_ tape v used i c2 t39 some) fun y=>
    sel y
     (fun u=>Z (.inl (u.1,u.2.1,(i64.wrap (i+1)),u.2.2)))
     (fun v_1=>Z (.inr (.inl (v,used,i,v_1.1,v_1.2,t39)))))
   (Z (.inr (.inr (v,used,i,t39))))
def jR.cp_r:Ck:=Ck.ofLoop (S:=(List YN)×(Int)×(Int)×(List Int)) (T:=((List YN)×(Int)×(Int)×(Int)×(Int)×(List Int))⊕((List YN)×(Int)×(Int)×(List Int))) jR.cu_s (fun X=>((q4 X).2.2.1,(q4 X).2.2.2.1,(q8 X).1,(q8 (q8 X)).1)) (fun ρ X Q Z=>jR.cp_ X.2.2.1 Q.1 Q.2.1 Q.2.2.1 (q8 X).2.2.2.1 Q.2.2.2 Z) (fun ρ X V Z=>uP X fun c X=>uP X fun t1 X=>uP X fun tape X=>uP X fun t6 X=>uP X fun t7 X=>uP X fun t8 X=>uP X fun v X=>uP X fun used X=>uP X fun i X=>uP X fun c0 X=>uP X fun c1 X=>uP X fun c2 X=>uP X fun t90 X=>uP X fun t91 X=>uP X fun f0 X=>uP X fun f1 X=>uP X fun t39 X=>sel V (fun V=>Z 1 (Shape.inj jR.cu_s (c,t1,tape,[],[],(0:Int),V.1,V.2.1,V.2.2.1,c0,c1,c2,V.2.2.2.1,V.2.2.2.2.1,f0,f1,V.2.2.2.2.2,()))) (fun V=>Z 2 (Shape.inj jR.cu_s (c,t1,tape,t6,t7,t8,V.1,V.2.1,V.2.2.1,c0,c1,c2,t90,t91,f0,f1,V.2.2.2,()))))
def jR (c:(Int)×((Int)×(List YO))) (t1:Int) (tape:List (Int)):Option ((List YN)×(List Int)×(Int)×((Int)×(Int))):=
  bnd (Ja (c.1,c.2.1,c.2.2)) fun y=>
  br (y.1 !=0)
   (bnd (jR.c3 some) fun y1=>
    some ([],[],(0:Int),y.1,y.2))
   (bnd (jR.c4 t1 c.1 some) fun y2=>
    br y2
     (bnd (ki (18:Int) (0:Int)) fun y3=>
      some ([],[],(0:Int),y3.1,y3.2))
     (bnd (Yb c.1 t1) fun y4=>
      bnd (okIf (decide ((0:Int)≤c.2.1)&&decide (c.2.1≤c.2.1)&&decide (c.2.1*(↑(8:Nat):Int)≤140737488355328)&&decide (c.2.1≤140737488355328))) fun y5=>
      bnd (iter (fun s↦jR.cp_ tape s.1 s.2.1 s.2.2.1 c.2.2 s.2.2.2 some) (y4,(0:Int),(0:Int),List.replicate (Int.toNat c.2.1) (0:Int))) fun y6=>
      sel y6
       (fun u=>some ([],[],(0:Int),u.2.2.2.1,u.2.2.2.2.1))
       (fun v=>some (v.1,v.2.2.2,v.2.1,(0:Int),(0:Int)))))
def jR.ce:Go.Ql.Callee:=⟨[(.st (.pair (.int .i64) (.pair (.int .i64) (.sl (.st (.pair (.int .i64) (.pair (.int .i64) (.pair (.sl (.int .i64)) (.pair (.int .i64) (.pair (.int .i64) (.sl (.int .i64)))))))))))),(.int .i64),(.sl (.int .i64))],[(.sl (.st (.pair (.ar 8 (.st (.pair .bool (.sl (.int .i64))))) (.int .i64)))),(.sl (.int .i64)),(.int .i64),(.st (.pair (.int .i64) (.int .i64)))],fun X=>jR X.1 X.2.1 X.2.2⟩
def jR.G:Env:=⟨106,tab,[(34,Ja.ce),(35,ki.ce),(36,Yb.ce),(37,jG.ce),(38,jw.ce),(39,Jj.ce)],[0,1,2,3,6,7,8,9,10,11,12,13,14,15,16,21,31,44,55,58,65,77,89,96],[39],[(3,[⟨[],[],[6,7,8],[6,7]⟩,⟨[],[6],[22],[]⟩,⟨[1],[7],[22],[]⟩,⟨[2,1],[],[22],[]⟩,⟨[0,3,2,1],[9],[],[]⟩])],[(100010,jR.cp_r),(249200,jR.cu_r),(19,jR.c19r),(4,jR.c4r),(3,jR.c3r)],[],jI,[]⟩
theorem jR.p0:PcA jR.G Tryz.f15 0:=
  js (s:=jR.c3r) (by kernel_rfl) (by kernel_rfl) (jp (sh:=jR.c3s) (fun ρ X Z=>jc) (fun ρ X t k=>(by kernel_rfl)) (fun X=>by kernel_rfl))
theorem jR.p1:PcA jR.G Tryz.f15 1:=
  js (s:=jR.c4r) (by kernel_rfl) (by kernel_rfl) (jp (sh:=jR.c3s) (fun ρ X Z=>(jg jc (jb fun _=>jc))) (fun ρ X t k=>(by kernel_rfl)) (fun X=>by kernel_rfl))
theorem jR.p2:PcA jR.G Tryz.f15 2:=
  Jf (s:=jR.cp_r) (by kernel_rfl) (by kernel_rfl) (jW (sh:=jR.cu_s) (I:=fun X Q=>(X.1,X.2.1,X.2.2.1,X.2.2.2.1,(q4 X).1,(q4 X).2.1,Q.1,Q.2.1,Q.2.2.1,(q8 X).2.1,(q8 X).2.2.1,(q8 X).2.2.2.1,(q4 (q8 X)).1,(q4 (q8 X)).2.1,(q4 (q8 X)).2.2.1,(q4 (q8 X)).2.2.2.1,Q.2.2.2,())) (fun X=>rfl) (fun ρ X Q Z=>(jg (jb fun _=>(kr (fun _=>jc) (fun _=>jc))) jc)) (fun ρ X t k=>(kr (fun _=>(by kernel_rfl)) (fun _=>(by kernel_rfl)))) (fun X s=>by kernel_rfl))
theorem jR.p3:PcA jR.G Tryz.f15 3:=
  JR (s:=jR.cu_r) (by kernel_rfl) (by kernel_rfl) (jp (sh:=jR.cu_s) (fun ρ X Z=>(jb fun _=>(jb fun _=>(jg jc (jg (jb fun _=>jc) (jg (jb fun _=>jc) (jb fun _=>(jb fun _=>(jg (jb fun _=>jc) (jb fun _=>(jg (jb fun _=>(jb fun _=>jc)) (jg (jb fun _=>jc) jc)))))))))))) (fun ρ X t k=>(kr (fun _=>(by kernel_rfl)) (fun _=>(by kernel_rfl)))) (fun X=>by kernel_rfl))
theorem jR.p4:PcA jR.G Tryz.f15 4:=
  js (s:=jR.c19r) (by kernel_rfl) (by kernel_rfl) (jp (sh:=jR.c19s) (fun ρ X Z=>(jg jc jc)) (fun ρ X t k=>(by kernel_rfl)) (fun X=>by kernel_rfl))
theorem jR.ok:CalleeOk Tryz.prog 15 jR.ce:=fn_ok (G:=jR.G) jX mixed Tryz.func15 ⟨(jn Ja.ok (jn ki.ok (jn Yb.ok (jn jG.ok (jn jw.ok (jn Jj.ok jK)))))),jE,jq,jD⟩ (m:=5) (by kernel_rfl) ⟨⟨⟨⟨⟨trivial,jR.p0⟩,jR.p1⟩,jR.p2⟩,jR.p3⟩,jR.p4⟩ (by kernel_rfl) (fun _=>by kernel_rfl)
abbrev sa88:SD:=.one (.val (.sl (.int .u8)))
def jJ.cq_ (text:List UInt8)(a0:Bool)(Z:List UInt8→Option ρ):Option ρ:=
  br a0
   (Z (Array.toList (ByteArray.data (ByteArray.mk #[45]))))
   (Z text)
def jJ.cq_s:Shape:=⟨[(0,sa75),(1,sa5),(2,sa65),(3,sa65)],[(1,sa72)]⟩
def jJ.cq_r:Ck:=Ck.of (T:=List UInt8) jJ.cq_s (fun ρ X Z=>jJ.cq_ X.2.2.1 X.2.2.2.1 Z) (fun ρ X V Z=>Z 0 (Shape.inj jJ.cq_s (X.1,X.2.1,V,X.2.2.2)))
def jJ.c9 (i:Int)(a1:List (Int))(Z:List (Int)→Option ρ):Option ρ:=
  bnd (idx a1 i) fun y=>
  bnd (idx a1 i) fun y1=>
  bnd (idx a1 i) fun y2=>
  bnd (idx a1 i) fun y3=>
  Z ([u8.wrap (i64.wrap ((48:Int)+i64.wrap (Int.tdiv y (1000:Int)))),u8.wrap (i64.wrap ((48:Int)+Int.tmod (i64.wrap (Int.tdiv y1 (100:Int))) (10:Int))),u8.wrap (i64.wrap ((48:Int)+Int.tmod (i64.wrap (Int.tdiv y2 (10:Int))) (10:Int))),u8.wrap (i64.wrap ((48:Int)+Int.tmod y3 (10:Int)))])
def jJ.c9s:Shape:=⟨[(0,sa75),(1,sa5),(2,sa65),(3,sa65),(4,sa2)],[(1,sa72)]⟩
def jJ.c9x0:Shape:=⟨[(0,sa75),(1,sa5),(2,sa65),(3,sa65),(4,sa2),(5,sa88)],[(1,sa72)]⟩
def jJ.c9r:Ck:=Ck.of (T:=List (Int)) jJ.c9s (fun ρ X Z=>jJ.c9 X.2.2.2.1 (q4 X).2.1 Z) (fun ρ X V Z=>Z 0 (Shape.inj jJ.c9x0 (X.1,X.2.1,X.2.2.1,X.2.2.2.1,V,(q4 X))))
def jJ.c11 (i:Int)(four:List (Int))(t6:Int)(a1:List (Int))(Z:Bool→Option ρ):Option ρ:=
  br (i==i64.wrap ((a1.length:Int)-1))
   (br (decide (t6<3))
     (bnd (idx four t6) fun y=>
      Z (y==48))
     (Z false))
   (Z false)
def jJ.c11s:Shape:=⟨[(0,sa75),(1,sa5),(2,sa65),(3,sa65),(4,sa2),(5,sa88),(6,sa2)],[(1,sa72)]⟩
def jJ.c11x0:Shape:=⟨[(0,sa75),(1,sa5),(2,sa65),(3,sa65),(4,sa2),(5,sa88),(6,sa2),(72,sa11)],[(1,sa72)]⟩
def jJ.c11r:Ck:=Ck.of (T:=Bool) jJ.c11s (fun ρ X Z=>jJ.c11 X.2.2.2.1 (q4 X).1 (q4 X).2.1 (q4 X).2.2.2.1 Z) (fun ρ X V Z=>Z 0 (Shape.inj jJ.c11x0 (X.1,X.2.1,X.2.2.1,X.2.2.2.1,(q4 X).1,(q4 X).2.1,V,(q4 X).2.2)))
def jJ.cj_ (i:Int)(four:List (Int))(t6:Int)(a1:List (Int))(Z:(Int)⊕(Int)→Option ρ):Option ρ:=
  bnd (jJ.c11 i four t6 a1 some) fun y=>
  br y
   (Z (.inl (i64.wrap (t6+1))))
   (Z (.inr t6))
def jJ.cj_r:Ck:=Ck.ofLoop (S:=Int) (T:=Int) jJ.c11s (fun X=>(q4 X).2.1) (fun ρ X Q Z=>jJ.cj_ X.2.2.2.1 (q4 X).1 Q (q4 X).2.2.2.1 Z) (fun ρ X V Z=>Z 4 (Shape.inj jJ.c11s (X.1,X.2.1,X.2.2.1,X.2.2.2.1,(q4 X).1,V,(q4 X).2.2)))
def jJ.cd_ (text:List UInt8)(i:Int)(a1:List (Int))(Z:((List UInt8)×(Int))⊕((List UInt8)×(Int))→Option ρ):Option ρ:=
  br (decide (i≥0))
   (bnd (jJ.c9 i a1 some) fun y=>
    bnd (iter (fun s↦jJ.cj_ i y s a1 some) (0:Int)) fun y1=>
    bnd (okIf (decide ((0:Int)≤y1)&&decide (y1≤(y.length:Int))&&decide ((y.length:Int)≤(y.length:Int)))) fun y2=>
    bnd (okIf (decide (text.length+List.length (List.map (fun n↦UInt8.ofNat (Int.toNat n)) (List.drop (Int.toNat y1) (List.take (Int.toNat (y.length:Int)) y)))≤9223372036854775807))) fun y3=>
    Z (.inl ((text++List.map (fun n↦UInt8.ofNat (Int.toNat n)) (List.drop (Int.toNat y1) (List.take (Int.toNat (y.length:Int)) y))),(i64.wrap (i-1)))))
   (Z (.inr (text,i)))
def jJ.cd_r:Ck:=Ck.ofLoop (S:=(List UInt8)×(Int)) (T:=(List UInt8)×(Int)) jJ.c9s (fun X=>(X.2.2.1,X.2.2.2.1)) (fun ρ X Q Z=>jJ.cd_ Q.1 Q.2 (q4 X).2.1 Z) (fun ρ X V Z=>Z 2 (Shape.inj jJ.c9s (X.1,X.2.1,V.1,V.2,(q4 X))))
def jJ (a:Bool×(List Int)):Option (List UInt8):=
  br ((↑(List.length a.2):Int)==0)
   (some (Array.toList (ByteArray.data (ByteArray.mk #[48]))))
   (bnd (jJ.cq_ (Array.toList (ByteArray.data (ByteArray.mk #[]))) a.1 some) fun y=>
    bnd (iter (fun s↦jJ.cd_ s.1 s.2 a.2 some) (y,i64.wrap ((↑(List.length a.2):Int)-1))) fun y1=>
    some y1.1)
def jJ.ce:Go.Ql.Callee:=⟨[(.st (.pair .bool (.sl (.int .i64))))],[.str],fun X=>jJ X⟩
def jJ.G:Env:=⟨82,tab,[],[0,1,2,3,4,5,6,10,12,18,72],[],[(9,[⟨[],[],[23,29,30,31,32,33,34,35,36,37,38,39,40,41,42,43,44,45,46,47,48,49,50,51,52,53,54],[]⟩,⟨[0],[],[23,29,30,31,32,33,34,35,36,37,38,39,40,41,42,43,44,45,46,47,48,49,50,51,52,53,54],[]⟩,⟨[],[],[21,22,29,30,31,32,33,34,35,36,37,38,39,40,41,42,43,44,45,46,47,48,49,50,51,52,53,54],[]⟩,⟨[1,0,2],[],[29,30,31,32,33,34,35,36,37,38,39,40,41,42,43,44,45,46,47,48,49,50,51,52,53,54],[]⟩,⟨[3,1,0,2],[],[29,30,31,32,33,34,35,36,37,38,39,40,41,42,43,44,45,46,47,48,49,50,51,52,53,54],[]⟩,⟨[4,3,1,0,2],[],[29,30,31,32,33,34,35,36,37,38,39,40,41,42,43,44,45,46,47,48,49,50,51,52,53,54],[]⟩,⟨[5,4,3,1,0,2],[],[29,30,31,32,33,34,35,36,37,38,39,40,41,42,43,44,45,46,47,48,49,50,51,52,53,54],[]⟩,⟨[6,5,4,3,1,0,2],[],[29,30,31,32,33,34,35,36,37,38,39,40,41,42,43,44,45,46,47,48,49,50,51,52,53,54],[]⟩,⟨[],[],[21,22,23,24,25,26,27,28,31,38,39,40,41,42,43,44,45,46,47,48,49,50,51,52,53,54],[]⟩,⟨[8],[],[21,22,23,24,25,26,27,28,31,38,39,40,41,42,43,44,45,46,47,48,49,50,51,52,53,54],[]⟩,⟨[],[],[21,22,23,24,25,26,27,28,29,30,38,39,40,41,42,43,44,45,46,47,48,49,50,51,52,53,54],[]⟩,⟨[9,8,10],[],[21,22,23,24,25,26,27,28,38,39,40,41,42,43,44,45,46,47,48,49,50,51,52,53,54],[]⟩,⟨[11,9,8,10],[],[21,22,23,24,25,26,27,28,38,39,40,41,42,43,44,45,46,47,48,49,50,51,52,53,54],[]⟩,⟨[12,11,9,8,10],[],[21,22,23,24,25,26,27,28,38,39,40,41,42,43,44,45,46,47,48,49,50,51,52,53,54],[]⟩,⟨[13,12,11,9,8,10],[],[21,22,23,24,25,26,27,28,38,39,40,41,42,43,44,45,46,47,48,49,50,51,52,53,54],[]⟩,⟨[14,13,12,11,9,8,10],[],[21,22,23,24,25,26,27,28,38,39,40,41,42,43,44,45,46,47,48,49,50,51,52,53,54],[]⟩,⟨[15,14,13,12,11,9,8,10],[],[21,22,23,24,25,26,27,28,38,39,40,41,42,43,44,45,46,47,48,49,50,51,52,53,54],[]⟩,⟨[],[],[21,22,23,24,25,26,27,28,29,30,31,32,33,34,35,36,37,40,47,48,49,50,51,52,53,54],[]⟩,⟨[17],[],[21,22,23,24,25,26,27,28,29,30,31,32,33,34,35,36,37,40,47,48,49,50,51,52,53,54],[]⟩,⟨[],[],[21,22,23,24,25,26,27,28,29,30,31,32,33,34,35,36,37,38,39,47,48,49,50,51,52,53,54],[]⟩,⟨[18,17,19],[],[21,22,23,24,25,26,27,28,29,30,31,32,33,34,35,36,37,47,48,49,50,51,52,53,54],[]⟩,⟨[20,18,17,19],[],[21,22,23,24,25,26,27,28,29,30,31,32,33,34,35,36,37,47,48,49,50,51,52,53,54],[]⟩,⟨[21,20,18,17,19],[],[21,22,23,24,25,26,27,28,29,30,31,32,33,34,35,36,37,47,48,49,50,51,52,53,54],[]⟩,⟨[22,21,20,18,17,19],[],[21,22,23,24,25,26,27,28,29,30,31,32,33,34,35,36,37,47,48,49,50,51,52,53,54],[]⟩,⟨[23,22,21,20,18,17,19],[],[21,22,23,24,25,26,27,28,29,30,31,32,33,34,35,36,37,47,48,49,50,51,52,53,54],[]⟩,⟨[24,23,22,21,20,18,17,19],[],[21,22,23,24,25,26,27,28,29,30,31,32,33,34,35,36,37,47,48,49,50,51,52,53,54],[]⟩,⟨[],[],[21,22,23,24,25,26,27,28,29,30,31,32,33,34,35,36,37,38,39,40,41,42,43,44,45,46,49],[]⟩,⟨[26],[],[21,22,23,24,25,26,27,28,29,30,31,32,33,34,35,36,37,38,39,40,41,42,43,44,45,46,49],[]⟩,⟨[],[],[21,22,23,24,25,26,27,28,29,30,31,32,33,34,35,36,37,38,39,40,41,42,43,44,45,46,47,48],[]⟩,⟨[27,26,28],[],[21,22,23,24,25,26,27,28,29,30,31,32,33,34,35,36,37,38,39,40,41,42,43,44,45,46],[]⟩,⟨[29,27,26,28],[],[21,22,23,24,25,26,27,28,29,30,31,32,33,34,35,36,37,38,39,40,41,42,43,44,45,46],[]⟩,⟨[30,29,27,26,28],[],[21,22,23,24,25,26,27,28,29,30,31,32,33,34,35,36,37,38,39,40,41,42,43,44,45,46],[]⟩,⟨[31,30,29,27,26,28],[],[21,22,23,24,25,26,27,28,29,30,31,32,33,34,35,36,37,38,39,40,41,42,43,44,45,46],[]⟩,⟨[32,31,30,29,27,26,28],[],[21,22,23,24,25,26,27,28,29,30,31,32,33,34,35,36,37,38,39,40,41,42,43,44,45,46],[]⟩,⟨[7,6,5,4,3,1,0,2,16,15,14,13,12,11,9,8,10,25,24,23,22,21,20,18,17,19,33,32,31,30,29,27,26,28],[55],[],[]⟩,⟨[34,7,6,5,4,3,1,0,2,16,15,14,13,12,11,9,8,10,25,24,23,22,21,20,18,17,19,33,32,31,30,29,27,26,28],[],[],[]⟩])],[(100007,jJ.cd_r),(100011,jJ.cj_r),(11,jJ.c11r),(9,jJ.c9r),(216389,jJ.cq_r)],[],jI,[]⟩
theorem jJ.p0:PcA jJ.G Tryz.f40 0:=
  JR (s:=jJ.cq_r) (by kernel_rfl) (by kernel_rfl) (jp (sh:=jJ.cq_s) (fun ρ X Z=>(jg jc jc)) (fun ρ X t k=>(by kernel_rfl)) (fun X=>by kernel_rfl))
theorem jJ.p1:PcA jJ.G Tryz.f40 1:=
  Jf (s:=jJ.cd_r) (by kernel_rfl) (by kernel_rfl) (jW (sh:=jJ.c9s) (I:=fun X Q=>(X.1,X.2.1,Q.1,Q.2,(q4 X))) (fun X=>rfl) (fun ρ X Q Z=>(jg (jb fun _=>(jb fun _=>(jb fun _=>(jb fun _=>jc)))) jc)) (fun ρ X t k=>(by kernel_rfl)) (fun X s=>by kernel_rfl))
theorem jJ.p2:PcA jJ.G Tryz.f40 2:=
  js (s:=jJ.c9r) (by kernel_rfl) (by kernel_rfl) (jp (sh:=jJ.c9s) (fun ρ X Z=>(jb fun _=>(jb fun _=>(jb fun _=>(jb fun _=>jc))))) (fun ρ X t k=>(by kernel_rfl)) (fun X=>by kernel_rfl))
theorem jJ.p3:PcA jJ.G Tryz.f40 3:=
  Jf (s:=jJ.cj_r) (by kernel_rfl) (by kernel_rfl) (jW (sh:=jJ.c11s) (I:=fun X Q=>(X.1,X.2.1,X.2.2.1,X.2.2.2.1,(q4 X).1,Q,(q4 X).2.2)) (fun X=>rfl) (fun ρ X Q Z=>(jb fun _=>(jg jc jc))) (fun ρ X t k=>(by kernel_rfl)) (fun X s=>by kernel_rfl))
theorem jJ.p4:PcA jJ.G Tryz.f40 4:=
  js (s:=jJ.c11r) (by kernel_rfl) (by kernel_rfl) (jp (sh:=jJ.c11s) (fun ρ X Z=>(jg (jg (jb fun _=>jc) jc) jc)) (fun ρ X t k=>(by kernel_rfl)) (fun X=>by kernel_rfl))
theorem jJ.ok:CalleeOk Tryz.prog 40 jJ.ce:=fn_ok (G:=jJ.G) jX mixed Tryz.func40 ⟨jK,jE,jq,jD⟩ (m:=5) (by kernel_rfl) ⟨⟨⟨⟨⟨trivial,jJ.p0⟩,jJ.p1⟩,jJ.p2⟩,jJ.p3⟩,jJ.p4⟩ (by kernel_rfl) (fun _=>by kernel_rfl)
def jY.ck_ (a_1:YN)(last:Int)(i:Int)(Z:Int→Option ρ):Option ρ:=
  bnd (idx a_1.1 i) fun y=>
  br (decide ((↑(List.length y.2):Int)>0))
   (Z i)
   (Z last)
def jY.ck_s:Shape:=⟨[(0,sa73),(1,sa74),(2,sa65),(3,sa2),(4,sa2)],[]⟩
def jY.ck_r:Ck:=Ck.of (T:=Int) jY.ck_s (fun ρ X Z=>jY.ck_ X.2.1 X.2.2.2.1 (q4 X).1 Z) (fun ρ X V Z=>Z 0 (Shape.inj jY.ck_s (X.1,X.2.1,X.2.2.1,V,(q4 X))))
def jY.ca_ (a_1:YN)(last:Int)(i:Int)(Z:((Int)×(Int))⊕((Int)×(Int))→Option ρ):Option ρ:=
  br (decide (i<8))
   (bnd (jY.ck_ a_1 last i some) fun y=>
    Z (.inl (y,(i64.wrap (i+1)))))
   (Z (.inr (last,i)))
def jY.ca_r:Ck:=Ck.ofLoop (S:=(Int)×(Int)) (T:=(Int)×(Int)) jY.ck_s (fun X=>(X.2.2.2.1,(q4 X).1)) (fun ρ X Q Z=>jY.ca_ X.2.1 Q.1 Q.2 Z) (fun ρ X V Z=>Z 2 (Shape.inj jY.ck_s (X.1,X.2.1,X.2.2.1,V.1,V.2,())))
def jY.co_ (a_1:YN)(last:Int)(text:List UInt8)(i_1:Int)(Z:((List UInt8)×(Int))⊕((List UInt8)×(Int))→Option ρ):Option ρ:=
  br (decide (i_1≤last))
   (bnd (idx a_1.1 i_1) fun y=>
    bnd (jJ y) fun y1=>
    bnd (okIf (decide (List.length (Array.toList (ByteArray.data (ByteArray.mk #[44])))+y1.length≤9223372036854775807))) fun y2=>
    bnd (okIf (decide (text.length+List.length (Array.toList (ByteArray.data (ByteArray.mk #[44]))++y1)≤9223372036854775807))) fun y3=>
    Z (.inl ((text++(Array.toList (ByteArray.data (ByteArray.mk #[44]))++y1)),(i64.wrap (i_1+1)))))
   (Z (.inr (text,i_1)))
def jY.co_s:Shape:=⟨[(0,sa73),(1,sa74),(2,sa65),(3,sa2),(4,sa2),(5,sa65),(6,sa2)],[]⟩
def jY.co_r:Ck:=Ck.ofLoop (S:=(List UInt8)×(Int)) (T:=(List UInt8)×(Int)) jY.co_s (fun X=>((q4 X).2.1,(q4 X).2.2.1)) (fun ρ X Q Z=>jY.co_ X.2.1 X.2.2.2.1 Q.1 Q.2 Z) (fun ρ X V Z=>Z 4 (Shape.inj jY.co_s (X.1,X.2.1,X.2.2.1,X.2.2.2.1,(q4 X).1,V.1,V.2,())))
def jY.cT_ (a_1:YN)(text:List UInt8)(Z:List UInt8→Option ρ):Option ρ:=
  br (decide (a_1.2>0))
   (bnd (JQ a_1.2) fun y=>
    bnd (jJ y) fun y1=>
    bnd (okIf (decide (List.length (Array.toList (ByteArray.data (ByteArray.mk #[47])))+y1.length≤9223372036854775807))) fun y2=>
    bnd (okIf (decide (text.length+List.length (Array.toList (ByteArray.data (ByteArray.mk #[47]))++y1)≤9223372036854775807))) fun y3=>
    Z (text++(Array.toList (ByteArray.data (ByteArray.mk #[47]))++y1)))
   (Z text)
def jY.cT_r:Ck:=Ck.of (T:=List UInt8) jY.co_s (fun ρ X Z=>jY.cT_ X.2.1 (q4 X).2.1 Z) (fun ρ X V Z=>Z 0 (Shape.inj jY.co_s (X.1,X.2.1,X.2.2.1,X.2.2.2.1,(q4 X).1,V,(q4 X).2.2)))
def jY (a:YN):Option (List UInt8):=
  bnd (iter (fun s↦jY.ca_ a s.1 s.2 some) ((0:Int),(0:Int))) fun y=>
  bnd (idx a.1 (0:Int)) fun y1=>
  bnd (jJ y1) fun y2=>
  bnd (iter (fun s↦jY.co_ a y.1 s.1 s.2 some) (y2,(1:Int))) fun y3=>
  bnd (jY.cT_ a y3.1 some) fun y4=>
  some y4
def jY.ce:Go.Ql.Callee:=⟨[(.st (.pair (.ar 8 (.st (.pair .bool (.sl (.int .i64))))) (.int .i64)))],[.str],fun X=>jY X⟩
def jY.G:Env:=⟨47,tab,[(40,jJ.ce),(41,JQ.ce)],[0,1,2,3,4,5,6,8,17,25,38],[8000001],[],[(249157,jY.cT_r),(100009,jY.co_r),(100003,jY.ca_r),(220486,jY.ck_r)],[],jI,[]⟩
theorem jY.p0:PcA jY.G Tryz.f16 0:=
  Jf (s:=jY.ca_r) (by kernel_rfl) (by kernel_rfl) (jW (sh:=jY.ck_s) (I:=fun X Q=>(X.1,X.2.1,X.2.2.1,Q.1,Q.2,())) (fun X=>rfl) (fun ρ X Q Z=>(jg (jb fun _=>jc) jc)) (fun ρ X t k=>(by kernel_rfl)) (fun X s=>by kernel_rfl))
theorem jY.p1:PcA jY.G Tryz.f16 1:=
  JR (s:=jY.ck_r) (by kernel_rfl) (by kernel_rfl) (jp (sh:=jY.ck_s) (fun ρ X Z=>(jb fun _=>(jg jc jc))) (fun ρ X t k=>(by kernel_rfl)) (fun X=>by kernel_rfl))
theorem jY.p2:PcA jY.G Tryz.f16 2:=
  Jf (s:=jY.co_r) (by kernel_rfl) (by kernel_rfl) (jW (sh:=jY.co_s) (I:=fun X Q=>(X.1,X.2.1,X.2.2.1,X.2.2.2.1,(q4 X).1,Q.1,Q.2,())) (fun X=>rfl) (fun ρ X Q Z=>(jg (jb fun _=>(jb fun _=>(jb fun _=>(jb fun _=>jc)))) jc)) (fun ρ X t k=>(by kernel_rfl)) (fun X s=>by kernel_rfl))
theorem jY.p3:PcA jY.G Tryz.f16 3:=
  JR (s:=jY.cT_r) (by kernel_rfl) (by kernel_rfl) (jp (sh:=jY.co_s) (fun ρ X Z=>(jg (jb fun _=>(jb fun _=>(jb fun _=>(jb fun _=>jc)))) jc)) (fun ρ X t k=>(by kernel_rfl)) (fun X=>by kernel_rfl))
theorem jY.ok:CalleeOk Tryz.prog 16 jY.ce:=fn_ok (G:=jY.G) jX mixed Tryz.func16 ⟨(jn jJ.ok (jn JQ.ok jK)),jE,jq,jD⟩ (m:=4) (by kernel_rfl) ⟨⟨⟨⟨trivial,jY.p0⟩,jY.p1⟩,jY.p2⟩,jY.p3⟩ (by kernel_rfl) (fun _=>by kernel_rfl)
end
end W
end
